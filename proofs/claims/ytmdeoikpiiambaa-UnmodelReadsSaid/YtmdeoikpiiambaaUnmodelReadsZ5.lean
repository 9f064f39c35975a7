/- Part 5 of the proof of the statement UnmodelReads: Mpf, Mpg, Mph, Mpi, Mpj, Mpk, Mpl, Mpm, Mpn, Mou, Mov, Mpo, Mpp, Mpq, Mpr, Mpt, Mpu, Mqa, Mqe, Mqf, Mqg, Mqh, Mqi, Mqj, Mqb, Mqk. -/
import Derived.Test.YtmdeoikpiiambaaUnmodelReadsZ4
section
/- The document's model: May, Dist, Plain. BRIEF -/
set_option linter.unusedVariables false
set_option linter.unusedSimpArgs false
set_option maxRecDepth 100000
namespace Go.Proofs.Ytmdeoikpiiambaa
open Go Go.Eng

section
variable {wr : Nat → Bool} {m : Mem} {nx : Nat}
set_option maxHeartbeats 2000000 in
theorem kmay (D : Rdm wr m nx) (lc lp pb : Int) : CallG false Try.prog 39 [.int .i64 lc, .int .i64 lp, .int .i64 pb] wr m nx (PK (.bool (mayB lc lp pb)) m nx) := by
  refine fn_okG Try.func39 rfl (by show 3 ≤ _; decide) ?_
  have no : mayB lc lp pb = false → Eng.Fin nx wr m nx (PK (.bool (mayB lc lp pb)) m nx) (.bool false) := fun e => by rw [e]; exact finP D _
  by_cases h0 : lc ≥ 0
  case neg =>
    have c0 : decide (lc ≥ 0) = false := decide_eq_false h0
    simp (maxSteps := 1000000) -implicitDefEqProofs only [go_sem, seval, -List.reduceReplicate, Try.results39, Try.ntmps39, c0]
    exact no (by
      cases hm : mayB lc lp pb with
      | false => rfl
      | true => exfalso; unfold mayB at hm; simp only [Bool.and_eq_true, decide_eq_true_eq] at hm; omega)
  have c0 : decide (lc ≥ 0) = true := decide_eq_true h0
  by_cases h1 : lc ≤ 4
  case neg =>
    have c1 : decide (lc ≤ 4) = false := decide_eq_false h1
    simp (maxSteps := 1000000) -implicitDefEqProofs only [go_sem, seval, -List.reduceReplicate, Try.results39, Try.ntmps39, c0, c1]
    exact no (by
      cases hm : mayB lc lp pb with
      | false => rfl
      | true => exfalso; unfold mayB at hm; simp only [Bool.and_eq_true, decide_eq_true_eq] at hm; omega)
  have c1 : decide (lc ≤ 4) = true := decide_eq_true h1
  by_cases h2 : lp ≥ 0
  case neg =>
    have c2 : decide (lp ≥ 0) = false := decide_eq_false h2
    simp (maxSteps := 1000000) -implicitDefEqProofs only [go_sem, seval, -List.reduceReplicate, Try.results39, Try.ntmps39, c0, c1, c2]
    exact no (by
      cases hm : mayB lc lp pb with
      | false => rfl
      | true => exfalso; unfold mayB at hm; simp only [Bool.and_eq_true, decide_eq_true_eq] at hm; omega)
  have c2 : decide (lp ≥ 0) = true := decide_eq_true h2
  by_cases h3 : lp ≤ 4
  case neg =>
    have c3 : decide (lp ≤ 4) = false := decide_eq_false h3
    simp (maxSteps := 1000000) -implicitDefEqProofs only [go_sem, seval, -List.reduceReplicate, Try.results39, Try.ntmps39, c0, c1, c2, c3]
    exact no (by
      cases hm : mayB lc lp pb with
      | false => rfl
      | true => exfalso; unfold mayB at hm; simp only [Bool.and_eq_true, decide_eq_true_eq] at hm; omega)
  have c3 : decide (lp ≤ 4) = true := decide_eq_true h3
  by_cases h4 : IntKind.i64.wrap (lc + lp) ≤ 4
  case neg =>
    have c4 : decide (IntKind.i64.wrap (lc + lp) ≤ 4) = false := decide_eq_false h4
    simp (maxSteps := 1000000) -implicitDefEqProofs only [go_sem, seval, -List.reduceReplicate, Try.results39, Try.ntmps39, c0, c1, c2, c3, c4]
    have wa : IntKind.i64.wrap (lc + lp) = lc + lp := by rw [wrap_i64] <;> omega
    rw [wa] at h4
    exact no (by
      cases hm : mayB lc lp pb with
      | false => rfl
      | true => exfalso; unfold mayB at hm; simp only [Bool.and_eq_true, decide_eq_true_eq] at hm; omega)
  have c4 : decide (IntKind.i64.wrap (lc + lp) ≤ 4) = true := decide_eq_true h4
  by_cases h5 : pb ≥ 0
  case neg =>
    have c5 : decide (pb ≥ 0) = false := decide_eq_false h5
    simp (maxSteps := 1000000) -implicitDefEqProofs only [go_sem, seval, -List.reduceReplicate, Try.results39, Try.ntmps39, c0, c1, c2, c3, c4, c5]
    exact no (by
      cases hm : mayB lc lp pb with
      | false => rfl
      | true => exfalso; unfold mayB at hm; simp only [Bool.and_eq_true, decide_eq_true_eq] at hm; omega)
  have c5 : decide (pb ≥ 0) = true := decide_eq_true h5
  have wa : IntKind.i64.wrap (lc + lp) = lc + lp := by rw [wrap_i64] <;> omega
  have h4' := h4
  rw [wa] at h4'
  have e : mayB lc lp pb = decide (pb ≤ 4) := by
    unfold mayB
    rw [decide_eq_true (show 0 ≤ lc by omega), decide_eq_true (show lc ≤ 4 by omega), decide_eq_true (show 0 ≤ lp by omega), decide_eq_true (show lp ≤ 4 by omega), decide_eq_true (show lc + lp ≤ 4 by omega), decide_eq_true (show 0 ≤ pb by omega)]
    rfl
  rw [e]
  simp (maxSteps := 1000000) -implicitDefEqProofs only [go_sem, seval, -List.reduceReplicate, Try.results39, Try.ntmps39, c0, c1, c2, c3, c4, c5]
  exact finP D _
def distS (C : MC) (y : Sy) : Int := if y.k = 1 then y.d else if y.k = 2 then (repOf C y.r.toNat : Int) else 0
set_option maxHeartbeats 2000000 in
theorem kdist (D : Rdm wr m nx) (lt : ∀ p ∈ m, p.1 < nx) {c r rc q qc : Nat} {rs qs : List Value} {C : MC} {P : List (BitVec 16)} (hd : DoA c r rc q qc rs qs C P m) (y : Sy) (hy : y.k = 2 → 0 ≤ y.r ∧ y.r < 4) :
    CallG false Try.prog 45 [.ptr c 0, .agg (syL y)] wr m nx (fun v m' nx' => v = .int .i64 (distS C y) ∧ Gr m nx m' nx') := by
  refine fn_okG Try.func45 rfl (by show 2 ≤ _; decide) ?_
  have g1 := Gr.cons D.nd lt (syO y)
  have D1 := g1.rdm D
  have t5 : ∀ a b d e f : AV, List.take 5 [a, b, d, e, f] = [a, b, d, e, f] := fun _ _ _ _ _ => rfl
  have fin : ∀ V, V = distS C y → Eng.Fin nx wr ((nx, syO y) :: m) (nx + 1) (fun v m' nx' => v = .int .i64 (distS C y) ∧ Gr m nx m' nx') (.int .i64 V) := fun V e => Fin.keepW (m0 := (nx, syO y) :: m) (Nat.le_succ _) (memSame_slf g1.nd) g1.nd D1.kp ⟨by rw [e], g1⟩
  have co := hd.co
  have re := hd.re
  have cl := look_ltm lt co
  have rl := look_ltm lt re
  have fc : (nx = c) = False := eq_false (by omega)
  have fr : (nx = r) = False := eq_false (by omega)
  have f0 : decide (nx + 1 ≤ nx) = false := decide_eq_false (by omega)
  have f1 : decide (nx + 1 ≤ c) = false := decide_eq_false (by omega)
  have f2 : decide (nx + 1 ≤ r) = false := decide_eq_false (by omega)
  by_cases k1 : y.k = 1
  · have e1 : (y.k == 1) = true := by simp [k1]
    simp (maxSteps := 1000000) -implicitDefEqProofs only [go_sem, seval, -List.reduceReplicate, Try.results45, Try.ntmps45, syL, t5, e1]
    exact fin _ (by unfold distS; rw [if_pos k1])
  have e1 : (y.k == 1) = false := by simp [k1]
  by_cases k2 : y.k = 2
  · have e2 : (y.k == 2) = true := by simp [k2]
    obtain ⟨y1, y2⟩ := hy k2
    obtain ⟨w, hrw⟩ : ∃ w : Nat, y.r = (w : Int) := ⟨y.r.toNat, by omega⟩
    have hw4 : w < 4 := by omega
    have hrp : (rpL C ++ rs.map AV.val).getD w (.int .i64 0) = .int .i64 (repOf C w : Nat) := by
      rcases (show w = 0 ∨ w = 1 ∨ w = 2 ∨ w = 3 by omega) with rfl | rfl | rfl | rfl <;> rfl
    have hl : (rpL C ++ rs.map AV.val).length = rs.length + 4 := by rw [List.length_append, List.length_map, Nat.add_comm]; rfl
    have fin := fun (_ : True = True) => fin ((repOf C w : Nat) : Int) (by unfold distS; rw [if_neg k1, if_pos k2, hrw, Int.toNat_natCast])
    unfold syO syL at fin
    rw [hrw] at fin
    generalize rpL C ++ rs.map AV.val = Lr at *
    simp (maxSteps := 1000000) -implicitDefEqProofs only [go_sem, seval, -List.reduceReplicate, Try.results45, Try.ntmps45, syL, t5, e1, e2, hrw]
    refine ⟨Fx.mixed, .inl ⟨[(0, false), (1, false), (2, false), (3, false), (4, false), (5, false), (6, false), (7, false), (8, false)], [], by kernel_rfl, (fun j hj => by cases hj), ?_⟩⟩
    simp (maxSteps := 1000000) -implicitDefEqProofs only [go_sem, seval, -List.reduceReplicate, t5, e1, e2, hrw, co, re, fc, fr, f0, f1, f2, hrp, hl]
    exact ⟨by omega, by omega, fin rfl⟩
  · have e2 : (y.k == 2) = false := by simp [k2]
    simp (maxSteps := 1000000) -implicitDefEqProofs only [go_sem, seval, -List.reduceReplicate, Try.results45, Try.ntmps45, syL, t5, e1, e2]
    exact fin _ (by unfold distS; rw [if_neg k1, if_neg k2])
end
end Go.Proofs.Ytmdeoikpiiambaa
end
section
/- The document's model: Fits. BRIEF -/
set_option linter.unusedVariables false
set_option linter.unusedSimpArgs false
set_option maxRecDepth 100000
namespace Go.Proofs.Ytmdeoikpiiambaa
open Go Go.Eng

section
variable {wr : Nat → Bool} {m : Mem} {nx : Nat}
end
end Go.Proofs.Ytmdeoikpiiambaa
end
section
/- The document's model: what a coder becomes. BRIEF -/
set_option linter.unusedVariables false
set_option linter.unusedSimpArgs false
set_option maxRecDepth 100000
namespace Go.Proofs.Ytmdeoikpiiambaa
open Go Go.Eng

/-- what lies beside a coder of the document -/
structure Rid where
  At : Mem → List Nat → Prop
  ext : ∀ {m m' : Mem} {ns : List Nat}, At m ns → (∀ k ∈ ns, ∀ o, Eng.look m k = some o → Eng.look m' k = some o) → At m' ns
  live : ∀ {m : Mem} {ns : List Nat}, At m ns → ∀ k ∈ ns, ∃ o, Eng.look m k = some o
def noR : Rid := ⟨fun _ ns => ns = [], fun h _ => h, fun h k hk => by cases h; cases hk⟩
def KD (Z : Rid) (c : Nat) (C : MC) (m : Mem) (P : List (BitVec 16)) (ns : List Nat) : Prop := ∃ r rc q qc rs qs ne, ns = c :: r :: q :: ne ∧ DoA c r rc q qc rs qs C P m ∧ Z.At m ne ∧ c ∉ ne ∧ r ∉ ne ∧ q ∉ ne
def dcL (C : MC) (R Q : AV) : List AV := [.int .i64 (C.lc : Nat), .int .i64 (C.lp : Nat), .int .i64 (C.pb : Nat), .int .i64 (C.st : Nat), R, Q]
section
variable {Z : Rid} {wr : Nat → Bool} {m : Mem} {nx c : Nat} {C : MC} {P : List (BitVec 16)} {r rc q qc : Nat} {rs qs : List Value} {ne : List Nat}
theorem kaEnd (D : Rdm wr m nx) (lt : ∀ p ∈ m, p.1 < nx) (hw : ∀ k ∈ c :: r :: q :: ne, wr k = true) (hd : DoA c r rc q qc rs qs C P m) (he : Z.At m ne) (n1 : c ∉ ne) (n2 : r ∉ ne) (n3 : q ∉ ne) {M : Mem} {nxM r' rc' : Nat} {rs' : List Value} {C' : MC}
    (F : Fr (c :: r :: q :: ne) m nx M nxM) (hc : Eng.look M c = some (.cells (dcL C' (.sl r' 0 4 rc') (.sl q 0 P.length qc)) 80)) (hr : Eng.look M r' = some (.cells (rpL C' ++ rs'.map AV.val) 3)) (hk : ∀ k ∈ q :: ne, ∀ o, Eng.look m k = some o → Eng.look M k = some o) (hr' : r' = r ∨ nx ≤ r') (kin : Kin C C') (l1 : 4 + rs'.length = rc') (l2 : rc' ≤ maxI) :
    Eng.Fin nx wr M nxM (OwK (KD Z c C') (.tup []) P (c :: r :: q :: ne) m nx) (.tup []) := by
  have cl := look_ltm lt hd.co
  have ql := look_ltm lt hd.ch
  have nel : ∀ k ∈ ne, k < nx := fun k hk => by obtain ⟨o, ho⟩ := Z.live he k hk; exact look_ltm lt ho
  refine Fr.fin (At := KD Z c C') (s' := P) F D hw ⟨r', rc', q, qc, rs', qs, ne, rfl, ⟨hc, hr, hk q (.head _) _ hd.ch, ?_, hd.cq, ?_, l1, l2, hd.ql, hd.qm, by rw [hd.len, szP, szP, kin.1, kin.2.1]⟩, Z.ext he fun k hkn o ho => hk k (.tail _ hkn) o ho, n1, ?_, n3⟩ fun k hk => ?_
  · rcases hr' with rfl | h
    · exact hd.cr
    · omega
  · rcases hr' with rfl | h
    · exact hd.rq
    · omega
  · rcases hr' with rfl | h
    · exact n2
    · exact fun hm => by have := nel r' hm; omega
  · rcases List.mem_cons.1 hk with rfl | hk
    · exact .inl (.head _)
    rcases List.mem_cons.1 hk with rfl | hk
    · exact hr'.imp (fun e => by rw [e]; exact .tail _ (.head _)) id
    · exact .inl (.tail _ (.tail _ hk))
set_option maxHeartbeats 4000000 in
theorem kbec0 (D : Rdm wr m nx) (lt : ∀ p ∈ m, p.1 < nx) (hw : ∀ k ∈ c :: r :: q :: ne, wr k = true) (hd : DoA c r rc q qc rs qs C P m) (he : Z.At m ne) (n1 : c ∉ ne) (n2 : r ∉ ne) (n3 : q ∉ ne) (hst : C.st < 12) (y : Sy) (hk0 : y.k = 0) :
    CallG false Try.prog 53 [.ptr c 0, .agg (syL y)] wr m nx (OwK (KD Z c (becC C y)) (.tup []) P (c :: r :: q :: ne) m nx) := by
  refine fn_okG Try.func53 rfl (by show 2 ≤ _; decide) ?_
  have t5 : ∀ a b d e f : AV, List.take 5 [a, b, d, e, f] = [a, b, d, e, f] := fun _ _ _ _ _ => rfl
  have co := hd.co
  have cl := look_ltm lt co
  have rl := look_ltm lt hd.re
  have ql := look_ltm lt hd.ch
  have nel : ∀ k ∈ ne, k < nx := fun k hk => by obtain ⟨o, ho⟩ := Z.live he k hk; exact look_ltm lt ho
  have fc : (nx = c) = False := eq_false (by omega)
  have bc : (nx == c) = false := by rw [beq_eq_false_iff_ne]; omega
  have wc : wr c = true := hw c (.head _)
  have e0 : (y.k == 0) = true := by simp [hk0]
  have eb : becC C y = litGo C := by unfold becC; rw [if_pos hk0]
  rw [eb]
  have fin : ∀ v : Nat, v = (litGo C).st → Eng.Fin nx wr ((nx, syO y) :: Eng.upd m c (.cells (dcL { C with st := v } (.sl r 0 4 rc) (.sl q 0 P.length qc)) 80)) (nx + 1) (OwK (KD Z c (litGo C)) (.tup []) P (c :: r :: q :: ne) m nx) (.tup []) := fun v hv => by
    have F1 := Fr.upd (ns := c :: r :: q :: ne) D lt (.head _) (.cells (dcL { C with st := v } (.sl r 0 4 rc) (.sl q 0 P.length qc)) 80)
    refine kaEnd D lt hw hd he n1 n2 n3 (r' := r) (rc' := rc) (rs' := rs) (F1.trans (Fr.gr (ns := []) (Gr.cons F1.nd F1.lt (syO y))) lt fun k hk => by cases hk) ?_ ?_ ?_ (.inl rfl) ⟨rfl, rfl, rfl⟩ hd.rl hd.rm
    · rw [look_cons, if_neg (by omega), look_upd_same _ co, hv]; rfl
    · rw [look_cons, if_neg (by omega), look_upd_other _ hd.cr]; exact hd.re
    · intro k hk o ho
      have : k < nx := look_ltm lt ho
      have hck : c ≠ k := fun e => by
        rcases List.mem_cons.1 hk with h | h
        · exact hd.cq (by rw [e, h])
        · exact n1 (by rw [e]; exact h)
      rw [look_cons, if_neg (by omega), look_upd_other _ hck]; exact ho
  by_cases h4 : C.st < 4
  · have c1 : decide (((C.st : Nat) : Int) < 4) = true := decide_eq_true (by omega)
    simp (maxSteps := 1000000) -implicitDefEqProofs only [go_sem, seval, -List.reduceReplicate, Try.results53, Try.ntmps53, syL, t5, e0, co, fc, c1, wc]
    exact fin 0 (by unfold litGo; rw [if_pos h4])
  have c1 : decide (((C.st : Nat) : Int) < 4) = false := decide_eq_false (by omega)
  by_cases h10 : C.st < 10
  · have c2 : decide (((C.st : Nat) : Int) < 10) = true := decide_eq_true (by omega)
    have w3 : IntKind.i64.wrap (((C.st : Nat) : Int) - 3) = ((C.st - 3 : Nat) : Int) := by rw [wrap_i64] <;> omega
    simp (maxSteps := 1000000) -implicitDefEqProofs only [go_sem, seval, -List.reduceReplicate, Try.results53, Try.ntmps53, syL, t5, e0, co, fc, c1, c2, w3, wc]
    exact fin (C.st - 3) (by unfold litGo; rw [if_neg h4, if_pos h10])
  · have c2 : decide (((C.st : Nat) : Int) < 10) = false := decide_eq_false (by omega)
    have w3 : IntKind.i64.wrap (((C.st : Nat) : Int) - 6) = ((C.st - 6 : Nat) : Int) := by rw [wrap_i64] <;> omega
    simp (maxSteps := 1000000) -implicitDefEqProofs only [go_sem, seval, -List.reduceReplicate, Try.results53, Try.ntmps53, syL, t5, e0, co, fc, c1, c2, w3, wc]
    exact fin (C.st - 6) (by unfold litGo; rw [if_neg h4, if_neg h10])
set_option maxHeartbeats 4000000 in
theorem kbec1 (D : Rdm wr m nx) (lt : ∀ p ∈ m, p.1 < nx) (hw : ∀ k ∈ c :: r :: q :: ne, wr k = true) (hd : DoA c r rc q qc rs qs C P m) (he : Z.At m ne) (n1 : c ∉ ne) (n2 : r ∉ ne) (n3 : q ∉ ne) (hst : C.st < 12) (y : Sy) (hk1 : y.k = 1) (hd0 : 0 ≤ y.d) :
    CallG false Try.prog 53 [.ptr c 0, .agg (syL y)] wr m nx (OwK (KD Z c (becC C y)) (.tup []) P (c :: r :: q :: ne) m nx) := by
  refine fn_okG Try.func53 rfl (by show 2 ≤ _; decide) ?_
  have t5 : ∀ a b d e f : AV, List.take 5 [a, b, d, e, f] = [a, b, d, e, f] := fun _ _ _ _ _ => rfl
  have co := hd.co
  have re := hd.re
  have cl := look_ltm lt co
  have rl := look_ltm lt hd.re
  have ql := look_ltm lt hd.ch
  have nel : ∀ k ∈ ne, k < nx := fun k hk => by obtain ⟨o, ho⟩ := Z.live he k hk; exact look_ltm lt ho
  have fc : (nx = c) = False := eq_false (by omega)
  have fr : (nx = r) = False := eq_false (by omega)
  have fc2 : (nx + 1 = c) = False := eq_false (by omega)
  have bc : (c == nx) = false := by rw [beq_eq_false_iff_ne]; omega
  have bcr : (r == c) = false := by rw [beq_eq_false_iff_ne]; exact fun e => hd.cr e.symm
  have bnc : (nx == c) = false := by rw [beq_eq_false_iff_ne]; omega
  have g0 : decide (nx + 1 ≤ nx) = false := decide_eq_false (by omega)
  have g1 : decide (nx + 1 ≤ c) = false := decide_eq_false (by omega)
  have g2 : decide (nx + 1 ≤ r) = false := decide_eq_false (by omega)
  have wc : wr c = true := hw c (.head _)
  have e0 : (y.k == 0) = false := by simp [hk1]
  have e1 : (y.k == 1) = true := by simp [hk1]
  obtain ⟨d, hyd⟩ : ∃ d : Nat, y.d = (d : Int) := ⟨y.d.toNat, by omega⟩
  have eb : becC C y = go1 (front C 3 d) 7 10 := by unfold becC; rw [if_neg (by omega), if_pos hk1, hyd, Int.toNat_natCast]
  rw [eb]
  have fin : ∀ (v : Nat) (O1 : AObj), v = (go1 (front C 3 d) 7 10).st → Eng.Fin nx wr ((nx + 1, .cells [.int .i64 (d : Nat), .int .i64 (C.r0 : Nat), .int .i64 (C.r1 : Nat), .int .i64 (C.r2 : Nat)] 3) :: (nx, O1) :: Eng.upd m c (.cells (dcL { C with st := v } (.sl (nx + 1) 0 4 4) (.sl q 0 P.length qc)) 80)) (nx + 1 + 1) (OwK (KD Z c (go1 (front C 3 d) 7 10)) (.tup []) P (c :: r :: q :: ne) m nx) (.tup []) := fun v O1 hv => by
    have F1 := Fr.upd (ns := c :: r :: q :: ne) D lt (.head _) (.cells (dcL { C with st := v } (.sl (nx + 1) 0 4 4) (.sl q 0 P.length qc)) 80)
    have G1 := Gr.cons F1.nd F1.lt O1
    have G2 := G1.trans (Gr.cons G1.nd G1.lt (.cells [.int .i64 (d : Nat), .int .i64 (C.r0 : Nat), .int .i64 (C.r1 : Nat), .int .i64 (C.r2 : Nat)] 3))
    refine kaEnd D lt hw hd he n1 n2 n3 (r' := nx + 1) (rc' := 4) (rs' := []) (F1.trans (Fr.gr (ns := []) G2) lt fun k hk => by cases hk) ?_ ?_ ?_ (.inr (by omega)) ⟨rfl, rfl, rfl⟩ rfl (by decide)
    · rw [look_cons, if_neg (by omega), look_cons, if_neg (by omega), look_upd_same _ co, hv]; rfl
    · rw [look_cons, if_pos rfl]; rfl
    · intro k hk o ho
      have : k < nx := look_ltm lt ho
      have hck : c ≠ k := fun e => by
        rcases List.mem_cons.1 hk with h | h
        · exact hd.cq (by rw [e, h])
        · exact n1 (by rw [e]; exact h)
      rw [look_cons, if_neg (by omega), look_cons, if_neg (by omega), look_upd_other _ hck]; exact ho
  unfold rpL at re
  by_cases h7 : C.st ≥ 7
  · have c1 : decide (((C.st : Nat) : Int) ≥ 7) = true := decide_eq_true (by omega)
    simp (maxSteps := 1000000) -implicitDefEqProofs only [go_sem, seval, -List.reduceReplicate, Try.results53, Try.ntmps53, syL, t5, e0, e1, hyd, co, fc, c1, wc]
    refine ⟨Fx.mixed, .inr (.inl ⟨[(0, false), (1, false), (2, false), (3, false), (4, false), (5, false), (6, false), (7, false), (8, false), (9, false), (10, false), (11, false), (12, false), (13, false), (14, false), (15, false), (16, false), (17, false), (18, false), (19, false), (20, false), (21, true), (22, false), (23, false), (24, true)], [c], [24], [6, 12, 18], by kernel_rfl, by kernel_rfl, (fun j hj => by cases List.mem_singleton.1 hj; exact ⟨wc, by rw [look_cons, if_neg (by omega), co]; rfl⟩), ?_⟩)⟩
    simp (maxSteps := 1000000) -implicitDefEqProofs only [go_sem, seval, -List.reduceReplicate, t5, hyd, co, re, fc, fr, fc2, bc, bcr, bnc, g0, g1, g2, wc, look_upd_s, look_upd_o, upd_upd, Option.isSome_some, beq_self_eq_true]
    exact ⟨by omega, by omega, by omega, .inr trivial, fin 10 _ (by show _ = (if C.st < 7 then 7 else 10); rw [if_neg (by omega)])⟩
  · have c1 : decide (((C.st : Nat) : Int) ≥ 7) = false := decide_eq_false (by omega)
    simp (maxSteps := 1000000) -implicitDefEqProofs only [go_sem, seval, -List.reduceReplicate, Try.results53, Try.ntmps53, syL, t5, e0, e1, hyd, co, fc, c1, wc]
    refine ⟨Fx.mixed, .inr (.inl ⟨[(0, false), (1, false), (2, false), (3, false), (4, false), (5, false), (6, false), (7, false), (8, false), (9, false), (10, false), (11, false), (12, false), (13, false), (14, false), (15, false), (16, false), (17, false), (18, false), (19, false), (20, false), (21, true), (22, false), (23, false), (24, true)], [c], [24], [6, 12, 18], by kernel_rfl, by kernel_rfl, (fun j hj => by cases List.mem_singleton.1 hj; exact ⟨wc, by rw [look_cons, if_neg (by omega), co]; rfl⟩), ?_⟩)⟩
    simp (maxSteps := 1000000) -implicitDefEqProofs only [go_sem, seval, -List.reduceReplicate, t5, hyd, co, re, fc, fr, fc2, bc, bcr, bnc, g0, g1, g2, wc, look_upd_s, look_upd_o, upd_upd, Option.isSome_some, beq_self_eq_true]
    exact ⟨by omega, by omega, by omega, .inr trivial, fin 7 _ (by show _ = (if C.st < 7 then 7 else 10); rw [if_pos (by omega)])⟩
end
end Go.Proofs.Ytmdeoikpiiambaa
end
section
/- The document's model: what a coder becomes behind a repeat. BRIEF -/
set_option linter.unusedVariables false
set_option linter.unusedSimpArgs false
set_option maxRecDepth 100000
namespace Go.Proofs.Ytmdeoikpiiambaa
open Go Go.Eng

theorem del_sub : ∀ (m : Mem) (n : Nat), (del m n).Sublist m
  | [], n => List.Sublist.slnil
  | (k, o) :: r, n => by
    show (if k = n then del r n else (k, o) :: del r n).Sublist _
    split
    · exact (del_sub r n).cons _
    · exact (del_sub r n).cons_cons _
theorem Gr.del {m M : Mem} {nx nxM k : Nat} (lt : ∀ p ∈ m, p.1 < nx) (g : Gr m nx M nxM) (hk : nx ≤ k) : Gr m nx (Eng.del M k) nxM :=
  ⟨g.le, List.Sublist.nodup ((del_sub M k).map _) g.nd, fun p hp => g.lt p ((del_sub M k).subset hp), fun n o ho => by rw [look_del_other (by have := look_ltm lt ho; omega)]; exact g.kp n o ho⟩
/-- the repeats, the one first, as they are put together -/
def lstW (C : MC) (w i : Nat) : List Nat := repOf C w :: ((List.range i).filter fun j => j != w).map (repOf C)
def lstB (C : MC) (w i : Nat) : List (BitVec 64) := (lstW C w i).map (BitVec.ofNat 64)
theorem lstB_same (C : MC) (w : Nat) : lstB C w (w + 1) = lstB C w w := by
  unfold lstB lstW
  rw [List.range_succ, List.filter_append]
  simp
theorem lstB_next (C : MC) (w i : Nat) (h : i ≠ w) : lstB C w (i + 1) = lstB C w i ++ [BitVec.ofNat 64 (repOf C i)] := by
  unfold lstB lstW
  rw [List.range_succ, List.filter_append]
  simp [h]
theorem lstB_len (C : MC) (w i : Nat) : (lstB C w i).length ≤ i + 1 := by
  unfold lstB lstW
  rw [List.length_map, List.length_cons, List.length_map]
  have := List.length_filter_le (fun j => j != w) (List.range i)
  rw [List.length_range] at this
  omega
theorem lstB_end {C : MC} (hC : MCok C) (w : Nat) (hw : w < 4) : bvs .i64 (lstB C w 4) = rpL (front C w (repOf C w)) := by
  have h : ∀ n : Nat, n < 1099511627776 → (((BitVec.ofNat 64 n).toNat : Nat) : Int) = (n : Int) := fun n hn => by
    rw [BitVec.toNat_ofNat, Nat.mod_eq_of_lt (by omega)]
  obtain ⟨_, a0⟩ := hC.r0
  obtain ⟨_, a1⟩ := hC.r1
  obtain ⟨_, a2⟩ := hC.r2
  obtain ⟨_, a3⟩ := hC.r3
  have b0 := h _ a0
  have b1 := h _ a1
  have b2 := h _ a2
  have b3 := h _ a3
  rcases (show w = 0 ∨ w = 1 ∨ w = 2 ∨ w = 3 by omega) with rfl | rfl | rfl | rfl
  · show [AV.int .i64 _, AV.int .i64 _, AV.int .i64 _, AV.int .i64 _] = [AV.int .i64 _, AV.int .i64 _, AV.int .i64 _, AV.int .i64 _]
    show [AV.int .i64 (((BitVec.ofNat 64 C.r0).toNat : Nat) : Int), AV.int .i64 (((BitVec.ofNat 64 C.r1).toNat : Nat) : Int), AV.int .i64 (((BitVec.ofNat 64 C.r2).toNat : Nat) : Int), AV.int .i64 (((BitVec.ofNat 64 C.r3).toNat : Nat) : Int)] = _
    rw [b0, b1, b2, b3]; rfl
  · show [AV.int .i64 (((BitVec.ofNat 64 C.r1).toNat : Nat) : Int), AV.int .i64 (((BitVec.ofNat 64 C.r0).toNat : Nat) : Int), AV.int .i64 (((BitVec.ofNat 64 C.r2).toNat : Nat) : Int), AV.int .i64 (((BitVec.ofNat 64 C.r3).toNat : Nat) : Int)] = _
    rw [b0, b1, b2, b3]; rfl
  · show [AV.int .i64 (((BitVec.ofNat 64 C.r2).toNat : Nat) : Int), AV.int .i64 (((BitVec.ofNat 64 C.r0).toNat : Nat) : Int), AV.int .i64 (((BitVec.ofNat 64 C.r1).toNat : Nat) : Int), AV.int .i64 (((BitVec.ofNat 64 C.r3).toNat : Nat) : Int)] = _
    rw [b0, b1, b2, b3]; rfl
  · show [AV.int .i64 (((BitVec.ofNat 64 C.r3).toNat : Nat) : Int), AV.int .i64 (((BitVec.ofNat 64 C.r0).toNat : Nat) : Int), AV.int .i64 (((BitVec.ofNat 64 C.r1).toNat : Nat) : Int), AV.int .i64 (((BitVec.ofNat 64 C.r2).toNat : Nat) : Int)] = _
    rw [b0, b1, b2, b3]; rfl
section
variable {Z : Rid} {wr : Nat → Bool} {m : Mem} {nx c : Nat} {C : MC} {P : List (BitVec 16)} {r rc q qc : Nat} {rs qs : List Value} {ne : List Nat}
set_option maxHeartbeats 4000000 in
theorem kbec2 (D : Rdm wr m nx) (lt : ∀ p ∈ m, p.1 < nx) (hw : ∀ k ∈ c :: r :: q :: ne, wr k = true) (hd : DoA c r rc q qc rs qs C P m) (he : Z.At m ne) (n1 : c ∉ ne) (n2 : r ∉ ne) (n3 : q ∉ ne) (hC : MCok C) (y : Sy) (hk2 : y.k = 2) (hy : 0 ≤ y.r ∧ y.r < 4) :
    CallG false Try.prog 53 [.ptr c 0, .agg (syL y)] wr m nx (OwK (KD Z c (becC C y)) (.tup []) P (c :: r :: q :: ne) m nx) := by
  refine fn_okG Try.func53 rfl (by show 2 ≤ _; decide) ?_
  have t5 : ∀ a b d e f : AV, List.take 5 [a, b, d, e, f] = [a, b, d, e, f] := fun _ _ _ _ _ => rfl
  have co := hd.co
  have re := hd.re
  have cl := look_ltm lt co
  have rl := look_ltm lt hd.re
  have ql := look_ltm lt hd.ch
  have fc : (nx = c) = False := eq_false (by omega)
  have fr : (nx = r) = False := eq_false (by omega)
  have g0 : decide (nx + 1 ≤ nx) = false := decide_eq_false (by omega)
  have g1 : decide (nx + 1 ≤ c) = false := decide_eq_false (by omega)
  have g2 : decide (nx + 1 ≤ r) = false := decide_eq_false (by omega)
  have e0 : (y.k == 0) = false := by simp [hk2]
  have e1 : (y.k == 1) = false := by simp [hk2]
  have e2 : (y.k == 2) = true := by simp [hk2]
  obtain ⟨w, hyr⟩ : ∃ w : Nat, y.r = (w : Int) := ⟨y.r.toNat, by omega⟩
  have hw4 : w < 4 := by omega
  have hrp : ∀ i, i < 4 → (rpL C ++ rs.map AV.val).getD i (.int .i64 0) = .int .i64 (repOf C i : Nat) := fun i h => by
    rcases (show i = 0 ∨ i = 1 ∨ i = 2 ∨ i = 3 by omega) with rfl | rfl | rfl | rfl <;> rfl
  have hl : (rpL C ++ rs.map AV.val).length = rs.length + 4 := by rw [List.length_append, List.length_map, Nat.add_comm]; rfl
  have hrw := hrp w hw4
  obtain ⟨sv, hsv⟩ : ∃ sv, sv = decide (((C.st : Nat) : Int) ≥ 7) := ⟨_, rfl⟩
  simp (maxSteps := 1000000) -implicitDefEqProofs only [go_sem, seval, -List.reduceReplicate, Try.results53, Try.ntmps53, syL, t5, e0, e1, e2, hyr, co, fc, ← hsv]
  refine ⟨Fx.mixed, .inl ⟨[(0, false), (1, false), (2, false), (3, false), (4, false), (5, false), (6, false), (7, false), (8, true), (9, false)], [], by kernel_rfl, (fun j hj => by cases hj), ?_⟩⟩
  simp (maxSteps := 1000000) -implicitDefEqProofs only [go_sem, seval, -List.reduceReplicate, t5, hyr, co, re, fc, fr, g0, g1, g2, hrw, hl]
  refine ⟨by omega, by omega, .inr trivial, ?_⟩
  have rb : ∀ j, repOf C j < 1099511627776 := fun j => (repOf_ok hC j).2
  have one : ∀ j, (List.replicate 1 (AV.int .i64 0)).set 0 (AV.int .i64 (repOf C j : Nat)) = bvs .i64 [BitVec.ofNat 64 (repOf C j)] := fun j => by
    show [AV.int .i64 ((repOf C j : Nat) : Int)] = [AV.int .i64 (((BitVec.ofNat 64 (repOf C j)).toNat : Nat) : Int)]
    rw [BitVec.toNat_ofNat, Nat.mod_eq_of_lt (by have := rb j; omega)]
  have tk1 : ∀ j, List.take 1 ((List.replicate 1 (AV.int .i64 0)).set 0 (AV.int .i64 (repOf C j : Nat))) = bvs .i64 [BitVec.ofNat 64 (repOf C j)] := fun j => by rw [one]; rfl
  have G1 := Gr.cons D.nd lt (.cells [.int .i64 y.k, .int .u8 ((y.b.toNat : Nat) : Int), .int .i64 y.l, .int .i64 y.d, .int .i64 (w : Nat)] 71)
  have GA := G1.trans (Gr.cons G1.nd G1.lt (.cells ((List.replicate 1 (AV.int .i64 0)).set 0 (AV.int .i64 (repOf C w : Nat))) 3))
  refine LoopOk.upX (fun i (x : Nat × Nat × List Value × Mem × Nat) => Gr m nx x.2.2.2.1 x.2.2.2.2 ∧ Eng.look x.2.2.2.1 x.1 = some (.cells (bvs .i64 (lstB C w i) ++ x.2.2.1.map AV.val) 3) ∧ nx + 1 ≤ x.1 ∧ x.1 < x.2.2.2.2 ∧ (lstB C w i).length + x.2.2.1.length = x.2.1 ∧ x.2.1 ≤ maxI ∧ Eng.look x.2.2.2.1 nx = some (.cells [.int .i64 y.k, .int .u8 ((y.b.toNat : Nat) : Int), .int .i64 y.l, .int .i64 y.d, .int .i64 (w : Nat)] 71)) 4
    (fun i x => ([(6, .int .i64 (i : Nat)), (5, .sl x.1 0 (lstB C w i).length x.2.1), (4, .bool sv), (3, .ptr nx 0), (0, .ptr c 0)], x.2.2.2.1, x.2.2.2.2)) (nx + 1, 1, [], _, nx + 1 + 1) ⟨GA, by rw [look_cons, if_pos rfl, one]; rfl, Nat.le_refl _, Nat.lt_succ_self _, rfl, (by show 1 ≤ maxI; decide), by rw [look_cons, if_neg (by omega), look_cons, if_pos rfl]⟩ ((GA.rdm D).leN (by omega) ⟨rfl, rfl, rfl, rfl, rfl, trivial⟩) ?_
  rintro i ⟨n, cap, sp, M, nxM⟩ ⟨hi4, a1, a2, a3, a4, a5, a6, a7⟩
  have a1 : Gr m nx M nxM := a1
  have a2 : Eng.look M n = some (.cells (bvs .i64 (lstB C w i) ++ sp.map AV.val) 3) := a2
  have a3 : nx + 1 ≤ n := a3
  have a4 : n < nxM := a4
  have a5 : (lstB C w i).length + sp.length = cap := a5
  have a6 : cap ≤ maxI := a6
  have a7 : Eng.look M nx = some (.cells [.int .i64 y.k, .int .u8 ((y.b.toNat : Nat) : Int), .int .i64 y.l, .int .i64 y.d, .int .i64 (w : Nat)] 71) := a7
  have wi : IntKind.i64.wrap ((i : Int) + 1) = ((i + 1 : Nat) : Int) := by rw [wrap_i64] <;> omega
  have coM := a1.kp c _ co
  have reM := a1.kp r _ re
  rcases Nat.lt_or_ge i 4 with h' | h'
  · have c1 : decide ((i : Int) < 4) = true := decide_eq_true (by omega)
    have hri := hrp i h'
    by_cases hiw : i = w
    · have c2 : (((i : Nat) : Int) != ((w : Nat) : Int)) = false := by rw [hiw]; simp
      simp (maxSteps := 1000000) -implicitDefEqProofs only [go_sem, seval, -List.reduceReplicate, t5, hyr, c1, c2, a7, wi]
      have hlw : lstB C w (i + 1) = lstB C w i := by rw [hiw]; exact lstB_same C w
      refine UpX_normal h' (n, cap, sp, M, nxM) ⟨a1, by show Eng.look M n = some (.cells (bvs .i64 (lstB C w (i + 1)) ++ sp.map AV.val) 3); rw [hlw]; exact a2, a3, a4, by show (lstB C w (i + 1)).length + sp.length = cap; rw [hlw]; exact a5, a6, a7⟩ ?_
      dsimp only
      rw [hlw]
      exact (a1.rdm D).leN a1.le ⟨rfl, rfl, rfl, rfl, rfl, trivial⟩
    · have c2 : (((i : Nat) : Int) != ((w : Nat) : Int)) = true := by simp; omega
      have fcM : (nxM = c) = False := eq_false (by have := a1.le; omega)
      simp (maxSteps := 1000000) -implicitDefEqProofs only [go_sem, seval, -List.reduceReplicate, t5, hyr, c1, c2, a7, coM, reM, hri, hl]
      have hlb := lstB_len C w i
      refine ⟨by omega, by omega, .inr trivial, rfl, rfl, ?_⟩
      rw [tk1 i]
      refine appk_bvs (k := .i64) (x := lstB C w i) (y := [BitVec.ofNat 64 (repOf C i)]) (sp := sp) (by rw [look_cons, if_neg (by omega)]; exact a2) (D.wn n (by omega)) a5 a6 (by decide) (by rw [List.length_singleton]; omega) ?_
      intro cap2 sp2 d1 d2
      have hdn : ∀ O : AObj, Eng.del ((nxM, O) :: M) n = (nxM, O) :: Eng.del M n := fun O => by
        show (if nxM = n then _ else _) = _
        rw [if_neg (by omega)]
      rw [hdn]
      have b1 := Gr.del lt a1 (show nx ≤ n by omega)
      have b2 := b1.trans (Gr.cons b1.nd b1.lt (.cells ((List.replicate 1 (AV.int .i64 0)).set 0 (AV.int .i64 (repOf C i : Nat))) 3))
      have b3 := b2.trans (Gr.cons b2.nd b2.lt (.cells (bvs .i64 (lstB C w i ++ [BitVec.ofNat 64 (repOf C i)]) ++ sp2.map AV.val) 3))
      have hln := lstB_next C w i hiw
      simp (maxSteps := 1000000) -implicitDefEqProofs only [go_sem, seval, -List.reduceReplicate, wi]
      refine UpX_normal h' (nxM + 1, cap2, sp2, _, nxM + 1 + 1) ⟨b3, by rw [look_cons, if_pos rfl, hln], by show nx + 1 ≤ nxM + 1; omega, by show nxM + 1 < nxM + 1 + 1; omega, by show (lstB C w (i + 1)).length + sp2.length = cap2; rw [hln]; exact d1, d2, by show Eng.look ((nxM + 1, _) :: (nxM, _) :: Eng.del M n) nx = _; rw [look_cons, if_neg (by omega), look_cons, if_neg (by omega), look_del_other (by omega)]; exact a7⟩ ?_
      dsimp only
      rw [hln, List.length_append, List.length_singleton]
      exact (b3.rdm D).leN b3.le ⟨rfl, rfl, rfl, rfl, rfl, trivial⟩
  · have hi4' : i = 4 := by omega
    have c1 : decide ((i : Int) < 4) = false := decide_eq_false (by omega)
    have hend := lstB_end hC w hw4
    rw [hi4'] at a2 a5
    have hlen : (lstB C w 4).length = 4 := by rw [← bvs_length .i64, hend]; rfl
    rw [hend] at a2
    rw [hlen] at a5
    have hlen' : (lstB C w i).length = 4 := by rw [hi4']; exact hlen
    have wc : wr c = true := hw c (.head _)
    have bcn : (c == nx) = false := by rw [beq_eq_false_iff_ne]; omega
    have bcc : (nx == c) = false := by rw [beq_eq_false_iff_ne]; omega
    have fin : ∀ v : Nat, v = (becC C y).st → Eng.Fin nx wr (Eng.upd M c (.cells (dcL { C with st := v } (.sl n 0 4 cap) (.sl q 0 P.length qc)) 80)) nxM (OwK (KD Z c (becC C y)) (.tup []) P (c :: r :: q :: ne) m nx) (.tup []) := fun v hv => by
      have kf := front_kinds C w (repOf C w)
      have hk : Kin C (becC C y) ∧ rpL (becC C y) = rpL (front C w (repOf C w)) ∧ (becC C y).pb = C.pb := by
        unfold becC
        rw [if_neg (by omega), if_neg (by omega), hyr, Int.toNat_natCast]
        split <;> exact ⟨⟨kf.1, kf.2.1, kf.2.2.1⟩, rfl, kf.2.2.1⟩
      have F1 : Fr (c :: r :: q :: ne) m nx M nxM := Fr.gr a1
      have F2 := F1.trans (Fr.upd (ns := c :: r :: q :: ne) (a1.rdm D) a1.lt (.head _) (.cells (dcL { C with st := v } (.sl n 0 4 cap) (.sl q 0 P.length qc)) 80)) lt fun k hk => .inl hk
      refine kaEnd D lt hw hd he n1 n2 n3 (r' := n) (rc' := cap) (rs' := sp) F2 ?_ ?_ ?_ (.inr (by omega)) hk.1 a5 a6
      · rw [look_upd_same _ coM, hv]
        unfold dcL
        rw [hk.1.1, hk.1.2.1, hk.2.2]
      · rw [look_upd_other _ (by omega), hk.2.1]; exact a2
      · intro k hkk o ho
        have hck : c ≠ k := fun e => by
          rcases List.mem_cons.1 hkk with h | h
          · exact hd.cq (by rw [e, h])
          · exact n1 (by rw [e]; exact h)
        rw [look_upd_other _ hck]; exact a1.kp k o ho
    have est : (becC C y).st = if y.l = 1 then (if C.st < 7 then 9 else 11) else (if C.st < 7 then 8 else 11) := by
      unfold becC
      rw [if_neg (by omega), if_neg (by omega), hyr, Int.toNat_natCast]
      have kf := (front_kinds C w (repOf C w)).2.2.2
      split <;> (unfold go1; rw [kf])
    by_cases h7 : C.st ≥ 7
    · have hs7 : sv = true := by rw [hsv]; exact decide_eq_true (by omega)
      have fin := fin 11 (by rw [est]; split <;> rw [if_neg (by omega)])
      by_cases hl1 : y.l = 1
      · have l1 : (y.l == 1) = true := by simp [hl1]
        simp (maxSteps := 1000000) -implicitDefEqProofs only [go_sem, seval, -List.reduceReplicate, t5, c1, coM, a7, wc, hlen', l1, hs7, bcn, bcc, look_upd_s, look_upd_o, upd_upd, Option.isSome_some]
        exact fin
      · have l1 : (y.l == 1) = false := by simp [hl1]
        simp (maxSteps := 1000000) -implicitDefEqProofs only [go_sem, seval, -List.reduceReplicate, t5, c1, coM, a7, wc, hlen', l1, hs7, bcn, bcc, look_upd_s, look_upd_o, upd_upd, Option.isSome_some]
        exact fin
    · have hs7 : sv = false := by rw [hsv]; exact decide_eq_false (by omega)
      by_cases hl1 : y.l = 1
      · have l1 : (y.l == 1) = true := by simp [hl1]
        have fin := fin 9 (by rw [est, if_pos hl1, if_pos (by omega)])
        simp (maxSteps := 1000000) -implicitDefEqProofs only [go_sem, seval, -List.reduceReplicate, t5, c1, coM, a7, wc, hlen', l1, hs7, bcn, bcc, look_upd_s, look_upd_o, upd_upd, Option.isSome_some]
        exact fin
      · have l1 : (y.l == 1) = false := by simp [hl1]
        have fin := fin 8 (by rw [est, if_neg hl1, if_pos (by omega)])
        simp (maxSteps := 1000000) -implicitDefEqProofs only [go_sem, seval, -List.reduceReplicate, t5, c1, coM, a7, wc, hlen', l1, hs7, bcn, bcc, look_upd_s, look_upd_o, upd_upd, Option.isSome_some]
        exact fin
end
end Go.Proofs.Ytmdeoikpiiambaa
end
section
/- The document's model: what a coder becomes, all kinds. BRIEF -/
set_option linter.unusedVariables false
set_option linter.unusedSimpArgs false
set_option maxRecDepth 100000
namespace Go.Proofs.Ytmdeoikpiiambaa
open Go Go.Eng

theorem fitsB_kind {C : MC} {n : Nat} {y : Sy} (h : fitsB C n y = true) : y.k = 0 ∨ (y.k = 1 ∧ 1 ≤ y.d) ∨ (y.k = 2 ∧ 0 ≤ y.r ∧ y.r < 4) := by
  unfold fitsB at h
  by_cases h0 : y.k = 0
  · exact .inl h0
  rw [if_neg h0] at h
  by_cases h1 : y.k = 1
  · rw [if_pos h1] at h
    simp only [Bool.and_eq_true, decide_eq_true_eq] at h
    exact .inr (.inl ⟨h1, by omega⟩)
  rw [if_neg h1] at h
  by_cases h2 : y.k = 2
  · rw [if_pos h2] at h
    simp only [Bool.and_eq_true, Bool.or_eq_true, decide_eq_true_eq] at h
    exact .inr (.inr ⟨h2, by omega, by omega⟩)
  · rw [if_neg h2] at h; cases h
end Go.Proofs.Ytmdeoikpiiambaa
end
section
/- The document's model: a symbol is put (literals). BRIEF -/
set_option linter.unusedVariables false
set_option linter.unusedSimpArgs false
set_option maxRecDepth 100000
namespace Go.Proofs.Ytmdeoikpiiambaa
open Go Go.Eng

theorem KA.co {c a : Nat} {C : MC} {m : Mem} {x : List (BitVec 16) × RS} {ns : List Nat} (H : KA c a C m x ns) : ∃ R Q, Eng.look m c = some (.cells [.int .i64 (C.lc : Nat), .int .i64 (C.lp : Nat), .int .i64 (C.pb : Nat), .int .i64 (C.st : Nat), R, Q] 80) ∧ c ∈ ns := by
  obtain ⟨r, rc, q, qc, rs, qs, ne, rfl, hd, _⟩ := H
  exact ⟨_, _, hd.co, .head _⟩
theorem KA.gr {c a : Nat} {C : MC} {m m' : Mem} {nx nx' : Nat} {x : List (BitVec 16) × RS} {ns : List Nat} (H : KA c a C m x ns) (g : Gr m nx m' nx') : KA c a C m' x ns := by
  obtain ⟨r, rc, q, qc, rs, qs, ne, rfl, hd, he, h⟩ := H
  exact ⟨r, rc, q, qc, rs, qs, ne, rfl, hd.ext fun k _ o ho => g.kp k o ho, he.ext fun k _ o ho => g.kp k o ho, h⟩
section
variable {wr : Nat → Bool} {m : Mem} {nx c a : Nat} {C : MC} {P : List (BitVec 16)} {s : RS} {ns : List Nat}
end
end Go.Proofs.Ytmdeoikpiiambaa
end
section
/- The document's model: a symbol is put (matches). BRIEF -/
set_option linter.unusedVariables false
set_option linter.unusedSimpArgs false
set_option maxRecDepth 100000
namespace Go.Proofs.Ytmdeoikpiiambaa
open Go Go.Eng

section
variable {wr : Nat → Bool} {m : Mem} {nx c a : Nat} {C : MC} {P : List (BitVec 16)} {s : RS} {ns : List Nat}
end
end Go.Proofs.Ytmdeoikpiiambaa
end
section
/- The document's model: a symbol is put (repeats). Printed by gen_mpm.py. BRIEF -/
set_option linter.unusedVariables false
set_option linter.unusedSimpArgs false
set_option maxRecDepth 100000
namespace Go.Proofs.Ytmdeoikpiiambaa
open Go Go.Eng

theorem KA.live {c a : Nat} {C : MC} {m : Mem} {x : List (BitVec 16) × RS} {ns : List Nat} (H : KA c a C m x ns) : ∀ j ∈ ns, ∃ o, Eng.look m j = some o := fun j hj => by
  obtain ⟨r, rc, q, qc, rs, qs, ne, rfl, hd, he, _⟩ := H
  rcases List.mem_cons.1 hj with rfl | hj
  · exact ⟨_, hd.co⟩
  rcases List.mem_cons.1 hj with rfl | hj
  · exact ⟨_, hd.re⟩
  rcases List.mem_cons.1 hj with rfl | hj
  · exact ⟨_, hd.ch⟩
  · exact he.live j hj
/-- on the way: a coder, and an object beside it -/
structure KS (wr : Nat → Bool) (ns : List Nat) (M0 : Mem) (n0 c a b : Nat) (O : AObj) (C : MC) (x : List (BitVec 16) × RS) (ns1 : List Nat) (m1 : Mem) (nx1 : Nat) : Prop where
  fr : Fr ns M0 n0 m1 nx1
  sub : ∀ k ∈ ns1, k ∈ ns ∨ n0 ≤ k
  ka : KA c a C m1 x ns1
  rd : Rdm wr m1 nx1
  w : ∀ k ∈ ns1, wr k = true
  bx : Eng.look m1 b = some O
  nb : b ∉ ns1
theorem KS.nxt {wr : Nat → Bool} {ns : List Nat} {M0 : Mem} {n0 c a b : Nat} {O : AObj} {C C' : MC} {x x' : List (BitVec 16) × RS} {ns1 ns2 : List Nat} {m1 m2 : Mem} {nx1 nx2 : Nat} (K : KS wr ns M0 n0 c a b O C x ns1 m1 nx1) (lt : ∀ p ∈ M0, p.1 < n0) (hb : b < n0) (fr : Fr ns1 m1 nx1 m2 nx2) (k2 : KA c a C' m2 x' ns2) (hn : ∀ k ∈ ns2, k ∈ ns1 ∨ nx1 ≤ k) : KS wr ns M0 n0 c a b O C' x' ns2 m2 nx2 :=
  ⟨K.fr.trans fr lt K.sub, subT K.sub hn K.fr.le, k2, fr.rdm K.rd K.w, wrT K.rd K.w hn, fr.kp b _ K.nb K.bx, fun hm => by
    rcases hn b hm with h | h
    · exact K.nb h
    · have := K.fr.le; omega⟩
theorem KS.fin {wr : Nat → Bool} {ns : List Nat} {m M0 : Mem} {nx n0 c a b : Nat} {O : AObj} {C : MC} {x : List (BitVec 16) × RS} {ns1 : List Nat} {m1 : Mem} {nx1 : Nat} (K : KS wr ns M0 n0 c a b O C x ns1 m1 nx1) (g : Gr m nx M0 n0) (lt : ∀ p ∈ m, p.1 < nx) (D : Rdm wr m nx) (hw : ∀ k ∈ ns, wr k = true) : Eng.Fin nx wr m1 nx1 (OwK (KA c a C) (.tup []) x ns m nx) (.tup []) :=
  Fr.fin ((Fr.gr g).trans K.fr lt fun k hk => .inl hk) D hw K.ka fun k hk => (K.sub k hk).imp id fun h => by have := g.le; omega
section
variable {wr : Nat → Bool} {m : Mem} {nx c a : Nat} {C : MC} {P : List (BitVec 16)} {s : RS} {ns : List Nat}
end
end Go.Proofs.Ytmdeoikpiiambaa
end
section
/- The document's model: a symbol that fits is put; the history grows. BRIEF -/
set_option linter.unusedVariables false
set_option linter.unusedSimpArgs false
set_option maxRecDepth 100000
namespace Go.Proofs.Ytmdeoikpiiambaa
open Go Go.Eng

/-- a history grows -/
def growN (h : List (BitVec 8)) (d : Nat) : Nat → List (BitVec 8)
  | 0 => h
  | n + 1 => growN h d n ++ [(growN h d n).getD ((growN h d n).length - d) 0]
def growS (h : List (BitVec 8)) (y : Sy) (d : Nat) : List (BitVec 8) := if y.k = 0 then h ++ [y.b] else growN h d y.l.toNat
theorem growN_len (h : List (BitVec 8)) (d : Nat) : ∀ n, (growN h d n).length = h.length + n
  | 0 => rfl
  | n + 1 => by rw [growN, List.length_append, growN_len h d n]; rfl
theorem gr_app {m m1 m2 : Mem} {nx nx1 nx2 : Nat} {ns1 : List Nat} (g : Gr m nx m1 nx1) (lt : ∀ p ∈ m, p.1 < nx) (hn : ∀ k ∈ ns1, nx ≤ k) (le : nx1 ≤ nx2) (nd : (m2.map fun p => p.1).Nodup) (lt2 : ∀ p ∈ m2, p.1 < nx2) (kp : ∀ k o, k ∉ ns1 → Eng.look m1 k = some o → Eng.look m2 k = some o) : Gr m nx m2 nx2 :=
  ⟨Nat.le_trans g.le le, nd, lt2, fun k o h => kp k o (fun hm => by have := look_ltm lt h; have := hn k hm; omega) (g.kp k o h)⟩
section
variable {wr : Nat → Bool} {m : Mem} {nx : Nat}
end
end Go.Proofs.Ytmdeoikpiiambaa
end
section
/- Chances are set to the middle. BRIEF -/
set_option linter.unusedVariables false
set_option linter.unusedSimpArgs false
set_option maxRecDepth 100000
namespace Go.Proofs.Ytmdeoikpiiambaa
open Go Go.Eng

def fillN (L : List AV) (off : Nat) : Nat → List AV
  | 0 => L
  | i + 1 => (fillN L off i).set (off + i) (.int .u16 1024)
theorem fillN_len (L : List AV) (off : Nat) : ∀ n, (fillN L off n).length = L.length
  | 0 => rfl
  | n + 1 => by rw [fillN, List.length_set, fillN_len L off n]
theorem fillN_get (L : List AV) (off i : Nat) : ∀ n, (fillN L off n)[i]? = if off ≤ i ∧ i < off + n ∧ i < L.length then some (.int .u16 1024) else L[i]?
  | 0 => by rw [if_neg (by omega)]; rfl
  | n + 1 => by
    rw [fillN, List.getElem?_set, fillN_len, fillN_get L off i n]
    by_cases h : off + n = i
    · rw [if_pos h]
      by_cases h2 : i < L.length
      · rw [if_pos (by omega), if_pos (by omega)]
      · rw [if_neg (by omega), if_neg (by omega), List.getElem?_eq_none (by omega)]
    · rw [if_neg h]
      by_cases h2 : off ≤ i ∧ i < off + n ∧ i < L.length
      · rw [if_pos h2, if_pos (by omega)]
      · rw [if_neg h2, if_neg (by omega)]
/-- some places are set, the others stand -/
def Filled (L0 : List AV) (A : Nat → Prop) (L : List AV) : Prop := L.length = L0.length ∧ ∀ i, (A i → i < L0.length → L[i]? = some (.int .u16 1024)) ∧ (¬ A i → L[i]? = L0[i]?)
theorem Filled.zero (L : List AV) : Filled L (fun _ => False) L := ⟨rfl, fun i => ⟨False.elim, fun _ => rfl⟩⟩
theorem Filled.mono {L0 L : List AV} {A A' : Nat → Prop} (h : Filled L0 A L) (e : ∀ i, A' i ↔ A i) : Filled L0 A' L := ⟨h.1, fun i => ⟨fun a => (h.2 i).1 ((e i).1 a), fun a => (h.2 i).2 fun x => a ((e i).2 x)⟩⟩
theorem Filled.fill {L0 L : List AV} {A A' : Nat → Prop} (h : Filled L0 A L) (off n : Nat) (e : ∀ i, A' i ↔ A i ∨ (off ≤ i ∧ i < off + n)) : Filled L0 A' (fillN L off n) :=
  ⟨(fillN_len L off n).trans h.1, fun i => by
    rw [fillN_get, h.1]
    by_cases h1 : off ≤ i ∧ i < off + n
    · refine ⟨fun _ hl => by rw [if_pos ⟨h1.1, h1.2, hl⟩], fun a => absurd ((e i).2 (.inr h1)) a⟩
    · rw [if_neg (fun x => h1 ⟨x.1, x.2.1⟩)]
      exact ⟨fun a hl => (h.2 i).1 (((e i).1 a).resolve_right h1) hl, fun a => (h.2 i).2 fun x => a ((e i).2 (.inl x))⟩⟩
section
variable {m : Mem} {nx : Nat} {wr : Nat → Bool}
set_option maxHeartbeats 4000000 in
theorem rfill (D : Rdm wr m nx) {n off len cap : Nat} {L : List AV} {ty : TypeId} (hn : Eng.look m n = some (.cells L ty)) (wn : wr n = true) (hl : off + len ≤ L.length) (hs : len ≤ 1000000) :
    CallG false Try.prog 93 [.sl n off len cap] wr m nx (fun v m' nx' => v = .tup [] ∧ m' = Eng.upd m n (.cells (fillN L off len) ty) ∧ nx' = nx) := by
  refine fn_okG Try.func93 rfl (by show 1 ≤ _; decide) ?_
  simp (maxSteps := 1000000) -implicitDefEqProofs only [go_sem, seval, -List.reduceReplicate, Try.results93, Try.ntmps93]
  refine LoopOk.upX (fun i (x : Mem) => x = Eng.upd m n (.cells (fillN L off i) ty)) len (fun i x => ([(5, .int .i64 (i : Nat)), (4, .int .i64 (len : Nat)), (0, .sl n off len cap)], x, nx)) m (upd_self hn).symm (D.leN (Nat.le_refl _) ⟨rfl, rfl, rfl, trivial⟩) ?_
  rintro i x ⟨hi, rfl⟩
  have hm := look_upd_same (.cells (fillN L off i) ty) hn
  have hll := fillN_len L off i
  have wi : IntKind.i64.wrap ((i : Int) + 1) = ((i + 1 : Nat) : Int) := by rw [wrap_i64] <;> omega
  have D1 := D.upd n (.cells (fillN L off i) ty)
  rcases Nat.lt_or_ge i len with h' | h'
  · have c1 : decide ((i : Int) < (len : Int)) = true := decide_eq_true (by omega)
    simp (maxSteps := 1000000) -implicitDefEqProofs only [go_sem, seval, -List.reduceReplicate, c1, hm, wn, wi, hll]
    exact ⟨by omega, by omega, UpX_normal h' _ (by rw [upd_upd]; rfl) ((D1.upd n (.cells ((fillN L off i).set (off + i) (.int .u16 1024)) ty)).leN (Nat.le_refl _) ⟨rfl, rfl, rfl, trivial⟩)⟩
  · have c1 : decide ((i : Int) < (len : Int)) = false := decide_eq_false (by omega)
    simp (maxSteps := 1000000) -implicitDefEqProofs only [go_sem, seval, -List.reduceReplicate, c1]
    exact Fin.keepW (m0 := Eng.upd m n (.cells (fillN L off i) ty)) (Nat.le_refl _) (memSame_slf D1.nd) D1.nd D1.kp ⟨rfl, by rw [show i = len by omega], rfl⟩
/-- a call's end that has set places of one object -/
def FK (c : Nat) (ty : TypeId) (L0 : List AV) (A : Nat → Prop) (m : Mem) (nx : Nat) : Kv := fun v m' nx' => v = .tup [] ∧ nx' = nx ∧ ∃ L', m' = Eng.upd m c (.cells L' ty) ∧ Filled L0 A L'
theorem finF (D : Rdm wr m nx) {c : Nat} {ty : TypeId} {L0 L' : List AV} {A : Nat → Prop} (h : Filled L0 A L') : Eng.Fin nx wr (Eng.upd m c (.cells L' ty)) nx (FK c ty L0 A m nx) (.tup []) :=
  Fin.keepW (m0 := Eng.upd m c (.cells L' ty)) (Nat.le_refl _) (memSame_slf (D.upd c _).nd) (D.upd c (.cells L' ty)).nd (D.upd c (.cells L' ty)).kp ⟨rfl, rfl, L', rfl, h⟩
theorem rfillF (D : Rdm wr m nx) {c off len cap : Nat} {L L0 : List AV} {ty : TypeId} (wn : wr c = true) {A A' : Nat → Prop} (h : Filled L0 A L) (hc : ∃ o, Eng.look m c = some o) (hl : off + len ≤ L0.length) (hs : len ≤ 1000000) (e : ∀ i, A' i ↔ A i ∨ (off ≤ i ∧ i < off + len)) :
    CallG false Try.prog 93 [.sl c off len cap] wr (Eng.upd m c (.cells L ty)) nx (FK c ty L0 A' m nx) := by
  obtain ⟨o, ho⟩ := hc
  refine (rfill (D.upd c _) (look_upd_same _ ho) wn (by rw [h.1]; exact hl) hs).weak ?_
  rintro v m' nx' ⟨rfl, rfl, rfl⟩
  exact ⟨rfl, rfl, _, by rw [upd_upd], h.fill off len e⟩
set_option maxHeartbeats 4000000 in
theorem rlfill (D : Rdm wr m nx) {c off : Nat} {L L0 : List AV} {ty : TypeId} (wn : wr c = true) {A : Nat → Prop} (h : Filled L0 A L) (hc : ∃ o, Eng.look m c = some o) (hl : off + 514 ≤ L0.length) :
    CallG false Try.prog 94 [.ptr c off] wr (Eng.upd m c (.cells L ty)) nx (FK c ty L0 (fun i => A i ∨ (off ≤ i ∧ i < off + 514)) m nx) := by
  refine fn_okG Try.func94 rfl (by show 1 ≤ _; decide) ?_
  have D0 := D.upd c (.cells L ty)
  simp (maxSteps := 1000000) -implicitDefEqProofs only [go_sem, seval, -List.reduceReplicate, Try.results94, Try.ntmps94]
  refine CallG.weak (rfillF D wn h hc (by omega) (by decide) (A' := fun i => A i ∨ (off ≤ i ∧ i < off + 1)) (fun i => Iff.rfl)) ?_
  rintro v m1 nx1 ⟨rfl, rfl, L1, rfl, h1⟩
  simp (maxSteps := 1000000) -implicitDefEqProofs only [go_sem, seval, -List.reduceReplicate]
  refine CallG.weak (rfillF D wn h1 hc (by omega) (by decide) (A' := fun i => A i ∨ (off ≤ i ∧ i < off + 2)) (fun i => by by_cases hs : A i <;> simp only [hs, true_or, false_or, true_iff, iff_self] <;> omega)) ?_
  rintro v m1 nx1 ⟨rfl, rfl, L1, rfl, h1⟩
  simp (maxSteps := 1000000) -implicitDefEqProofs only [go_sem, seval, -List.reduceReplicate]
  refine CallG.weak (rfillF D wn h1 hc (by omega) (by decide) (A' := fun i => A i ∨ (off ≤ i ∧ i < off + 2) ∨ (off + 258 ≤ i ∧ i < off + 514)) (fun i => by by_cases hs : A i <;> simp only [hs, true_or, false_or, true_iff, iff_self] <;> omega)) ?_
  rintro v m1 nx1 ⟨rfl, rfl, L1, rfl, h1⟩
  have D1 := D.upd c (.cells L1 ty)
  simp (maxSteps := 1000000) -implicitDefEqProofs only [go_sem, seval, -List.reduceReplicate]
  refine LoopOk.upX (fun i (x : Mem) => ∃ L', x = Eng.upd m c (.cells L' ty) ∧ Filled L0 (fun j => A j ∨ (off ≤ j ∧ j < off + 2) ∨ (off + 258 ≤ j ∧ j < off + 514) ∨ (off + 2 ≤ j ∧ j < off + 2 + 8 * i) ∨ (off + 130 ≤ j ∧ j < off + 130 + 8 * i)) L') 16 (fun i x => ([(18, .int .i64 (i : Nat)), (0, .ptr c off)], x, nx1)) (Eng.upd m c (.cells L1 ty)) ⟨L1, rfl, h1.mono fun i => by by_cases hs : A i <;> simp only [hs, true_or, false_or, true_iff, iff_self] <;> omega⟩ (D1.leN (Nat.le_refl _) ⟨rfl, rfl, trivial⟩) ?_
  rintro i x ⟨hi, L2, rfl, h2⟩
  have wi : IntKind.i64.wrap ((i : Int) + 1) = ((i + 1 : Nat) : Int) := by rw [wrap_i64] <;> omega
  rcases Nat.lt_or_ge i 16 with h' | h'
  · have c1 : decide ((i : Int) < 16) = true := decide_eq_true (by omega)
    simp (maxSteps := 1000000) -implicitDefEqProofs only [go_sem, seval, -List.reduceReplicate, c1, wi]
    refine ⟨by omega, ?_⟩
    refine CallG.weak (rfillF D wn h2 hc (by omega) (by decide) (A' := fun j => A j ∨ (off ≤ j ∧ j < off + 2) ∨ (off + 258 ≤ j ∧ j < off + 514) ∨ (off + 2 ≤ j ∧ j < off + 2 + 8 * (i + 1)) ∨ (off + 130 ≤ j ∧ j < off + 130 + 8 * i)) (fun j => by by_cases hs : A j <;> simp only [hs, true_or, false_or, true_iff, iff_self] <;> omega)) ?_
    rintro v m1 nx1 ⟨rfl, rfl, L3, rfl, h3⟩
    simp (maxSteps := 1000000) -implicitDefEqProofs only [go_sem, seval, -List.reduceReplicate, c1, wi]
    refine ⟨by omega, ?_⟩
    refine CallG.weak (rfillF D wn h3 hc (by omega) (by decide) (A' := fun j => A j ∨ (off ≤ j ∧ j < off + 2) ∨ (off + 258 ≤ j ∧ j < off + 514) ∨ (off + 2 ≤ j ∧ j < off + 2 + 8 * (i + 1)) ∨ (off + 130 ≤ j ∧ j < off + 130 + 8 * (i + 1))) (fun j => by by_cases hs : A j <;> simp only [hs, true_or, false_or, true_iff, iff_self] <;> omega)) ?_
    rintro v m1 nx1 ⟨rfl, rfl, L4, rfl, h4⟩
    simp (maxSteps := 1000000) -implicitDefEqProofs only [go_sem, seval, -List.reduceReplicate, c1, wi]
    exact UpX_normal h' _ ⟨L4, rfl, h4⟩ ((D.upd c (.cells L4 ty)).leN (Nat.le_refl _) ⟨rfl, rfl, trivial⟩)
  · have c1 : decide ((i : Int) < 16) = false := decide_eq_false (by omega)
    simp (maxSteps := 1000000) -implicitDefEqProofs only [go_sem, seval, -List.reduceReplicate, c1, wi]
    exact finF D (h2.mono fun j => by by_cases hs : A j <;> simp only [hs, true_or, false_or, true_iff, iff_self] <;> omega)
end
end Go.Proofs.Ytmdeoikpiiambaa
end
section
/- A model's coder is made. BRIEF -/
set_option linter.unusedVariables false
set_option linter.unusedSimpArgs false
set_option maxRecDepth 100000
namespace Go.Proofs.Ytmdeoikpiiambaa
open Go Go.Eng

theorem newP_pq (a b : Nat) : pq (newP a b) = List.replicate 2180 1024#16 := by
  have hl : 2180 ≤ (newP a b).length := by rw [newP, List.length_replicate]; omega
  refine List.ext_getElem? fun i => ?_
  rw [pq_inv _ hl, newP]
  by_cases h : i < 2180
  · have := invQ_lt h
    rw [if_pos h, List.getElem?_replicate, List.getElem?_replicate, if_pos (by omega), if_pos h]
  · rw [if_neg h, List.getElem?_replicate, if_neg h]
theorem bvsR (k : IntKind) (n : Nat) (v : BitVec 16) : bvs k (List.replicate n v) = List.replicate n (.int k ((v.toNat : Nat) : Int)) := by
  simp only [bvs, List.map_replicate]
theorem cL_tail (C : MC) (q : Nat) (Q : List (BitVec 16)) (hQ : Q.length = 2180) {i : Nat} (h : 2188 ≤ i) : (cL C q Q)[i]? = [AV.sl q 0 (2 ^ (C.lc + C.lp)) (2 ^ (C.lc + C.lp))][i - 8 - 2180]? := by
  rw [cL, List.getElem?_append_right (by show 8 ≤ i; omega)]
  show (bvs .u16 Q ++ [AV.sl q 0 _ _])[i - 8]? = _
  rw [List.getElem?_append_right (by rw [bvs_length, hQ]; omega), bvs_length, hQ]
section
variable {m : Mem} {nx : Nat} {wr : Nat → Bool}
/-- the coder and its literals under way -/
structure NS (m : Mem) (nx : Nat) (LC0 LQ0 : List AV) (A B : Nat → Prop) (x : Mem) (n2 : Nat) : Prop where
  g : Gr m nx x n2
  co : ∃ L, Eng.look x (nx + 1) = some (.cells L 151) ∧ Filled LC0 A L
  li : ∃ L, Eng.look x nx = some (.cells L 153) ∧ Filled LQ0 B L
def NK (m : Mem) (nx : Nat) (LC0 LQ0 : List AV) (A B : Nat → Prop) (x : Mem) (n2 : Nat) : Kv := fun v m' nx' => v = .tup [] ∧ nx' = n2 ∧ NS m nx LC0 LQ0 A B m' n2 ∧ ∀ k o, nx + 1 < k → Eng.look x k = some o → Eng.look m' k = some o
theorem Gr.updN {m x : Mem} {nx nx1 k : Nat} (D : Rdm wr m nx) (lt : ∀ p ∈ m, p.1 < nx) (g : Gr m nx x nx1) (hk : nx ≤ k) (o : AObj) : Gr m nx (Eng.upd x k o) nx1 :=
  ⟨g.le, ((g.rdm D).upd k o).nd, upd_lt g.lt k o, fun n o' h => by rw [look_upd_other _ (by have := look_ltm lt h; omega)]; exact g.kp n o' h⟩
section
variable {LC0 LQ0 : List AV} {A A' B B' : Nat → Prop} {x : Mem} {n2 : Nat}
theorem NS.fillC (D : Rdm wr m nx) (lt : ∀ p ∈ m, p.1 < nx) (Z : NS m nx LC0 LQ0 A B x n2) {off len cap : Nat} (hl : off + len ≤ LC0.length) (hs : len ≤ 1000000) (e : ∀ i, A' i ↔ A i ∨ (off ≤ i ∧ i < off + len)) :
    CallG false Try.prog 93 [.sl (nx + 1) off len cap] wr x n2 (NK m nx LC0 LQ0 A' B x n2) := by
  obtain ⟨L, h1, h2⟩ := Z.co
  refine (rfill (Z.g.rdm D) h1 (D.wn _ (by omega)) (by rw [h2.1]; exact hl) hs).weak ?_
  rintro v m' nx' ⟨rfl, rfl, rfl⟩
  obtain ⟨Q, h3, h4⟩ := Z.li
  exact ⟨rfl, rfl, ⟨Gr.updN D lt Z.g (by omega) _, ⟨_, look_upd_same _ h1, h2.fill off len e⟩, ⟨Q, by rw [look_upd_other _ (by omega)]; exact h3, h4⟩⟩, fun k o hk ho => by rw [look_upd_other _ (by omega)]; exact ho⟩
theorem NS.fillQ (D : Rdm wr m nx) (lt : ∀ p ∈ m, p.1 < nx) (Z : NS m nx LC0 LQ0 A B x n2) {off len cap : Nat} (hl : off + len ≤ LQ0.length) (hs : len ≤ 1000000) (e : ∀ i, B' i ↔ B i ∨ (off ≤ i ∧ i < off + len)) :
    CallG false Try.prog 93 [.sl nx off len cap] wr x n2 (NK m nx LC0 LQ0 A B' x n2) := by
  obtain ⟨L, h1, h2⟩ := Z.li
  refine (rfill (Z.g.rdm D) h1 (D.wn _ (by omega)) (by rw [h2.1]; exact hl) hs).weak ?_
  rintro v m' nx' ⟨rfl, rfl, rfl⟩
  obtain ⟨Q, h3, h4⟩ := Z.co
  exact ⟨rfl, rfl, ⟨Gr.updN D lt Z.g (by omega) _, ⟨Q, by rw [look_upd_other _ (by omega)]; exact h3, h4⟩, ⟨_, look_upd_same _ h1, h2.fill off len e⟩⟩, fun k o hk ho => by rw [look_upd_other _ (by omega)]; exact ho⟩
theorem NS.lfillC (D : Rdm wr m nx) (lt : ∀ p ∈ m, p.1 < nx) (Z : NS m nx LC0 LQ0 A B x n2) {off : Nat} (hl : off + 514 ≤ LC0.length) :
    CallG false Try.prog 94 [.ptr (nx + 1) off] wr x n2 (NK m nx LC0 LQ0 (fun i => A i ∨ (off ≤ i ∧ i < off + 514)) B x n2) := by
  obtain ⟨L, h1, h2⟩ := Z.co
  have hf := rlfill (ty := 151) (Z.g.rdm D) (D.wn _ (by omega)) h2 ⟨_, h1⟩ hl
  rw [upd_self h1] at hf
  refine hf.weak ?_
  rintro v m' nx' ⟨rfl, rfl, L', rfl, h5⟩
  obtain ⟨Q, h3, h4⟩ := Z.li
  exact ⟨rfl, rfl, ⟨Gr.updN D lt Z.g (by omega) _, ⟨_, look_upd_same _ h1, h5⟩, ⟨Q, by rw [look_upd_other _ (by omega)]; exact h3, h4⟩⟩, fun k o hk ho => by rw [look_upd_other _ (by omega)]; exact ho⟩
theorem NS.lit {C : MC} {Q : List (BitVec 16)} (Z : NS m nx (cL C nx Q) LQ0 A B x n2) (hQ : Q.length = 2180) (hA : ¬ A 2188) : ∃ L, Eng.look x (nx + 1) = some (.cells L 151) ∧ L.length = 2189 ∧ L.getD 2188 .nils = .sl nx 0 (2 ^ (C.lc + C.lp)) (2 ^ (C.lc + C.lp)) := by
  obtain ⟨L, h1, h2⟩ := Z.co
  refine ⟨L, h1, by rw [h2.1, cL_len, hQ], ?_⟩
  rw [List.getD_eq_getElem?_getD, (h2.2 2188).2 hA, ← List.getD_eq_getElem?_getD]
  exact cLlit C nx Q hQ _
theorem NS.box (D : Rdm wr m nx) (Z : NS m nx LC0 LQ0 A B x n2) (h2 : nx + 1 < n2) (o : AObj) : NS m nx LC0 LQ0 A B ((n2, o) :: x) (n2 + 1) := by
  obtain ⟨L, h1, h2'⟩ := Z.co
  obtain ⟨Q, h3, h4⟩ := Z.li
  exact ⟨Z.g.trans (Gr.cons (Z.g.rdm D).nd Z.g.lt o), ⟨L, look_c1 o (by omega) h1, h2'⟩, ⟨Q, look_c1 o (by omega) h3, h4⟩⟩
theorem NS.mono {A2 : Nat → Prop} (Z : NS m nx LC0 LQ0 A B x n2) (e : ∀ i, A2 i ↔ A i) : NS m nx LC0 LQ0 A2 B x n2 := by
  obtain ⟨L, h1, h2⟩ := Z.co
  exact ⟨Z.g, ⟨L, h1, h2.mono e⟩, Z.li⟩
end
def LA (a b p nx : Nat) : List AV := cL (newC a b p) nx (List.replicate 2180 0#16)
def LB (a b : Nat) : List AV := zfill (bvs .u16 (List.replicate 768 0#16)) (2 ^ (a + b) * 768)
theorem LA_len (a b p nx : Nat) : (LA a b p nx).length = 2189 := by rw [LA, cL_len, List.length_replicate]
theorem LB_len (a b : Nat) : (LB a b).length = 2 ^ (a + b) * 768 := by rw [LB, zfill, List.length_map, List.length_range]
/-- all is filled -/
theorem NS.done {a b p n2 : Nat} {x : Mem} {A B : Nat → Prop} (Z : NS m nx (LA a b p nx) (LB a b) A B x n2) (hA : ∀ i, A i ↔ (8 ≤ i ∧ i < 2188)) (hB : ∀ i, B i ↔ i < 768 * 2 ^ (a + b)) : CoAt (nx + 1) nx (newC a b p) (newP a b) x := by
  obtain ⟨L, h1, h2, h3⟩ := Z.co
  obtain ⟨Q, h4, h5, h6⟩ := Z.li
  have e1 : L = cL (newC a b p) nx (pq (newP a b)) := by
    rw [newP_pq]
    have len2 : (cL (newC a b p) nx (List.replicate 2180 1024#16)).length = 2189 := by rw [cL_len, List.length_replicate]
    refine List.ext_getElem? fun i => ?_
    by_cases h : 8 ≤ i ∧ i < 2188
    · rw [(h3 i).1 ((hA i).2 h) (by rw [LA_len]; omega), cL, List.getElem?_append_right (by show 8 ≤ i; omega), List.getElem?_append_left (by rw [bvs_length, List.length_replicate]; show i - 8 < _; omega), bvsR, List.getElem?_replicate, if_pos (by show i - 8 < _; omega)]; rfl
    · rw [(h3 i).2 (fun x => h ((hA i).1 x)), LA]
      by_cases h8 : i < 8
      · rw [cL, cL, List.getElem?_append_left (by show i < 8; omega), List.getElem?_append_left (by show i < 8; omega)]
      · rw [cL_tail _ _ _ (by rw [List.length_replicate]) (by omega), cL_tail _ _ _ (by rw [List.length_replicate]) (by omega)]
  have e2 : Q = bvs .u16 ((newP a b).drop 2180) := by
    rw [newP, List.drop_replicate, bvsR, show 2180 + 768 * 2 ^ (a + b) - 2180 = 768 * 2 ^ (a + b) by omega]
    refine List.ext_getElem? fun i => ?_
    rw [List.getElem?_replicate]
    by_cases h : i < 768 * 2 ^ (a + b)
    · rw [(h6 i).1 ((hB i).2 h) (by rw [LB_len, Nat.mul_comm]; exact h), if_pos h]; rfl
    · rw [if_neg h, List.getElem?_eq_none]
      rw [h5, LB_len, Nat.mul_comm]; omega
  exact ⟨by rw [h1, e1], by rw [h4, e2], by omega, by rw [newP, List.length_replicate]; rfl⟩
set_option maxHeartbeats 16000000 in
theorem rnew (D : Rdm wr m nx) (lt : ∀ p ∈ m, p.1 < nx) (lc lp pb : Int) :
    CallG false Try.prog 38 [.int .i64 lc, .int .i64 lp, .int .i64 pb] wr m nx (fun v m' nx' => if mayB lc lp pb = true
      then v = .tup [.ptr (nx + 1) 0, .int .i64 0] ∧ Gr m nx m' nx' ∧ CoAt (nx + 1) nx (newC lc.toNat lp.toNat pb.toNat) (newP lc.toNat lp.toNat) m'
      else v = .tup [.nilp, .int .i64 1] ∧ m' = m ∧ nx' = nx) := by
  refine fn_okG Try.func38 rfl (by show 3 ≤ _; decide) ?_
  cases hm : mayB lc lp pb with
  | false =>
    have fin : Eng.Fin nx wr m nx (fun v m' nx' => v = .tup [.nilp, .int .i64 1] ∧ m' = m ∧ nx' = nx) (.tup [.nilp, .int .i64 1]) := Fin.keepW (m0 := m) (Nat.le_refl _) (memSame_slf D.nd) D.nd D.kp ⟨rfl, rfl, rfl⟩
    by_cases h0 : lc < 0
    · have c0 : decide (lc < 0) = true := decide_eq_true h0
      simp (maxSteps := 1000000) -implicitDefEqProofs only [go_sem, seval, -List.reduceReplicate, Try.results38, Try.ntmps38, c0]
      exact fin
    have c0 : decide (lc < 0) = false := decide_eq_false h0
    by_cases h1 : lp < 0
    · have c1 : decide (lp < 0) = true := decide_eq_true h1
      simp (maxSteps := 1000000) -implicitDefEqProofs only [go_sem, seval, -List.reduceReplicate, Try.results38, Try.ntmps38, c0, c1]
      exact fin
    have c1 : decide (lp < 0) = false := decide_eq_false h1
    by_cases h2 : pb < 0
    · have c2 : decide (pb < 0) = true := decide_eq_true h2
      simp (maxSteps := 1000000) -implicitDefEqProofs only [go_sem, seval, -List.reduceReplicate, Try.results38, Try.ntmps38, c0, c1, c2]
      exact fin
    have c2 : decide (pb < 0) = false := decide_eq_false h2
    by_cases h3 : IntKind.i64.wrap (lc + lp) > 4
    · have c3 : decide (IntKind.i64.wrap (lc + lp) > 4) = true := decide_eq_true h3
      simp (maxSteps := 1000000) -implicitDefEqProofs only [go_sem, seval, -List.reduceReplicate, Try.results38, Try.ntmps38, c0, c1, c2, c3]
      exact fin
    have c3 : decide (IntKind.i64.wrap (lc + lp) > 4) = false := decide_eq_false h3
    by_cases h4 : lc > 4
    · have c4 : decide (lc > 4) = true := decide_eq_true h4
      simp (maxSteps := 1000000) -implicitDefEqProofs only [go_sem, seval, -List.reduceReplicate, Try.results38, Try.ntmps38, c0, c1, c2, c3, c4]
      exact fin
    have c4 : decide (lc > 4) = false := decide_eq_false h4
    by_cases h5 : lp > 4
    · have c5 : decide (lp > 4) = true := decide_eq_true h5
      simp (maxSteps := 1000000) -implicitDefEqProofs only [go_sem, seval, -List.reduceReplicate, Try.results38, Try.ntmps38, c0, c1, c2, c3, c4, c5]
      exact fin
    have c5 : decide (lp > 4) = false := decide_eq_false h5
    by_cases h6 : pb > 4
    · have c6 : decide (pb > 4) = true := decide_eq_true h6
      simp (maxSteps := 1000000) -implicitDefEqProofs only [go_sem, seval, -List.reduceReplicate, Try.results38, Try.ntmps38, c0, c1, c2, c3, c4, c5, c6]
      exact fin
    have c6 : decide (pb > 4) = false := decide_eq_false h6
    have wa : IntKind.i64.wrap (lc + lp) = lc + lp := by rw [wrap_i64] <;> omega
    rw [wa] at h3
    have : mayB lc lp pb = true := by
      unfold mayB; simp only [Bool.and_eq_true, decide_eq_true_eq]; omega
    rw [this] at hm; cases hm
  | true =>
    have hb : 0 ≤ lc ∧ lc ≤ 4 ∧ 0 ≤ lp ∧ lp ≤ 4 ∧ lc + lp ≤ 4 ∧ 0 ≤ pb ∧ pb ≤ 4 := by
      unfold mayB at hm
      simp only [Bool.and_eq_true, decide_eq_true_eq] at hm
      omega
    obtain ⟨a, rfl⟩ := Int.eq_ofNat_of_zero_le hb.1
    obtain ⟨b, rfl⟩ := Int.eq_ofNat_of_zero_le hb.2.2.1
    obtain ⟨p, rfl⟩ := Int.eq_ofNat_of_zero_le hb.2.2.2.2.2.1
    have c1 : decide ((a : Int) < 0) = false := decide_eq_false (by omega)
    have c2 : decide ((b : Int) < 0) = false := decide_eq_false (by omega)
    have c3 : decide ((p : Int) < 0) = false := decide_eq_false (by omega)
    have c4 : decide ((a : Int) > 4) = false := decide_eq_false (by omega)
    have c5 : decide ((b : Int) > 4) = false := decide_eq_false (by omega)
    have c6 : decide ((p : Int) > 4) = false := decide_eq_false (by omega)
    have wa : IntKind.i64.wrap ((a : Int) + (b : Int)) = ((a + b : Nat) : Int) := by rw [wrap_i64] <;> omega
    have c7 : decide (((a + b : Nat) : Int) > 4) = false := decide_eq_false (by omega)
    have sK := shlP (a + b) (by omega)
    have hK : 2 ^ (a + b) ≤ 2 ^ 4 := Nat.pow_le_pow_right (by decide) (by omega)
    simp (maxSteps := 1000000) -implicitDefEqProofs only [go_sem, seval, -List.reduceReplicate, Try.results38, Try.ntmps38, c1, c2, c3, c4, c5, c6, c7, wa, sK, Int.toNat_natCast]
    refine ⟨⟨by omega, by omega, by omega⟩, ?_⟩
    refine ⟨LA a b p nx, by kernel_rfl, ?_⟩
    have Z0 : NS m nx (LA a b p nx) (LB a b) (fun _ => False) (fun j => j < 768 * 0) ((nx + 1, .cells (LA a b p nx) 151) :: (nx, .cells (LB a b) 153) :: m) (nx + 1 + 1) :=
      ⟨(Gr.cons D.nd lt _).trans (Gr.cons (Gr.cons D.nd lt _).nd (Gr.cons D.nd lt _).lt _), ⟨_, look_c0 _ _ _, .zero _⟩, ⟨_, look_c1 _ (by omega) (look_c0 _ _ _), (Filled.zero _).mono fun i => (⟨fun h => absurd (show i < 768 * 0 from h) (by omega), False.elim⟩ : (fun j => j < 768 * 0) i ↔ False)⟩⟩
    have la := LA_len a b p nx
    have lb := LB_len a b
    have lz : (LA a b p nx).getD 2188 .nils = .sl nx 0 (2 ^ (a + b)) (2 ^ (a + b)) := cLlit _ _ _ (by rw [List.length_replicate]) _
    have elb : zfill (bvs .u16 (List.replicate 768 0#16)) (2 ^ (a + b) * 768) = LB a b := rfl
    rw [elb]
    simp (maxSteps := 1000000) -implicitDefEqProofs only [go_sem, seval, -List.reduceReplicate, la, lz]
    have hQ : (List.replicate 2180 0#16).length = 2180 := List.length_replicate
    refine LoopOk.upX (fun i (x : Mem) => NS m nx (LA a b p nx) (LB a b) (fun _ => False) (fun j => j < 768 * i) x (nx + 1 + 1)) (2 ^ (a + b)) (fun i x => ([(59, .int .i64 (i : Nat)), (58, .int .i64 ((2 ^ (a + b) : Nat) : Int)), (8, .ptr (nx + 1) 0)], x, nx + 1 + 1)) _ Z0 ((Z0.g.rdm D).leN (by omega) ⟨rfl, rfl, rfl, trivial⟩) ?_
    rintro i x ⟨hi, Z⟩
    obtain ⟨L, hL, l1, l2⟩ := Z.lit hQ (fun h => h)
    have l2 : L.getD 2188 .nils = .sl nx 0 (2 ^ (a + b)) (2 ^ (a + b)) := l2
    have wi : IntKind.i64.wrap ((i : Int) + 1) = ((i + 1 : Nat) : Int) := by rw [wrap_i64] <;> omega
    rcases Nat.lt_or_ge i (2 ^ (a + b)) with h' | h'
    · have c8 : decide ((i : Int) < ((2 ^ (a + b) : Nat) : Int)) = true := decide_eq_true (by omega)
      simp (maxSteps := 1000000) -implicitDefEqProofs only [go_sem, seval, -List.reduceReplicate, c8, hL, l1, l2, wi]
      refine ⟨by omega, ?_⟩
      refine CallG.weak (Z.fillQ D lt (off := i * 768) (len := 768) (by rw [LB_len]; omega) (by decide) (B' := fun j => j < 768 * (i + 1)) (fun j => by show j < 768 * (i + 1) ↔ j < 768 * i ∨ _; omega)) ?_
      rintro v m' nx' ⟨rfl, rfl, Z', _⟩
      simp (maxSteps := 1000000) -implicitDefEqProofs only [go_sem, seval, -List.reduceReplicate, wi]
      exact UpX_normal h' _ Z' ((Z'.g.rdm D).leN (by omega) ⟨rfl, rfl, rfl, trivial⟩)
    have c8 : decide ((i : Int) < ((2 ^ (a + b) : Nat) : Int)) = false := decide_eq_false (by omega)
    have hiK : i = 2 ^ (a + b) := by omega
    simp (maxSteps := 1000000) -implicitDefEqProofs only [go_sem, seval, -List.reduceReplicate, c8]
    have hB : ∀ j, (fun j => j < 768 * i) j ↔ j < 768 * 2 ^ (a + b) := fun j => by rw [hiK]
    generalize (fun j => j < 768 * i) = B at *
    refine LoopOk.upX (fun i (x : Mem) => NS m nx (LA a b p nx) (LB a b) (fun j => (8 ≤ j ∧ j < 8 + 16 * i) ∨ (200 ≤ j ∧ j < 200 + 16 * i)) B x (nx + 1 + 1)) 12 (fun i x => ([(71, .int .i64 (i : Nat)), (8, .ptr (nx + 1) 0)], x, nx + 1 + 1)) x (Z.mono fun j => by simp only [false_or, iff_false]; omega) ((Z.g.rdm D).leN (by omega) ⟨rfl, rfl, trivial⟩) ?_
    rintro i x ⟨hi, Z⟩
    have wi : IntKind.i64.wrap ((i : Int) + 1) = ((i + 1 : Nat) : Int) := by rw [wrap_i64] <;> omega
    rcases Nat.lt_or_ge i 12 with h' | h'
    · have c9 : decide ((i : Int) < 12) = true := decide_eq_true (by omega)
      simp (maxSteps := 1000000) -implicitDefEqProofs only [go_sem, seval, -List.reduceReplicate, c9]
      refine ⟨by omega, ?_⟩
      refine CallG.weak (Z.fillC D lt (off := 8 + i * 16) (len := 16) (by rw [LA_len]; omega) (by decide) (A' := (fun j => (8 ≤ j ∧ j < 8 + 16 * (i + 1)) ∨ (200 ≤ j ∧ j < 200 + 16 * i))) (fun j => by show ((8 ≤ j ∧ j < 8 + 16 * (i + 1)) ∨ (200 ≤ j ∧ j < 200 + 16 * i)) ↔ ((8 ≤ j ∧ j < 8 + 16 * i) ∨ (200 ≤ j ∧ j < 200 + 16 * i)) ∨ _; omega)) ?_
      rintro v m' nx' ⟨rfl, rfl, Z', _⟩
      simp (maxSteps := 1000000) -implicitDefEqProofs only [go_sem, seval, -List.reduceReplicate, wi]
      refine ⟨by omega, ?_⟩
      refine CallG.weak (Z'.fillC D lt (off := 200 + i * 16) (len := 16) (by rw [LA_len]; omega) (by decide) (A' := (fun j => (8 ≤ j ∧ j < 8 + 16 * (i + 1)) ∨ (200 ≤ j ∧ j < 200 + 16 * (i + 1)))) (fun j => by show ((8 ≤ j ∧ j < 8 + 16 * (i + 1)) ∨ (200 ≤ j ∧ j < 200 + 16 * (i + 1))) ↔ ((8 ≤ j ∧ j < 8 + 16 * (i + 1)) ∨ (200 ≤ j ∧ j < 200 + 16 * i)) ∨ _; omega)) ?_
      rintro v m' nx' ⟨rfl, rfl, Z', _⟩
      simp (maxSteps := 1000000) -implicitDefEqProofs only [go_sem, seval, -List.reduceReplicate, wi]
      exact UpX_normal h' _ Z' ((Z'.g.rdm D).leN (by omega) ⟨rfl, rfl, trivial⟩)
    have c9 : decide ((i : Int) < 12) = false := decide_eq_false (by omega)
    have hi12 : i = 12 := by omega
    simp (maxSteps := 1000000) -implicitDefEqProofs only [go_sem, seval, -List.reduceReplicate, c9]
    refine ⟨Fx.mixed, .inl ⟨[(0, false), (1, false), (2, false), (3, false), (4, false), (5, false), (6, false), (7, false), (8, false), (9, false), (10, false), (11, false), (12, false), (13, false), (14, false), (15, false), (16, false), (17, false), (18, false), (19, false), (22, false), (20, true), (21, false)], [], by kernel_rfl, (fun j hj => by cases hj), ?_⟩⟩
    simp (maxSteps := 1000000) -implicitDefEqProofs only [go_sem, seval, -List.reduceReplicate]
    refine ⟨.inr trivial, ?_⟩
    have Z5 := Z.box D (by omega) (AObj.cells [AV.sl (nx + 1) 392 12 12, AV.sl (nx + 1) 404 12 12, AV.sl (nx + 1) 416 12 12, AV.sl (nx + 1) 428 12 12, AV.sl (nx + 1) 2172 16 16] 78)
    refine LoopOk.upX (fun i (x : Mem) => NS m nx (LA a b p nx) (LB a b) (fun j => ((8 ≤ j ∧ j < 392) ∨ (392 ≤ j ∧ j < 392 + 12 * min i 4) ∨ (i = 5 ∧ 2172 ≤ j ∧ j < 2188))) B x (nx + 1 + 1 + 1) ∧ Eng.look x (nx + 1 + 1) = some (AObj.cells [AV.sl (nx + 1) 392 12 12, AV.sl (nx + 1) 404 12 12, AV.sl (nx + 1) 416 12 12, AV.sl (nx + 1) 428 12 12, AV.sl (nx + 1) 2172 16 16] 78)) 5 (fun i x => ([(111, .int .i64 (i : Nat)), (110, .int .i64 5), (109, .sl (nx + 1 + 1) 0 5 5), (8, .ptr (nx + 1) 0)], x, nx + 1 + 1 + 1)) ((nx + 1 + 1, (AObj.cells [AV.sl (nx + 1) 392 12 12, AV.sl (nx + 1) 404 12 12, AV.sl (nx + 1) 416 12 12, AV.sl (nx + 1) 428 12 12, AV.sl (nx + 1) 2172 16 16] 78)) :: x) ⟨Z5.mono fun j => by subst hi12; show ((8 ≤ j ∧ j < 392) ∨ (392 ≤ j ∧ j < 392 + 12 * min 0 4) ∨ (0 = 5 ∧ 2172 ≤ j ∧ j < 2188)) ↔ ((8 ≤ j ∧ j < 8 + 16 * 12) ∨ (200 ≤ j ∧ j < 200 + 16 * 12)); omega, look_c0 _ _ _⟩ ((Z5.g.rdm D).leN (by omega) ⟨rfl, rfl, rfl, rfl, trivial⟩) ?_
    rintro i x ⟨hi, Z, hx5⟩
    have wi : IntKind.i64.wrap ((i : Int) + 1) = ((i + 1 : Nat) : Int) := by rw [wrap_i64] <;> omega
    rcases Nat.lt_or_ge i 5 with h' | h'
    · have c10 : decide ((i : Int) < 5) = true := decide_eq_true (by omega)
      obtain ⟨off, len, hS, ho⟩ : ∃ off len, [AV.sl (nx + 1) 392 12 12, AV.sl (nx + 1) 404 12 12, AV.sl (nx + 1) 416 12 12, AV.sl (nx + 1) 428 12 12, AV.sl (nx + 1) 2172 16 16].getD i .nils = .sl (nx + 1) off len len ∧ ((i < 4 ∧ off = 392 + 12 * i ∧ len = 12) ∨ (i = 4 ∧ off = 2172 ∧ len = 16)) := by
        rcases (show i = 0 ∨ i = 1 ∨ i = 2 ∨ i = 3 ∨ i = 4 by omega) with rfl | rfl | rfl | rfl | rfl
        · exact ⟨_, _, rfl, .inl ⟨by omega, rfl, rfl⟩⟩
        · exact ⟨_, _, rfl, .inl ⟨by omega, rfl, rfl⟩⟩
        · exact ⟨_, _, rfl, .inl ⟨by omega, rfl, rfl⟩⟩
        · exact ⟨_, _, rfl, .inl ⟨by omega, rfl, rfl⟩⟩
        · exact ⟨_, _, rfl, .inr ⟨by omega, rfl, rfl⟩⟩
      simp (maxSteps := 1000000) -implicitDefEqProofs only [go_sem, seval, -List.reduceReplicate, c10, hx5, hS, wi]
      refine ⟨by omega, by omega, ?_⟩
      refine CallG.weak (Z.fillC D lt (off := off) (len := len) (by rw [LA_len]; omega) (by omega) (A' := fun j => ((8 ≤ j ∧ j < 392) ∨ (392 ≤ j ∧ j < 392 + 12 * min (i + 1) 4) ∨ ((i + 1) = 5 ∧ 2172 ≤ j ∧ j < 2188))) (fun j => by show ((8 ≤ j ∧ j < 392) ∨ (392 ≤ j ∧ j < 392 + 12 * min (i + 1) 4) ∨ (i + 1 = 5 ∧ 2172 ≤ j ∧ j < 2188)) ↔ ((8 ≤ j ∧ j < 392) ∨ (392 ≤ j ∧ j < 392 + 12 * min i 4) ∨ (i = 5 ∧ 2172 ≤ j ∧ j < 2188)) ∨ _; omega)) ?_
      rintro v m' nx' ⟨rfl, rfl, Z', hk⟩
      simp (maxSteps := 1000000) -implicitDefEqProofs only [go_sem, seval, -List.reduceReplicate, wi]
      exact UpX_normal h' _ ⟨Z', hk _ _ (by omega) hx5⟩ ((Z'.g.rdm D).leN (by omega) ⟨rfl, rfl, rfl, rfl, trivial⟩)
    have c10 : decide ((i : Int) < 5) = false := decide_eq_false (by omega)
    have hi5 : i = 5 := by omega
    simp (maxSteps := 1000000) -implicitDefEqProofs only [go_sem, seval, -List.reduceReplicate, c10]
    refine LoopOk.upX (fun i (x : Mem) => NS m nx (LA a b p nx) (LB a b) (fun j => ((8 ≤ j ∧ j < 440) ∨ (2172 ≤ j ∧ j < 2188) ∨ (1468 ≤ j ∧ j < 1468 + 64 * i))) B x (nx + 1 + 1 + 1)) 4 (fun i x => ([(118, .int .i64 (i : Nat)), (8, .ptr (nx + 1) 0)], x, nx + 1 + 1 + 1)) x (Z.mono fun j => by subst hi5; show ((8 ≤ j ∧ j < 440) ∨ (2172 ≤ j ∧ j < 2188) ∨ (1468 ≤ j ∧ j < 1468 + 64 * 0)) ↔ ((8 ≤ j ∧ j < 392) ∨ (392 ≤ j ∧ j < 392 + 12 * min 5 4) ∨ (5 = 5 ∧ 2172 ≤ j ∧ j < 2188)); omega) ((Z.g.rdm D).leN (by omega) ⟨rfl, rfl, trivial⟩) ?_
    rintro i x ⟨hi, Z⟩
    have wi : IntKind.i64.wrap ((i : Int) + 1) = ((i + 1 : Nat) : Int) := by rw [wrap_i64] <;> omega
    rcases Nat.lt_or_ge i 4 with h' | h'
    · have c11 : decide ((i : Int) < 4) = true := decide_eq_true (by omega)
      simp (maxSteps := 1000000) -implicitDefEqProofs only [go_sem, seval, -List.reduceReplicate, c11]
      refine ⟨by omega, ?_⟩
      refine CallG.weak (Z.fillC D lt (off := 1468 + i * 64) (len := 64) (by rw [LA_len]; omega) (by omega) (A' := fun j => ((8 ≤ j ∧ j < 440) ∨ (2172 ≤ j ∧ j < 2188) ∨ (1468 ≤ j ∧ j < 1468 + 64 * (i + 1)))) (fun j => by show ((8 ≤ j ∧ j < 440) ∨ (2172 ≤ j ∧ j < 2188) ∨ (1468 ≤ j ∧ j < 1468 + 64 * (i + 1))) ↔ ((8 ≤ j ∧ j < 440) ∨ (2172 ≤ j ∧ j < 2188) ∨ (1468 ≤ j ∧ j < 1468 + 64 * i)) ∨ _; omega)) ?_
      rintro v m' nx' ⟨rfl, rfl, Z', hk⟩
      simp (maxSteps := 1000000) -implicitDefEqProofs only [go_sem, seval, -List.reduceReplicate, wi]
      exact UpX_normal h' _ Z' ((Z'.g.rdm D).leN (by omega) ⟨rfl, rfl, trivial⟩)
    have c11 : decide ((i : Int) < 4) = false := decide_eq_false (by omega)
    have hi4 : i = 4 := by omega
    simp (maxSteps := 1000000) -implicitDefEqProofs only [go_sem, seval, -List.reduceReplicate, c11]
    refine LoopOk.upX (fun i (x : Mem) => NS m nx (LA a b p nx) (LB a b) (fun j => ((8 ≤ j ∧ j < 440) ∨ (2172 ≤ j ∧ j < 2188) ∨ (1468 ≤ j ∧ j < 1724 + 32 * i))) B x (nx + 1 + 1 + 1)) 14 (fun i x => ([(129, .int .i64 (i : Nat)), (8, .ptr (nx + 1) 0)], x, nx + 1 + 1 + 1)) x (Z.mono fun j => by subst hi4; show ((8 ≤ j ∧ j < 440) ∨ (2172 ≤ j ∧ j < 2188) ∨ (1468 ≤ j ∧ j < 1724 + 32 * 0)) ↔ ((8 ≤ j ∧ j < 440) ∨ (2172 ≤ j ∧ j < 2188) ∨ (1468 ≤ j ∧ j < 1468 + 64 * 4)); omega) ((Z.g.rdm D).leN (by omega) ⟨rfl, rfl, trivial⟩) ?_
    rintro i x ⟨hi, Z⟩
    have wi : IntKind.i64.wrap ((i : Int) + 1) = ((i + 1 : Nat) : Int) := by rw [wrap_i64] <;> omega
    rcases Nat.lt_or_ge i 14 with h' | h'
    · have c12 : decide ((i : Int) < 14) = true := decide_eq_true (by omega)
      simp (maxSteps := 1000000) -implicitDefEqProofs only [go_sem, seval, -List.reduceReplicate, c12]
      refine ⟨by omega, ?_⟩
      refine CallG.weak (Z.fillC D lt (off := 1724 + i * 32) (len := 32) (by rw [LA_len]; omega) (by omega) (A' := fun j => ((8 ≤ j ∧ j < 440) ∨ (2172 ≤ j ∧ j < 2188) ∨ (1468 ≤ j ∧ j < 1724 + 32 * (i + 1)))) (fun j => by show ((8 ≤ j ∧ j < 440) ∨ (2172 ≤ j ∧ j < 2188) ∨ (1468 ≤ j ∧ j < 1724 + 32 * (i + 1))) ↔ ((8 ≤ j ∧ j < 440) ∨ (2172 ≤ j ∧ j < 2188) ∨ (1468 ≤ j ∧ j < 1724 + 32 * i)) ∨ _; omega)) ?_
      rintro v m' nx' ⟨rfl, rfl, Z', hk⟩
      simp (maxSteps := 1000000) -implicitDefEqProofs only [go_sem, seval, -List.reduceReplicate, wi]
      exact UpX_normal h' _ Z' ((Z'.g.rdm D).leN (by omega) ⟨rfl, rfl, trivial⟩)
    have c12 : decide ((i : Int) < 14) = false := decide_eq_false (by omega)
    have hi14 : i = 14 := by omega
    simp (maxSteps := 1000000) -implicitDefEqProofs only [go_sem, seval, -List.reduceReplicate, c12]
    refine CallG.weak (Z.lfillC D lt (off := 440) (by rw [LA_len]; omega)) ?_
    rintro v m' nx' ⟨rfl, rfl, Z', hk⟩
    simp (maxSteps := 1000000) -implicitDefEqProofs only [go_sem, seval, -List.reduceReplicate]
    refine CallG.weak (Z'.lfillC D lt (off := 954) (by rw [LA_len]; omega)) ?_
    rintro v m' nx' ⟨rfl, rfl, Z', hk⟩
    simp (maxSteps := 1000000) -implicitDefEqProofs only [go_sem, seval, -List.reduceReplicate]
    have hdone := Z'.done (fun j => by subst hi14; show (((8 ≤ j ∧ j < 440) ∨ (2172 ≤ j ∧ j < 2188) ∨ (1468 ≤ j ∧ j < 1724 + 32 * 14)) ∨ (440 ≤ j ∧ j < 440 + 514)) ∨ (954 ≤ j ∧ j < 954 + 514) ↔ _; omega) hB
    exact Fin.keepW (m0 := m') (Nat.le_trans (by omega) Z'.g.le) (memSame_slf Z'.g.nd) Z'.g.nd (Z'.g.rdm D).kp ⟨rfl, Z'.g, hdone⟩
end
end Go.Proofs.Ytmdeoikpiiambaa
end
section
/- The document's model: a coder is made. BRIEF -/
set_option linter.unusedVariables false
set_option linter.unusedSimpArgs false
set_option maxRecDepth 100000
namespace Go.Proofs.Ytmdeoikpiiambaa
open Go Go.Eng

/-- chances under way -/
def ChA (i : Nat) (V : AV) (M : Mem) (lo : Nat) : Prop := (i = 0 ∧ V = .nils) ∨ ∃ (q cap : Nat) (qs : List Value), V = .sl q 0 i cap ∧ Eng.look M q = some (.cells (bvs .u16 (List.replicate i 1024#16) ++ qs.map AV.val) 136) ∧ i + qs.length = cap ∧ cap ≤ maxI ∧ lo ≤ q
theorem ChA.facts {i : Nat} {V : AV} {M : Mem} {lo : Nat} (h : ChA i V M lo) : mapOf [V] = none ∧ one1 V = true ∧ isTup V = false ∧ acells V = [V] ∧ ∀ l off, stor l off V = l.set off V := by
  rcases h with ⟨_, rfl⟩ | ⟨q, cap, qs, rfl, _⟩ <;> exact ⟨rfl, rfl, rfl, rfl, fun _ _ => rfl⟩
section
variable {wr : Nat → Bool} {m : Mem} {nx : Nat}
theorem appk_ch {i : Nat} {V : AV} {M : Mem} {nxM lo : Nat} {K : Kv} (D : Rdm wr m nx) (lt : ∀ p ∈ m, p.1 < nx) (h : ChA i V M lo) (g : Gr m nx M nxM) (hlo : nx ≤ lo) (hlo2 : lo ≤ nxM) (hi : i ≤ 1000000)
    (hK : ∀ V' M' nx', ChA (i + 1) V' M' lo → Gr m nx M' nx' → nxM ≤ nx' → (∀ k, k < lo → Eng.look M' k = Eng.look M k) → K V' M' nx') :
    appk V ((nxM, .cells (bvs .u16 [1024#16]) 136) :: M) (nxM + 1) wr 136 1 2 (([1024#16] : List (BitVec 16)).length, bvs .u16 [1024#16]) K := by
  have gc := g.trans (Gr.cons g.nd g.lt (.cells (bvs .u16 [1024#16]) 136))
  rcases h with ⟨rfl, rfl⟩ | ⟨q, cap, qs, rfl, h1, h2, h3, h4⟩
  · refine appk_nils (k := .u16) (y := [1024#16]) (by decide) (by decide) (fun h => by cases h) fun _ cap' sp' c1 c2 => ?_
    refine hK _ _ _ (.inr ⟨nxM + 1, cap', sp', rfl, by rw [look_cons, if_pos rfl]; rfl, c1, c2, by omega⟩) (gc.trans (Gr.cons gc.nd gc.lt _)) (by omega) fun k hk => ?_
    rw [look_cons, if_neg (by omega), look_cons, if_neg (by omega)]
  · have hq := look_ltm g.lt h1
    have e0 : i = (List.replicate i 1024#16).length := List.length_replicate.symm
    have hln : (nxM, AObj.cells (bvs .u16 [1024#16]) 136) :: M = (nxM, AObj.cells (bvs .u16 [1024#16]) 136) :: M := rfl
    have main := appk_bvs (wr := wr) (m := (nxM, .cells (bvs .u16 [1024#16]) 136) :: M) (nx := nxM + 1) (K := K) (k := .u16) (x := List.replicate i 1024#16) (y := [1024#16]) (sp := qs) (n := q) (cap := cap) (e := 136) (bt := 2) (by rw [look_cons, if_neg (by omega)]; exact h1) (D.wn q (by omega)) (by rw [← e0]; exact h2) h3 (by decide) (by rw [← e0]; show (i + 1) * 2 ≤ _; omega) (fun cap2 sp2 d1 d2 => by
      have hdn : Eng.del ((nxM, AObj.cells (bvs .u16 [1024#16]) 136) :: M) q = (nxM, AObj.cells (bvs .u16 [1024#16]) 136) :: Eng.del M q := by
        show (if nxM = q then _ else _) = _
        rw [if_neg (by omega)]
      rw [hdn]
      have b1 := Gr.del lt g (show nx ≤ q by omega)
      have b2 := b1.trans (Gr.cons b1.nd b1.lt (.cells (bvs .u16 [1024#16]) 136))
      have er : List.replicate i 1024#16 ++ [1024#16] = List.replicate (i + 1) 1024#16 := List.replicate_succ'.symm
      rw [er] at d1 ⊢
      rw [List.length_replicate] at d1 ⊢
      refine hK _ _ _ (.inr ⟨nxM + 1, cap2, sp2, rfl, by rw [look_cons, if_pos rfl], d1, d2, by omega⟩) (b2.trans (Gr.cons b2.nd b2.lt _)) (by omega) fun k hk => ?_
      rw [look_cons, if_neg (by omega), look_cons, if_neg (by omega), look_del_other (by omega)])
    rw [← e0] at main
    exact main
set_option maxHeartbeats 2000000 in
theorem knew (D : Rdm wr m nx) (lt : ∀ p ∈ m, p.1 < nx) (lc lp pb : Nat) (h1 : lc + lp ≤ 4) (h2 : pb ≤ 4) :
    CallG false Try.prog 41 [.int .i64 (lc : Nat), .int .i64 (lp : Nat), .int .i64 (pb : Nat)] wr m nx (fun v m' nx' => v = .ptr (nx + 1) 0 ∧ Gr m nx m' nx' ∧ ∃ q qc qs, DoA (nx + 1) nx 4 q qc [] qs (newC lc lp pb) (newP lc lp) m' ∧ nx + 2 ≤ q) := by
  refine fn_okG Try.func41 rfl (by show 3 ≤ _; decide) ?_
  simp (maxSteps := 1000000) -implicitDefEqProofs only [go_sem, seval, -List.reduceReplicate, Try.results41, Try.ntmps41]
  refine ⟨.inr trivial, ?_⟩
  obtain ⟨N, hN⟩ : ∃ N, N = 2180 + 768 * 2 ^ (lc + lp) := ⟨_, rfl⟩
  have p16 : 2 ^ (lc + lp) ≤ 2 ^ 4 := Nat.pow_le_pow_right (by decide) h1
  have w1 : IntKind.i64.wrap ((lc : Int) + (lp : Int)) = ((lc + lp : Nat) : Int) := by rw [wrap_i64] <;> omega
  have w2 : IntKind.i64.wrap (768 * ((2 ^ (lc + lp) : Nat) : Int)) = ((768 * 2 ^ (lc + lp) : Nat) : Int) := by rw [wrap_i64] <;> omega
  have w3 : IntKind.i64.wrap (2180 + ((768 * 2 ^ (lc + lp) : Nat) : Int)) = (N : Int) := by rw [wrap_i64] <;> omega
  have G0 := Gr.cons D.nd lt (.cells (((((List.replicate 4 (AV.int IntKind.i64 0)).set 0 (AV.int IntKind.i64 1)).set 1 (AV.int IntKind.i64 1)).set 2 (AV.int IntKind.i64 1)).set 3 (AV.int IntKind.i64 1)) 3)
  have G1 := G0.trans (Gr.cons G0.nd G0.lt (.cells [AV.int IntKind.i64 (lc : Nat), AV.int IntKind.i64 (lp : Nat), AV.int IntKind.i64 (pb : Nat), AV.int IntKind.i64 0, AV.sl nx 0 4 4, AV.nils] 80))
  refine LoopOk.upX (fun i (x : AV × Mem × Nat) => Gr m nx x.2.1 x.2.2 ∧ ChA i x.1 x.2.1 (nx + 2) ∧ Eng.look x.2.1 nx = some (.cells [.int .i64 1, .int .i64 1, .int .i64 1, .int .i64 1] 3) ∧ Eng.look x.2.1 (nx + 1) = some (.cells [AV.int IntKind.i64 (lc : Nat), AV.int IntKind.i64 (lp : Nat), AV.int IntKind.i64 (pb : Nat), AV.int IntKind.i64 0, AV.sl nx 0 4 4, x.1] 80) ∧ nx + 2 ≤ x.2.2) N
    (fun i x => ([(8, .int .i64 (i : Nat)), (7, .ptr (nx + 1) 0), (0, .int .i64 (lc : Nat)), (1, .int .i64 (lp : Nat))], x.2.1, x.2.2)) (.nils, _, nx + 1 + 1) ⟨G1, .inl ⟨rfl, rfl⟩, by rw [look_cons, if_neg (by omega), look_cons, if_pos rfl]; rfl, by rw [look_cons, if_pos rfl], Nat.le_refl _⟩ ((G1.rdm D).leN G1.le ⟨rfl, rfl, rfl, rfl, trivial⟩) ?_
  rintro i ⟨V, M, nxM⟩ ⟨hi4, a1, a2, a3, a4, a5⟩
  have a1 : Gr m nx M nxM := a1
  have a2 : ChA i V M (nx + 2) := a2
  have a3 : Eng.look M nx = some (.cells [.int .i64 1, .int .i64 1, .int .i64 1, .int .i64 1] 3) := a3
  have a4 : Eng.look M (nx + 1) = some (.cells [AV.int IntKind.i64 (lc : Nat), AV.int IntKind.i64 (lp : Nat), AV.int IntKind.i64 (pb : Nat), AV.int IntKind.i64 0, AV.sl nx 0 4 4, V] 80) := a4
  have a5 : nx + 2 ≤ nxM := a5
  have wi : IntKind.i64.wrap ((i : Int) + 1) = ((i + 1 : Nat) : Int) := by rw [wrap_i64] <;> omega
  obtain ⟨q1, q2, q3, q4, q5⟩ := a2.facts
  rcases Nat.lt_or_ge i N with h' | h'
  · have c1 : decide ((i : Int) < (N : Int)) = true := decide_eq_true (by omega)
    simp (maxSteps := 1000000) -implicitDefEqProofs only [go_sem, seval, -List.reduceReplicate, w1]
    refine CallG.pk (ktwo (a1.rdm D) (lc + lp) (by omega)) ?_
    simp (maxSteps := 1000000) -implicitDefEqProofs only [go_sem, seval, -List.reduceReplicate, w1, w2, w3, c1, a4, q1, q2, q3, q4, q5]
    refine ⟨.inr trivial, rfl, rfl, ?_⟩
    refine appk_ch D lt a2 a1 (by omega) a5 (by omega) ?_
    intro V' M' nx' d1 d2 d3 d4
    obtain ⟨p1, p2, p3, p4, p5⟩ := d1.facts
    have b3 : Eng.look M' nx = some (.cells [.int .i64 1, .int .i64 1, .int .i64 1, .int .i64 1] 3) := by rw [d4 nx (by omega)]; exact a3
    have b4 : Eng.look M' (nx + 1) = some (.cells [AV.int IntKind.i64 (lc : Nat), AV.int IntKind.i64 (lp : Nat), AV.int IntKind.i64 (pb : Nat), AV.int IntKind.i64 0, AV.sl nx 0 4 4, V] 80) := by rw [d4 _ (by omega)]; exact a4
    have ww : wr (nx + 1) = true := D.wn _ (by omega)
    simp (maxSteps := 1000000) -implicitDefEqProofs only [go_sem, seval, -List.reduceReplicate, b4, ww, p1, p2, p3, p4, p5, wi]
    have g2 := Gr.updN D lt d2 (show nx ≤ nx + 1 by omega) (.cells [AV.int IntKind.i64 (lc : Nat), AV.int IntKind.i64 (lp : Nat), AV.int IntKind.i64 (pb : Nat), AV.int IntKind.i64 0, AV.sl nx 0 4 4, V'] 80)
    refine UpX_normal h' (V', _, nx') ⟨g2, ?_, by show Eng.look (Eng.upd M' (nx + 1) _) nx = _; rw [look_upd_other _ (by omega)]; exact b3, look_upd_same _ b4, by show nx + 2 ≤ nx'; omega⟩ ((g2.rdm D).leN g2.le ⟨rfl, rfl, rfl, rfl, trivial⟩)
    rcases d1 with z | ⟨q, cap, qs, e0, e1, e2, e3, e4⟩
    · exact .inl z
    · exact .inr ⟨q, cap, qs, e0, by rw [look_upd_other _ (by omega)]; exact e1, e2, e3, e4⟩
  · have hil : i = N := by omega
    have c1 : decide ((i : Int) < (N : Int)) = false := decide_eq_false (by omega)
    simp (maxSteps := 1000000) -implicitDefEqProofs only [go_sem, seval, -List.reduceReplicate, w1]
    refine CallG.pk (ktwo (a1.rdm D) (lc + lp) (by omega)) ?_
    simp (maxSteps := 1000000) -implicitDefEqProofs only [go_sem, seval, -List.reduceReplicate, w1, w2, w3, c1, a4, q1, q2, q3, q4, q5]
    rcases a2 with ⟨z, _⟩ | ⟨q, cap, qs, rfl, d1, d2, d3, d4⟩
    · omega
    have hl : (newP lc lp).length = i := by rw [newP, List.length_replicate]; omega
    have hD : DoA (nx + 1) nx 4 q cap [] qs (newC lc lp pb) (newP lc lp) M := ⟨by rw [hl]; exact a4, a3, by unfold newP; rw [← hN, ← hil]; exact d1, by omega, by omega, by omega, rfl, by decide, by rw [hl]; exact d2, d3, by rw [hl, hil, hN]; rfl⟩
    exact Fin.keepW (m0 := M) a1.le (memSame_slf a1.nd) a1.nd (a1.rdm D).kp ⟨rfl, a1, q, cap, qs, hD, d4⟩
end
end Go.Proofs.Ytmdeoikpiiambaa
end
section
/- The model's known rows, by reckoning. BRIEF -/
set_option linter.unusedVariables false
set_option linter.unusedSimpArgs false
set_option maxRecDepth 100000
namespace Go.Proofs.Ytmdeoikpiiambaa
open Go Go.Eng

def yA : Sy := ⟨0, 65#8, 0, 0, 0⟩
def CA : MC := becC (newC 3 0 2) yA
end Go.Proofs.Ytmdeoikpiiambaa
end
section
/- The model's statements: a coder of bits is made; repeats; the known rows. BRIEF -/
set_option linter.unusedVariables false
set_option linter.unusedSimpArgs false
set_option maxRecDepth 100000
namespace Go.Proofs.Ytmdeoikpiiambaa
open Go Go.Eng

section
variable {wr : Nat → Bool} {m : Mem} {nx : Nat}
theorem enewOk (D : Rdm wr m nx) (lt : ∀ p ∈ m, p.1 < nx) : CallG false Try.prog 40 [] wr m nx (fun v m' nx' => v = .ptr nx 0 ∧ m' = (nx, eO .nils newS) :: m ∧ nx' = nx + 1) := by
  refine fn_okG Try.func40 rfl (Nat.zero_le _) ?_
  have G1 := Gr.cons D.nd lt (eO .nils newS)
  simp (maxSteps := 1000000) -implicitDefEqProofs only [go_sem, seval, -List.reduceReplicate, Try.results40, Try.ntmps40]
  exact Fin.keepW (m0 := (nx, eO .nils newS) :: m) G1.le (memSame_slf G1.nd) G1.nd (G1.rdm D).kp ⟨rfl, rfl, rfl⟩
theorem encAt_new (m : Mem) (nx : Nat) : EncAt nx ((nx, eO .nils newS) :: m) newS [nx] := ⟨.nils, [], rfl, look_c0 _ _ _, .nil _, (fun e => by cases e), fun h => by cases h⟩
end
theorem CoAt.mok (lc lp pb : Nat) (h1 : lc + lp ≤ 4) (h2 : pb ≤ 4) : MCok (newC lc lp pb) := by
  have h : 1 ≤ 1 ∧ 1 < 1099511627776 := by decide
  exact ⟨h1, h2, (show 0 < 12 by decide), h, h, h, h⟩
section
variable {wr : Nat → Bool} {m : Mem} {nx : Nat}
theorem rnewY (D : Rdm wr m nx) (lt : ∀ p ∈ m, p.1 < nx) (lc lp pb : Int) (h : mayB lc lp pb = true) :
    CallG false Try.prog 38 [.int .i64 lc, .int .i64 lp, .int .i64 pb] wr m nx (fun v m' nx' => v = .tup [.ptr (nx + 1) 0, .int .i64 0] ∧ Gr m nx m' nx' ∧ CoAt (nx + 1) nx (newC lc.toNat lp.toNat pb.toNat) (newP lc.toNat lp.toNat) m') :=
  (rnew D lt lc lp pb).weak fun v m' nx' hr => by rw [if_pos h] at hr; exact hr
variable {a c q : Nat} {hv : AV} {h : List (BitVec 8)} {hs : List Nat} {C : MC} {P : List (BitVec 16)} {e : ES} {ns : List Nat}
theorem rputY (D : Rdm wr m nx) (lt : ∀ p ∈ m, p.1 < nx) (S : MS (encIo a) c q hv h hs C P e ns m) (hC : MCok C) (hh : h.length ≤ 1000000000) (hw : ∀ k ∈ c :: q :: ns, wr k = true) (hb : encB e 24) (y : Sy) (hf : fitsB C h.length y = true) :
    CallG false Try.prog 43 [.ptr c 0, .ptr a 0, hv, .agg (syL y)] wr m nx (MK (encIo a) c q hv h hs (becC C y) (.int .i64 0) (run encM (symP C h y) P e).2.1 (run encM (symP C h y) P e).2.2 ns m nx) :=
  (rput D lt S hC hh hw hb y).weak fun v m' nx' hr => by
    rw [if_pos hf] at hr
    have e1 : (run encM (symP C h y) P e).1.2 = becC C y := by rw [run_enc encE, symP_val _ _ _ hf]
    have key : ∀ C', C' = becC C y → MK (encIo a) c q hv h hs C' (.int .i64 0) (run encM (symP C h y) P e).2.1 (run encM (symP C h y) P e).2.2 ns m nx v m' nx' → MK (encIo a) c q hv h hs (becC C y) (.int .i64 0) (run encM (symP C h y) P e).2.1 (run encM (symP C h y) P e).2.2 ns m nx v m' nx' := fun _ e h => e ▸ h
    exact key _ e1 hr
/-- both coders behind a symbol -/
theorem put_rel {s : RS} (hr : RelE e s) (y : Sy) {j : Nat} (hb : encB e (j + 24)) (hb2 : rencB s (j + 24)) : (run encM (symP C h y) P e).2.1 = (told rencM (cmds (symP C h y)).2 P s).1 ∧ RelE (run encM (symP C h y) P e).2.2 (told rencM (cmds (symP C h y)).2 P s).2 ∧ encB (run encM (symP C h y) P e).2.2 j ∧ rencB (told rencM (cmds (symP C h y)).2 P s).2 j := by
  obtain ⟨r1, r2, r3⟩ := run_rel 24 (symP C h y) P e s (symP_le _ _ _) hr
  have hb' := encBud.run 24 j (symP C h y) P e (symP_le _ _ _) hb
  have hb2' := rencBud.run 24 j (symP C h y) P s (symP_le _ _ _) hb2
  rw [run_enc rencE] at r2 r3 hb2'
  exact ⟨r2, r3, hb', hb2'⟩
end
theorem syA : AV.agg [.int .i64 0, .int .u8 65, .int .i64 0, .int .i64 0, .int .i64 0] = .agg (syL yA) := rfl
theorem encB_new (k : Nat) (h : k ≤ 9000) : encB newS k := ⟨by decide, by show 0 + 0 + 100 * k ≤ 900000; omega⟩
theorem rencB_new (k : Nat) (h : k ≤ 8999) : rencB newR k := ⟨by decide, by decide, by show 4 + 100 * k ≤ 900000; omega⟩
end Go.Proofs.Ytmdeoikpiiambaa
end
section
/- The model's statements: rows of symbols, what is under way. BRIEF -/
set_option linter.unusedVariables false
set_option linter.unusedSimpArgs false
set_option maxRecDepth 100000
namespace Go.Proofs.Ytmdeoikpiiambaa
open Go Go.Eng

def syZ : Sy := ⟨0, 0#8, 0, 0, 0⟩
/-- another history -/
theorem MS.his {I : IoS} {c q : Nat} {hv hv' : AV} {h h' : List (BitVec 8)} {hs hs' : List Nat} {C : MC} {P : List (BitVec 16)} {s : I.σ} {ns : List Nat} {m : Mem} (S : MS I c q hv h hs C P s ns m) (hi : ByAt 5 m hv' h' hs') (h1 : c ∉ hs') (h2 : q ∉ hs') (h3 : ∀ k ∈ hs', k ∉ ns) : MS I c q hv' h' hs' C P s ns m :=
  ⟨S.co, S.io, hi, S.nc, S.nq, h1, h2, h3⟩
theorem MS.live {I : IoS} {c q : Nat} {hv : AV} {h : List (BitVec 8)} {hs : List Nat} {C : MC} {P : List (BitVec 16)} {s : I.σ} {ns : List Nat} {m : Mem} {nx : Nat} (S : MS I c q hv h hs C P s ns m) (lt : ∀ p ∈ m, p.1 < nx) : c < nx ∧ q < nx ∧ (∀ k ∈ ns, k < nx) ∧ ∀ k ∈ hs, k < nx :=
  ⟨look_ltm lt S.co.co, look_ltm lt S.co.li, fun k hk => (by obtain ⟨o, ho⟩ := I.live S.io k hk; exact look_ltm lt ho), S.hi.lt lt⟩
theorem becC_ok {C : MC} (hC : MCok C) {n : Nat} {y : Sy} (hf : fitsB C n y = true) (hn : n ≤ 1000000) : MCok (becC C y) ∧ (becC C y).lc = C.lc ∧ (becC C y).lp = C.lp ∧ (becC C y).pb = C.pb := by
  have hr := fun j => repOf_ok hC j
  have hfr : ∀ place d, 1 ≤ d → d < 1099511627776 → MCok (front C place d) := fun place d h1 h2 => by
    unfold front
    split
    · exact ⟨hC.lc, hC.pb, hC.st, ⟨h1, h2⟩, hC.r1, hC.r2, hC.r3⟩
    · split
      · exact ⟨hC.lc, hC.pb, hC.st, ⟨h1, h2⟩, hC.r0, hC.r2, hC.r3⟩
      · split
        · exact ⟨hC.lc, hC.pb, hC.st, ⟨h1, h2⟩, hC.r0, hC.r1, hC.r3⟩
        · exact ⟨hC.lc, hC.pb, hC.st, ⟨h1, h2⟩, hC.r0, hC.r1, hC.r2⟩
  have hgo : ∀ (C' : MC) (l u : Nat), MCok C' → l < 12 → u < 12 → MCok (go1 C' l u) := fun C' l u h h1 h2 => ⟨h.lc, h.pb, by show (if _ then l else u) < 12; split <;> assumption, h.r0, h.r1, h.r2, h.r3⟩
  have kf := fun p d => front_kinds C p d
  rcases fitsB_kind hf with h | ⟨h, h1⟩ | ⟨h, h1⟩
  · have e : becC C y = litGo C := by unfold becC; rw [if_pos h]
    rw [e]
    refine ⟨⟨hC.lc, hC.pb, ?_, hC.r0, hC.r1, hC.r2, hC.r3⟩, rfl, rfl, rfl⟩
    have := hC.st
    show (if C.st < 4 then 0 else if C.st < 10 then C.st - 3 else C.st - 6) < 12
    split
    · omega
    · split <;> omega
  · have e : becC C y = go1 (front C 3 y.d.toNat) 7 10 := by unfold becC; rw [if_neg (by omega), if_pos h]
    have hd := hf
    unfold fitsB at hd
    rw [if_neg (by omega), if_pos h] at hd
    simp only [Bool.and_eq_true, decide_eq_true_eq] at hd
    rw [e]
    exact ⟨hgo _ _ _ (hfr _ _ (by omega) (by omega)) (by decide) (by decide), (kf 3 y.d.toNat).1, (kf 3 y.d.toNat).2.1, (kf 3 y.d.toNat).2.2.1⟩
  · have e : ∃ l u, l < 12 ∧ u < 12 ∧ becC C y = go1 (front C y.r.toNat (repOf C y.r.toNat)) l u := by
      unfold becC
      rw [if_neg (by omega), if_neg (by omega)]
      split
      · exact ⟨9, 11, by decide, by decide, rfl⟩
      · exact ⟨8, 11, by decide, by decide, rfl⟩
    obtain ⟨l, u, g1, g2, e⟩ := e
    rw [e]
    exact ⟨hgo _ _ _ (hfr _ _ (hr _).1 (hr _).2) g1 g2, (kf _ _).1, (kf _ _).2.1, (kf _ _).2.2.1⟩
/-- how far back, as a number -/
def distN (C : MC) (y : Sy) : Nat := (distS C y).toNat
theorem distN_eq {C : MC} (hC : MCok C) {n : Nat} {y : Sy} (hf : fitsB C n y = true) : distS C y = (distN C y : Int) ∧ (y.k = 0 ∨ (0 ≤ y.l ∧ y.l ≤ 273 ∧ 1 ≤ distN C y ∧ distN C y ≤ n)) ∧ (y.k = 2 → 0 ≤ y.r ∧ y.r < 4) := by
  unfold distN
  unfold fitsB at hf
  by_cases h0 : y.k = 0
  · refine ⟨?_, .inl h0, fun h => by omega⟩
    unfold distS; rw [if_neg (by omega), if_neg (by omega)]; rfl
  rw [if_neg h0] at hf
  by_cases h1 : y.k = 1
  · rw [if_pos h1] at hf
    simp only [Bool.and_eq_true, decide_eq_true_eq] at hf
    unfold distS
    rw [if_pos h1]
    exact ⟨by omega, .inr (by omega), fun h => by omega⟩
  rw [if_neg h1] at hf
  by_cases h2 : y.k = 2
  · rw [if_pos h2] at hf
    simp only [Bool.and_eq_true, Bool.or_eq_true, decide_eq_true_eq] at hf
    unfold distS
    rw [if_neg h1, if_pos h2]
    have hr := (repOf_ok hC y.r.toNat).1
    exact ⟨by omega, .inr (by omega), fun h => by omega⟩
  · rw [if_neg h2] at hf; cases hf
end Go.Proofs.Ytmdeoikpiiambaa
end
section
/- The law on what is coded and read: no program in sight. BRIEF -/
set_option linter.unusedVariables false
set_option linter.unusedSimpArgs false
set_option maxRecDepth 100000
namespace Go.Proofs.Ytmdeoikpiiambaa
open Go Go.Eng

/-! a row of symbols -/
def walkS : MC → List (BitVec 8) → List Sy → MC × List (BitVec 8)
  | C, h, [] => (C, h)
  | C, h, z :: T => walkS (becC C z) (growS h z (distN C z)) T
def cmdA : MC → List (BitVec 8) → List Sy → List Cmd
  | C, h, [] => []
  | C, h, z :: T => (cmds (symP C h z)).2 ++ cmdA (becC C z) (growS h z (distN C z)) T
def fitA : MC → List (BitVec 8) → List Sy → Prop
  | C, h, [] => True
  | C, h, z :: T => fitsB C h.length z = true ∧ plainS z = z ∧ fitA (becC C z) (growS h z (distN C z)) T
/-! all that was told is read -/
def boundL (a : List Cmd) : Prop := ∀ v n, Cmd.l v n ∈ a → n ≤ 32
theorem boundL_app {a b : List Cmd} (h1 : boundL a) (h2 : boundL b) : boundL (a ++ b) := fun v n h => (List.mem_append.1 h).elim (h1 v n) (h2 v n)
theorem cmds_bound {α : Type} : ∀ (n : Nat) (p : Pg α), p.Le n → boundL (cmds p).2
  | n, .ret a, _ => fun v n h => by cases h
  | 0, .bit _ _ _, h => h.elim
  | 0, .plain _ _ _, h => h.elim
  | n + 1, .bit j w k, h => fun v m hm => by
    rw [cmds] at hm
    rcases List.mem_cons.1 hm with e | hm
    · cases e
    · exact cmds_bound n (k w) (h _) v m hm
  | n + 1, .plain u q k, h => fun v m hm => by
    rw [cmds] at hm
    rcases List.mem_cons.1 hm with e | hm
    · cases e; exact h.1
    · exact cmds_bound n (k _) (h.2 _) v m hm
theorem cmdA_bound : ∀ (T : List Sy) (C : MC) (h : List (BitVec 8)), boundL (cmdA C h T)
  | [], C, h => fun v n h => by cases h
  | z :: T, C, h => boundL_app (cmds_bound 24 _ (symP_le C h z)) (cmdA_bound T _ _)
theorem take_next {α : Type} (L : List α) (d : α) (j : Nat) (h : j < L.length) : L.take (j + 1) = L.take j ++ [L.getD j d] := by
  rw [List.take_add_one, List.getD_eq_getElem?_getD, List.getElem?_eq_getElem h]; rfl
theorem runE_foldl (L : List Ded) : ∀ n, n ≤ L.length → runE L n = (L.take n).foldl rcS (newS, newR)
  | 0, _ => rfl
  | n + 1, h => by
    rw [take_next L dedD n (by omega), List.foldl_append, ← runE_foldl L n (by omega)]; rfl
theorem runD_foldl (D : List (BitVec 8)) (s : DS) (L : List Ded) : ∀ n, n ≤ L.length → runD D s L n = (L.take n).foldl (stepD D) s
  | 0, _ => rfl
  | n + 1, h => by
    rw [take_next L dedD n (by omega), List.foldl_append, ← runD_foldl D s L n (by omega)]; rfl
theorem syn_of (D : List (BitVec 8)) : ∀ (L : List Ded) (t : DS), (∀ j, j < L.length → gotD D ((L.take j).foldl (stepD D) t) (L.getD j dedD) = wantD (L.getD j dedD)) → Syn D L t
  | [], t, _ => trivial
  | d :: r, t, h => ⟨h 0 (Nat.zero_lt_succ _), syn_of D r _ fun j hj => h (j + 1) (by show j + 1 < r.length + 1; omega)⟩
/-- what was told is read, and then all is done -/
theorem told_read (a : List Cmd) (P : List (BitVec 16)) (hb : boundL a) {F : List (BitVec 8)} (hF : (told rencM a P newR).2.low = F) (h4 : 4 ≤ F.length) : Syn (F.drop 4) (deeds a P) (start (0#8 :: F)) ∧ doneS (F.drop 4) ((deeds a P).foldl (stepD (F.drop 4)) (start (0#8 :: F))) = true := by
  have ht := (told_deeds a P (newS, newR) hb).2
  have e1 := runE_foldl (deeds a P) _ (Nat.le_refl _)
  rw [List.take_length] at e1
  have hF' : (runE (deeds a P) (deeds a P).length).2.low = F := by rw [e1, ← ht]; exact hF
  obtain ⟨d1, d2⟩ := done_same (deeds a P) (deeds a P).length hF' h4
  rw [runD_foldl _ _ _ _ (Nat.le_refl _), List.take_length] at d1
  refine ⟨syn_of _ _ _ fun j hj => ?_, d1⟩
  have := d2 j hj
  rw [runD_foldl _ _ _ _ (by omega)] at this
  exact this
end Go.Proofs.Ytmdeoikpiiambaa
end
section
/- A reader over bytes that lie somewhere; symbols as literals. BRIEF -/
set_option linter.unusedVariables false
set_option linter.unusedSimpArgs false
set_option maxRecDepth 100000
namespace Go.Proofs.Ytmdeoikpiiambaa
open Go Go.Eng

/-- a new reader, in any memory -/
def NewJ (b : List (BitVec 8)) (m : Mem) (nx : Nat) : Kv := fun v m' nx' => Gr m nx m' nx' ∧ if newE b = 0 then ∃ a n, v = .tup [.ptr a 0, .int .i64 0] ∧ nx ≤ a ∧ nx ≤ n ∧ DcAt a (b.drop 5) m' (start b) [a, n] else v = .tup [.nilp, .int .i64 (newE b)]
theorem dnewBy {fz : Bool} {wr : Nat → Bool} {m : Mem} {nx : Nat} {X : List (BitVec 8)} {v : AV} {ns : List Nat} (hX : X.length ≤ 1000000) (nd : (m.map fun p => p.1).Nodup) (lt : ∀ p ∈ m, p.1 < nx) (hb : ByAt 5 m v X ns) :
    CallG fz Try.prog 55 [v] wr m nx (NewJ X m nx) := by
  refine CallOk.more (CallG.any (dnewOk (wr := fun _ => true) (rdmT nd0) lt0 X hX)) (R := NewK X [] 0) ⟨hb.arg, trivial⟩ ?_
  rintro v' m' nx' ⟨g, ro, hif⟩
  have hro := ro rfl
  by_cases hE : newE X = 0
  · rw [if_pos hE] at hif
    obtain ⟨a, n, cap, sp, rfl, h1, h2, h3⟩ := hif
    refine ⟨rfl, hro, Gr.of_ren nd lt g, ?_⟩
    rw [if_pos hE]
    refine ⟨a + nx, n + nx, rfl, Nat.le_add_left _ _, Nat.le_add_left _ _, n + nx, cap, sp, rfl, ⟨?_, ?_, fun e => h3.ne (by omega), h3.len⟩⟩
    · rw [look_ren_hi _ _ _ _ lt, h3.at_]
      simp only [Option.map_some, dO, renO, renL, renA]
    · rw [look_ren_hi _ _ _ _ lt, h3.row]
      simp only [Option.map_some, rowO, renO, renL_append, bvs_ren, plnL_ren (val_pln _)]
  · rw [if_neg hE] at hif
    subst hif
    refine ⟨rfl, hro, Gr.of_ren nd lt g, ?_⟩
    rw [if_neg hE]
    rfl
theorem dis_step {X X' Y : List Nat} {nx : Nat} (h : ∀ k ∈ Y, k ∉ X) (hX : ∀ k ∈ X', k ∈ X ∨ nx ≤ k) (hY : ∀ k ∈ Y, k < nx) : ∀ k ∈ Y, k ∉ X' := fun k hk hm => by
  rcases hX k hm with g | g
  · exact h k hk g
  · have := hY k hk; omega
theorem SlA.lt {ty s : Nat} {m : Mem} {nx : Nat} {v : AV} {k : Nat} {L : List AV} {ns : List Nat} (h : SlA ty s m v k L ns) (lt : ∀ p ∈ m, p.1 < nx) : ∀ i ∈ ns, i < nx := fun i hi => by
  obtain ⟨o, ho⟩ := h.live i hi
  exact look_ltm lt ho
theorem KD.live {Z : Rid} {c : Nat} {C : MC} {m : Mem} {P : List (BitVec 16)} {ns : List Nat} (H : KD Z c C m P ns) : ∀ j ∈ ns, ∃ o, Eng.look m j = some o := fun j hj => by
  obtain ⟨r, rc, q, qc, rs, qs, ne, rfl, hd, he, _⟩ := H
  rcases List.mem_cons.1 hj with rfl | hj
  · exact ⟨_, hd.co⟩
  rcases List.mem_cons.1 hj with rfl | hj
  · exact ⟨_, hd.re⟩
  rcases List.mem_cons.1 hj with rfl | hj
  · exact ⟨_, hd.ch⟩
  · exact Z.live he j hj
theorem KD.lt {Z : Rid} {c : Nat} {C : MC} {m : Mem} {nx : Nat} {P : List (BitVec 16)} {ns : List Nat} (H : KD Z c C m P ns) (lt : ∀ p ∈ m, p.1 < nx) : ∀ j ∈ ns, j < nx := fun j hj => by
  obtain ⟨o, ho⟩ := H.live j hj
  exact look_ltm lt ho
theorem KD.ext {Z : Rid} {c : Nat} {C : MC} {m m' : Mem} {P : List (BitVec 16)} {nd : List Nat} (H : KD Z c C m P nd) (h1 : ∀ k ∈ nd, ∀ o, Eng.look m k = some o → Eng.look m' k = some o) : KD Z c C m' P nd := by
  obtain ⟨r, rc, q, qc, rs, qs, ne, rfl, hd, he, h⟩ := H
  refine ⟨r, rc, q, qc, rs, qs, ne, rfl, hd.ext fun k hk o ho => h1 k ?_ o ho, Z.ext he fun k hk o ho => h1 k (.tail _ (.tail _ (.tail _ hk))) o ho, h⟩
  rcases hk with rfl | rfl | rfl
  · exact .head _
  · exact .tail _ (.head _)
  · exact .tail _ (.tail _ (.head _))
end Go.Proofs.Ytmdeoikpiiambaa
end
section
/- Reading symbols: unmodel.Read. BRIEF -/
set_option linter.unusedVariables false
set_option linter.unusedSimpArgs false
set_option maxRecDepth 100000
namespace Go.Proofs.Ytmdeoikpiiambaa
open Go Go.Eng

theorem by_tail {P : Program} {t e ty : TypeId} {m : Mem} {v : AV} {X : List (BitVec 8)} {ns : List Nat} (h : ByAt ty m v X ns) (k : Nat) (hk : k ≤ X.length) (he : elemT P t = some e) (hz : sizeT P e = some 1) {q : AV → Prop} (hq : ∀ v', ByAt ty m v' (X.drop k) ns → q v') : slcx P t v (some (.int .i64 (k : Nat))) none q := by
  rcases h with ⟨rfl, rfl, rfl⟩ | ⟨rfl, rfl⟩ | ⟨n, off, cap, pre, sp, rfl, rfl, h3, rfl, h5, h6, h7, h8, h9⟩
  · have hk0 : k = 0 := by simpa using hk
    subst hk0
    rw [slcx_nils, he, Asks_some, hz, Asks_some]
    exact ⟨rfl, rfl, hq _ (.nil _)⟩
  · rw [slcx_ro, he, Asks_some, hz, Asks_some]
    refine ⟨_, rfl, _, rfl, ⟨by omega, by omega, by omega⟩, ?_⟩
    have e1 : (((X.length : Nat) : Int).toNat - ((k : Nat) : Int).toNat) = (X.drop k).length := by rw [List.length_drop]; omega
    have e2 : (bvs IntKind.u8 X).drop (((k : Nat) : Int).toNat * 1) = bvs .u8 (X.drop k) := by rw [Nat.mul_one, Int.toNat_natCast]; simp only [bvs, List.map_drop]
    rw [e1, e2]
    have e3 : (bvs IntKind.u8 (X.drop k)).take ((X.drop k).length * 1) = bvs .u8 (X.drop k) := by rw [Nat.mul_one, List.take_of_length_le (by rw [bvs_length]; exact Nat.le_refl _)]
    rw [e3]
    exact hq _ (.ro _ _)
  · rw [slcx_sl, he, Asks_some, hz, Asks_some]
    refine ⟨_, rfl, _, rfl, ⟨by omega, by omega, by omega⟩, ?_⟩
    have e1 : (((X.length : Nat) : Int).toNat - ((k : Nat) : Int).toNat) = (X.drop k).length := by rw [List.length_drop]; omega
    rw [e1]
    refine hq _ (.inr (.inr ⟨n, _, _, pre ++ bvs .u8 (X.take k), sp, rfl, rfl, ?_, ?_, ?_, ?_, ?_, ?_, h9⟩))
    · rw [h3, List.append_assoc, ← List.append_assoc (bvs .u8 (X.take k)), bvs_append, List.take_append_drop]
    · rw [List.length_append, bvs_length, List.length_take, Int.toNat_natCast]; omega
    · rw [List.length_drop, Int.toNat_natCast]; omega
    · rw [List.length_drop, Int.toNat_natCast]; omega
    · omega
    · rw [List.all_append, h8, bvs_pln]; rfl
theorem elBy : elemT Try.prog 22 = some 5 := by kernel_rfl
theorem inSz : sizeT Try.prog 5 = some 1 := by kernel_rfl
/-- the history is grown in its place -/
theorem MS.newh {I : IoS} {c q : Nat} {hv hv' : AV} {h h' : List (BitVec 8)} {hs hs' : List Nat} {C : MC} {P : List (BitVec 16)} {s : I.σ} {ns : List Nat} {m m' : Mem} {nx : Nat} (S : MS I c q hv h hs C P s ns m) (lt : ∀ p ∈ m, p.1 < nx) (kp : ∀ k o, k ∉ hs → Eng.look m k = some o → Eng.look m' k = some o) (hi : ByAt 5 m' hv' h' hs') (hn : ∀ k ∈ hs', k ∈ hs ∨ nx ≤ k) : MS I c q hv' h' hs' C P s ns m' := by
  obtain ⟨x1, x2, x3, x4⟩ := S.live lt
  refine ⟨S.co.ext (fun o => kp _ _ S.hc) (fun o => kp _ _ S.hq), I.ext S.io fun k hk o ho => kp k o (fun hm => S.hn k hm hk) ho, hi, S.nc, S.nq, ?_, ?_, ?_⟩
  · intro hm
    rcases hn _ hm with h | h
    · exact S.hc h
    · omega
  · intro hm
    rcases hn _ hm with h | h
    · exact S.hq h
    · omega
  · intro k hk hm
    rcases hn k hk with h | h
    · exact S.hn k h hm
    · have := x3 k hm; omega
/-- what is read, symbol by symbol -/
def rdU (D : List (BitVec 8)) (en : Nat) (dict : Int) : Nat → MC → List (BitVec 16) → DS → List (BitVec 8) → Option (MC × List (BitVec 16) × DS × List (BitVec 8))
  | 0, C, P, t, all => if all.length < en then none else some (C, P, t, all)
  | f + 1, C, P, t, all =>
    if all.length < en then
      if (run (decM D) (symP C all syZ) P t).2.2.o = true then none
      else if (run (decM D) (symP C all syZ) P t).1.1.k = 0 then rdU D en dict f (run (decM D) (symP C all syZ) P t).1.2 (run (decM D) (symP C all syZ) P t).2.1 (run (decM D) (symP C all syZ) P t).2.2 (all ++ [(run (decM D) (symP C all syZ) P t).1.1.b])
      else if ((run (decM D) (symP C all syZ) P t).1.2.r0 : Int) > (all.length : Int) ∨ ((run (decM D) (symP C all syZ) P t).1.2.r0 : Int) > dict ∨ (run (decM D) (symP C all syZ) P t).1.1.l > (en : Int) - (all.length : Int) then none
      else rdU D en dict f (run (decM D) (symP C all syZ) P t).1.2 (run (decM D) (symP C all syZ) P t).2.1 (run (decM D) (symP C all syZ) P t).2.2 (growN all (run (decM D) (symP C all syZ) P t).1.2.r0 (run (decM D) (symP C all syZ) P t).1.1.l.toNat)
    else some (C, P, t, all)
/-- the call's end -/
def RdUK (a : Nat) (D : List (BitVec 8)) (c q : Nat) (h : List (BitVec 8)) (r : Option (MC × List (BitVec 16) × DS × List (BitVec 8))) (ns : List Nat) (m : Mem) (nx : Nat) : Kv := fun v m' nx' => Fr (c :: q :: ns) m nx m' nx' ∧ match r with
  | none => v = .tup [.nils, .int .i64 6]
  | some (C', P', t', all) => ∃ s os ns', v = .tup [s, .int .i64 0] ∧ ByAt 5 m' s (all.drop h.length) os ∧ (∀ k ∈ os, nx ≤ k) ∧ CoAt c q C' P' m' ∧ DcAt a D m' t' ns' ∧ (∀ k ∈ ns', k ∈ ns ∨ nx ≤ k) ∧ MCok C' ∧ okS D t'
structure UG where
  C : MC
  P : List (BitVec 16)
  t : DS
  all : List (BitVec 8)
  v : AV
  vs : List Nat
  ns : List Nat
  M : Mem
  n : Nat
structure UI (a : Nat) (D : List (BitVec 8)) (hD : D.length ≤ 1000000) (c q : Nat) (ns : List Nat) (m : Mem) (nx : Nat) (h : List (BitVec 8)) (en : Nat) (dict : Int) (many : Nat) (r : Option (MC × List (BitVec 16) × DS × List (BitVec 8))) (i : Nat) (g : UG) : Prop where
  S : MS (decIo a D hD) c q g.v g.all g.vs g.C g.P g.t g.ns g.M
  F : Fr (c :: q :: ns) m nx g.M g.n
  nr : g.v ≠ .ro g.all.length (bvs .u8 g.all)
  vn : ∀ k ∈ g.vs, nx ≤ k
  sn : ∀ k ∈ g.ns, k ∈ ns ∨ nx ≤ k
  r : rdU D en dict (many - i) g.C g.P g.t g.all = r
  l1 : h.length + i ≤ g.all.length
  l2 : g.all.length ≤ en
  C : MCok g.C
  ok : okS D g.t
section
variable {wr : Nat → Bool} {m : Mem} {nx a c q : Nat} {D : List (BitVec 8)} {hD : D.length ≤ 1000000} {hv : AV} {h : List (BitVec 8)} {hs : List Nat} {C : MC} {P : List (BitVec 16)} {t : DS} {ns : List Nat}
set_option maxHeartbeats 8000000 in
theorem ureadOk (R : Rdm wr m nx) (lt : ∀ p ∈ m, p.1 < nx) (S : MS (decIo a D hD) c q hv h hs C P t ns m) (hC : MCok C) (hw : ∀ k ∈ c :: q :: ns, wr k = true) (hok : okS D t) (many : Nat) (dict : Int) (hh : h.length + many ≤ 500000000) (hd1 : 1 ≤ dict) :
    CallG false Try.prog 59 [.ptr a 0, .ptr c 0, hv, .int .i64 (many : Nat), .int .i64 dict] wr m nx (RdUK a D c q h (rdU D (h.length + many) dict many C P t h) ns m nx) := by
  refine fn_okG Try.func59 rfl (by show 5 ≤ _; decide) ?_
  have e1 : decide (((many : Nat) : Int) < 0) = false := decide_eq_false (by omega)
  have e2 : decide (dict < 1) = false := decide_eq_false (by omega)
  have G1 := Gr.cons R.nd lt (.cells [] 5)
  obtain ⟨q1, q2, q3, q4, q5⟩ := S.hi.facts
  have q6 := S.hi.len Try.prog 22
  have zs := (S.hi.grow G1).src
  simp only [srcx, Nat.mul_one, Eng.look] at zs
  simp (maxSteps := 1000000) -implicitDefEqProofs only [go_sem, seval, -List.reduceReplicate, Try.results59, Try.ntmps59, e1, e2, q1, q2, q3, q4, q5, q6, zs, one1_bvs]
  have r0 : ByAt 5 ((nx, .cells [] 5) :: m) (.sl nx 0 0 0) [] [nx] := .row (X := []) (sp := []) rfl (by rw [look_cons, if_pos rfl]; rfl) rfl (by decide) rfl
  refine ⟨.inr trivial, ?_⟩
  refine appk_by (Y := h) r0 (fun e => by cases e) G1.nd (fun n hn => R.wn n (by omega)) G1.lt (fun k hk => R.wn k (by cases List.mem_singleton.1 hk; omega)) (by rw [List.length_nil]; omega) ?_
  intro v1 m1 nx1 ns1 b1 b2 b3 b4 b5 b6 b7 b8
  rw [List.nil_append] at b1 b2
  have n1 : ∀ k ∈ ns1, nx ≤ k := fun k hk => by
    rcases b4 k hk with h | h
    · cases List.mem_singleton.1 h; exact Nat.le_refl _
    · omega
  have g1 : Gr m nx m1 nx1 := gr_app G1 lt (ns1 := [nx]) (fun k hk => by cases List.mem_singleton.1 hk; omega) b3 b5 b6 b7
  have wE : IntKind.i64.wrap (((h.length : Nat) : Int) + ((many : Nat) : Int)) = ((h.length + many : Nat) : Int) := by rw [wrap_i64] <;> omega
  obtain ⟨x1, x2, x3, x4⟩ := S.live lt
  have S1 := (S.gr g1).his b1 (fun hm => by have := n1 _ hm; omega) (fun hm => by have := n1 _ hm; omega) (fun k hk hm => by have := n1 k hk; have := x3 k hm; omega)
  simp (maxSteps := 1000000) -implicitDefEqProofs only [go_sem, seval, -List.reduceReplicate, q1, q2, q3, q4, q5, q6, wE]
  refine LoopOk.upX (UI a D hD c q ns m nx h (h.length + many) dict many (rdU D (h.length + many) dict many C P t h)) many
    (fun i g => ([(13, .int .i64 ((h.length + many : Nat) : Int)), (12, g.v), (11, .int .i64 0), (10, .nils), (0, .ptr a 0), (1, .ptr c 0), (2, hv), (3, .int .i64 (many : Nat)), (4, .int .i64 dict)], g.M, g.n)) ⟨C, P, t, h, v1, ns1, ns, m1, nx1⟩
    ⟨S1, Fr.gr g1, b2, n1, fun k hk => .inl hk, rfl, Nat.le_refl _, Nat.le_add_right _ _, hC, hok⟩ ((g1.rdm R).leN g1.le ⟨rfl, rfl, rfl, rfl, rfl, rfl, rfl, rfl, rfl, trivial⟩) ?_
  rintro i g ⟨hi, I⟩
  have RM := I.F.rdm R hw
  have hi' : i ≤ many := hi
  obtain ⟨p1, p2, p3, p4, p5⟩ := I.S.hi.facts
  have p6 := I.S.hi.len Try.prog 22
  have l1 := I.l1
  have l2 := I.l2
  by_cases hlt : g.all.length < h.length + many
  · have c1 : decide (((g.all.length : Nat) : Int) < ((h.length + many : Nat) : Int)) = true := decide_eq_true (by omega)
    have hwg := sub3 (c := c) (q := q) I.sn
    have hww : ∀ k ∈ c :: q :: g.ns, wr k = true := wrT R hw hwg
    have hcode := rcode RM I.F.lt I.S I.C (by omega) hww (show (decIo a D hD).Ok g.t 24 from I.ok) syZ (.inl ⟨by decide, by decide, by decide, by decide⟩)
    have hr := I.r
    obtain ⟨f, hf⟩ : ∃ f, many - i = f + 1 := ⟨many - i - 1, by omega⟩
    rw [hf, rdU, if_pos hlt] at hr
    obtain ⟨hsy, hCm, hkin⟩ := All.run (decM D) g.P g.t (symP_all I.C g.all syZ)
    have hok2 := (decBud D).run 24 0 (symP g.C g.all syZ) g.P g.t (symP_le _ _ _) I.ok
    have hrun : ∃ r, r = run (decM D) (symP g.C g.all syZ) g.P g.t := ⟨_, rfl⟩
    obtain ⟨⟨⟨y, C2⟩, P2, t2⟩, hrr⟩ := hrun
    have key : ∀ (r r' : (Sy × MC) × List (BitVec 16) × DS), r = r' → CallG false Try.prog 56 [.ptr c 0, .iface (decIo a D hD).ty (decIo a D hD).rc, g.v, .agg (syL syZ)] wr g.M g.n (CK (decIo a D hD) c q g.v g.all g.vs (fun y => .agg (syL y)) r g.ns g.M g.n) → CallG false Try.prog 56 [.ptr c 0, .iface (decIo a D hD).ty (decIo a D hD).rc, g.v, .agg (syL syZ)] wr g.M g.n (CK (decIo a D hD) c q g.v g.all g.vs (fun y => .agg (syL y)) r' g.ns g.M g.n) := fun _ _ e h => e ▸ h
    have hcode2 := key _ _ hrr.symm hcode
    rw [← hrr] at hr hsy hCm hok2
    dsimp only at hr hsy hCm hok2
    have sp5 : spl [AV.int IntKind.i64 0, AV.int IntKind.u8 0, AV.int IntKind.i64 0, AV.int IntKind.i64 0, AV.int IntKind.i64 0] 0 (syL y) = syL y := rfl
    have sp5' : ∀ a b d e f : AV, spl [AV.int IntKind.i64 0, AV.int IntKind.u8 0, AV.int IntKind.i64 0, AV.int IntKind.i64 0, AV.int IntKind.i64 0] 0 [a, b, d, e, f] = [a, b, d, e, f] := fun _ _ _ _ _ => rfl
    simp (maxSteps := 1000000) -implicitDefEqProofs only [go_sem, seval, -List.reduceReplicate, p1, p2, p3, p4, p5, p6, c1]
    refine CallG.weak hcode2 ?_
    rintro v m2 n2 ⟨rfl, fr2, ns2, S2, hn2⟩
    have R2 := fr2.rdm RM hww
    simp (maxSteps := 1000000) -implicitDefEqProofs only [go_sem, seval, -List.reduceReplicate, p1, p2, p3, p4, p5, p6, syL, sp5']
    refine ⟨R2.wn n2 (Nat.le_refl _), ?_⟩
    have gA := Gr.cons R2.nd fr2.lt (.cells (syL y) 71)
    have RA := gA.rdm R2
    have SA := S2.gr gA
    have n2l := fr2.le
    have FA : Fr (c :: q :: ns) m nx ((n2, .cells (syL y) 71) :: m2) (n2 + 1) := (I.F.trans fr2 lt hwg).trans (Fr.gr (ns := []) gA) lt (fun k hk => by cases hk)
    have bxA : Eng.look ((n2, AObj.cells (syL y) 71) :: m2) n2 = some (.cells (syL y) 71) := look_c0 _ _ _
    have hio : DcAt a D ((n2, AObj.cells (syL y) 71) :: m2) t2 ns2 := SA.io
    obtain ⟨dn, dcap, dsp, hdn, hdec⟩ := id hio
    have hout : CallG false Try.prog 114 [.ptr a 0] wr ((n2, AObj.cells (syL y) 71) :: m2) (n2 + 1) (PK (.bool t2.o) ((n2, AObj.cells (syL y) 71) :: m2) (n2 + 1)) := doutOk RA hdec
    have sn2 : ∀ k ∈ ns2, k ∈ ns ∨ nx ≤ k := subT I.sn hn2 I.F.le
    have Fl := I.F.le
    refine CallG.pk hout ?_
    cases ho : t2.o with
    | true =>
      rw [if_pos ho] at hr
      simp (maxSteps := 1000000) -implicitDefEqProofs only [go_sem, seval, -List.reduceReplicate]
      rw [← hr]
      exact Fin.keepW (m0 := _) FA.le (memSame_slf FA.nd) FA.nd (FA.rdm R hw).kp ⟨FA, rfl⟩
    | false =>
      rw [if_neg (by rw [ho]; decide)] at hr
      unfold syL at bxA
      by_cases hk : y.k = 0
      · rw [if_pos hk] at hr
        have k0 : (y.k == 0) = true := by simp [hk]
        simp (maxSteps := 1000000) -implicitDefEqProofs only [go_sem, seval, -List.reduceReplicate, p1, p2, p3, p4, p5, p6, bxA, k0]
        refine ⟨.inr trivial, rfl, ?_⟩
        have gc := Gr.cons gA.nd gA.lt (.cells (bvs .u8 [y.b]) 5)
        have gAc := gA.trans gc
        have SB := S2.gr gAc
        have vnA : ∀ k ∈ g.vs, wr k = true := fun k hk => R.wn k (I.vn k hk)
        change appk g.v ((n2 + 1, .cells (bvs .u8 [y.b]) 5) :: _) (n2 + 1 + 1) wr 5 1 1 (([y.b] : List (BitVec 8)).length, bvs .u8 [y.b]) _
        refine appk_by SB.hi I.nr gc.nd (fun n hn => R.wn n (by omega)) gc.lt vnA (by show g.all.length + 1 ≤ _; omega) ?_
        intro v3 m3 n3 vs3 d1 d2 d3 d4 d5 d6 d7 d8
        have S3 := SB.newh gc.lt d7 d1 (fun k hk => d4 k hk)
        have F3 : Fr (c :: q :: ns) m nx m3 n3 := ⟨by omega, d5, d6, fun k o hk ho => d7 k o (fun hm => by have := I.vn k hm; have := look_ltm lt ho; omega) (gAc.kp k o ((I.F.trans fr2 lt hwg).kp k o hk ho))⟩
        simp (maxSteps := 1000000) -implicitDefEqProofs only [go_sem, seval, -List.reduceReplicate]
        refine UpX_normal (show i < many by omega) ⟨C2, P2, t2, g.all ++ [y.b], v3, vs3, ns2, m3, n3⟩ ⟨S3, F3, d2, fun k hk => ?_, sn2, ?_, ?_, ?_, hCm, hok2⟩ ((F3.rdm R hw).leN F3.le ⟨rfl, rfl, rfl, rfl, rfl, rfl, rfl, rfl, rfl, trivial⟩)
        · rcases d4 k hk with h | h
          · exact I.vn k h
          · omega
        · rw [← hr]; show rdU _ _ _ (many - (i + 1)) _ _ _ _ = _; rw [show many - (i + 1) = f by omega]
        · rw [List.length_append]; show _ ≤ _ + 1; omega
        · rw [List.length_append]; show _ + 1 ≤ _; omega
      · rw [if_neg hk] at hr
        have k0 : (y.k == 0) = false := by simp [hk]
        have hyl : 1 ≤ y.l ∧ y.l ≤ 273 := by
          rcases hsy with ⟨h, _⟩ | ⟨h, h1, h2, _⟩ | ⟨h, h1, h2, _⟩
          · exact absurd h hk
          · omega
          · omega
        obtain ⟨l, hl⟩ : ∃ l : Nat, y.l = (l : Int) := ⟨y.l.toNat, by omega⟩
        have hr0 := hCm.r0
        simp (maxSteps := 1000000) -implicitDefEqProofs only [go_sem, seval, -List.reduceReplicate, p1, p2, p3, p4, p5, p6, bxA, k0]
        refine CallG.weak (rrepeats RA gA.lt SA.co) ?_
        rintro v m6 n6 ⟨rfl, g6⟩
        have gA6 := gA.trans g6
        have S6 := S2.gr gA6
        have bx6 := g6.kp _ _ bxA
        have n6l := g6.le
        have F6 : Fr (c :: q :: ns) m nx m6 n6 := (I.F.trans fr2 lt hwg).trans (Fr.gr (ns := []) gA6) lt (fun k hk => by cases hk)
        have wl : IntKind.i64.wrap (((h.length + many : Nat) : Int) - ((g.all.length : Nat) : Int)) = ((h.length + many : Nat) : Int) - ((g.all.length : Nat) : Int) := by rw [wrap_i64] <;> omega
        have fin6 : rdU D (h.length + many) dict many C P t h = none → Eng.Fin nx wr m6 n6 (RdUK a D c q h (rdU D (h.length + many) dict many C P t h) ns m nx) (.tup [.nils, .int .i64 6]) := fun e => by
          rw [e]; exact Fin.keepW (m0 := _) F6.le (memSame_slf F6.nd) F6.nd (F6.rdm R hw).kp ⟨F6, rfl⟩
        by_cases a1 : ((C2.r0 : Nat) : Int) > ((g.all.length : Nat) : Int)
        · have d1 : decide (((C2.r0 : Nat) : Int) > ((g.all.length : Nat) : Int)) = true := decide_eq_true a1
          rw [if_pos (.inl a1)] at hr
          simp (maxSteps := 1000000) -implicitDefEqProofs only [go_sem, seval, -List.reduceReplicate, rpL, p1, p2, p3, p4, p5, p6, bx6, d1]
          exact fin6 hr.symm
        have d1 : decide (((C2.r0 : Nat) : Int) > ((g.all.length : Nat) : Int)) = false := decide_eq_false a1
        by_cases a2 : ((C2.r0 : Nat) : Int) > dict
        · have d2 : decide (((C2.r0 : Nat) : Int) > dict) = true := decide_eq_true a2
          rw [if_pos (.inr (.inl a2))] at hr
          simp (maxSteps := 1000000) -implicitDefEqProofs only [go_sem, seval, -List.reduceReplicate, rpL, p1, p2, p3, p4, p5, p6, bx6, d1, d2]
          exact fin6 hr.symm
        have d2 : decide (((C2.r0 : Nat) : Int) > dict) = false := decide_eq_false a2
        rw [hl] at bx6
        by_cases a3 : y.l > ((h.length + many : Nat) : Int) - ((g.all.length : Nat) : Int)
        · have d3 : decide (((l : Nat) : Int) > ((h.length + many : Nat) : Int) - ((g.all.length : Nat) : Int)) = true := decide_eq_true (by rw [← hl]; exact a3)
          rw [if_pos (.inr (.inr a3))] at hr
          simp (maxSteps := 1000000) -implicitDefEqProofs only [go_sem, seval, -List.reduceReplicate, rpL, p1, p2, p3, p4, p5, p6, bx6, d1, d2, d3, wl]
          exact fin6 hr.symm
        have d3 : decide (((l : Nat) : Int) > ((h.length + many : Nat) : Int) - ((g.all.length : Nat) : Int)) = false := decide_eq_false (by rw [← hl]; exact a3)
        rw [if_neg (by rintro (h | h | h) <;> contradiction), hl, Int.toNat_natCast] at hr
        simp (maxSteps := 1000000) -implicitDefEqProofs only [go_sem, seval, -List.reduceReplicate, rpL, p1, p2, p3, p4, p5, p6, bx6, d1, d2, d3, wl]
        have R6 := F6.rdm R hw
        have vnA : ∀ k ∈ g.vs, wr k = true := fun k hk => R.wn k (I.vn k hk)
        have b6 : ByAt 5 m6 g.v g.all g.vs := S6.hi
        refine LoopOk.upX (fun j (x : AV × List Nat × Mem × Nat) => Fr g.vs m6 n6 x.2.2.1 x.2.2.2 ∧ ByAt 5 x.2.2.1 x.1 (growN g.all C2.r0 j) x.2.1 ∧ x.1 ≠ .ro (growN g.all C2.r0 j).length (bvs .u8 (growN g.all C2.r0 j)) ∧ ∀ k ∈ x.2.1, k ∈ g.vs ∨ n6 ≤ k) l
          (fun j x => ([(80, .int .i64 (j : Nat)), (79, .int .i64 (l : Nat)), (15, .int .i64 (C2.r0 : Nat)), (13, .int .i64 ((h.length + many : Nat) : Int)), (12, x.1), (11, .int .i64 0), (10, .nils), (0, .ptr a 0), (1, .ptr c 0), (2, hv), (3, .int .i64 (many : Nat)), (4, .int .i64 dict)], x.2.2.1, x.2.2.2)) (g.v, g.vs, m6, n6) ⟨.refl F6.nd F6.lt, b6, I.nr, fun k hk => .inl hk⟩ (R6.leN F6.le ⟨rfl, rfl, rfl, rfl, rfl, rfl, rfl, rfl, rfl, rfl, rfl, rfl, trivial⟩) ?_
        rintro j ⟨v7, vs7, m7, n7⟩ ⟨hj, u1, u2, u3, u4⟩
        have u1 : Fr g.vs m6 n6 m7 n7 := u1
        have u2 : ByAt 5 m7 v7 (growN g.all C2.r0 j) vs7 := u2
        have u3 : v7 ≠ .ro (growN g.all C2.r0 j).length (bvs .u8 (growN g.all C2.r0 j)) := u3
        have u4 : ∀ k ∈ vs7, k ∈ g.vs ∨ n6 ≤ k := u4
        have hgl := growN_len g.all C2.r0 j
        obtain ⟨o1, o2, o3, o4, o5⟩ := u2.facts
        have o6 := u2.len Try.prog 22
        have R7 := u1.rdm R6 vnA
        have vnB : ∀ k ∈ vs7, wr k = true := fun k hk => R.wn k (by
          rcases u4 k hk with h | h
          · exact I.vn k h
          · have := F6.le; omega)
        rcases Nat.lt_or_ge j l with h' | h'
        · have c3 : decide (((j : Nat) : Int) < ((l : Nat) : Int)) = true := decide_eq_true (by omega)
          have wj : IntKind.i64.wrap (((j : Nat) : Int) + 1) = ((j + 1 : Nat) : Int) := by rw [wrap_i64] <;> omega
          have w1 : IntKind.i64.wrap (((growN g.all C2.r0 j).length : Int) - (C2.r0 : Int)) = (((growN g.all C2.r0 j).length - C2.r0 : Nat) : Int) := by rw [wrap_i64] <;> omega
          obtain ⟨p, hp1, hp2⟩ := u2.idx (t := 22) ((growN g.all C2.r0 j).length - C2.r0) (by omega) el5 sz5 kn5 ag5 df5
          simp (maxSteps := 1000000) -implicitDefEqProofs only [go_sem, seval, -List.reduceReplicate, c3, o1, o2, o3, o4, o5, o6, w1]
          refine hp1 _ ?_
          simp (maxSteps := 1000000) -implicitDefEqProofs only [go_sem, seval, -List.reduceReplicate, o1, o2, o3, o4, o5, o6]
          refine hp2 _ _ (fun _ _ => rfl) ?_
          simp (maxSteps := 1000000) -implicitDefEqProofs only [go_sem, seval, -List.reduceReplicate, o1, o2, o3, o4, o5, o6, one1_bvs]
          refine ⟨.inr trivial, rfl, ?_⟩
          change appk v7 ((n7, .cells (bvs .u8 [(growN g.all C2.r0 j).getD ((growN g.all C2.r0 j).length - C2.r0) 0#8]) 5) :: m7) (n7 + 1) wr 5 1 1 (([(growN g.all C2.r0 j).getD ((growN g.all C2.r0 j).length - C2.r0) 0#8] : List (BitVec 8)).length, bvs .u8 [(growN g.all C2.r0 j).getD ((growN g.all C2.r0 j).length - C2.r0) 0#8]) _
          have gc := Gr.cons u1.nd u1.lt (.cells (bvs .u8 [(growN g.all C2.r0 j).getD ((growN g.all C2.r0 j).length - C2.r0) 0#8]) 5)
          refine appk_by (u2.grow gc) u3 gc.nd (fun n hn => R7.wn n (by omega)) gc.lt vnB (by rw [hgl]; show _ + 1 ≤ _; omega) ?_
          intro v8 m8 n8 vs8 d1 d2 d3 d4 d5 d6 d7 d8
          have F8 : Fr vs7 m7 n7 m8 n8 := ⟨by omega, d5, d6, fun k o hk ho => d7 k o hk (gc.kp k o ho)⟩
          have F8' := u1.trans F8 F6.lt u4
          simp (maxSteps := 1000000) -implicitDefEqProofs only [go_sem, seval, -List.reduceReplicate, wj]
          exact UpX_normal h' (v8, vs8, m8, n8) ⟨F8', d1, d2, subT u4 (fun k hk => (d4 k hk).imp id fun h => by omega) u1.le⟩ ((F8'.rdm R6 vnA).leN (Nat.le_trans F6.le F8'.le) ⟨rfl, rfl, rfl, rfl, rfl, rfl, rfl, rfl, rfl, rfl, rfl, rfl, trivial⟩)
        · have hjl : j = l := by
            have : j ≤ l := hj
            omega
          subst hjl
          have c3 : decide (((j : Nat) : Int) < ((j : Nat) : Int)) = false := decide_eq_false (by omega)
          have S7 := S6.newh F6.lt u1.kp u2 u4
          have F7 : Fr (c :: q :: ns) m nx m7 n7 := F6.trans u1 lt (fun k hk => .inr (I.vn k hk))
          simp (maxSteps := 1000000) -implicitDefEqProofs only [go_sem, seval, -List.reduceReplicate, c3]
          refine UpX_normal (show i < many by omega) ⟨C2, P2, t2, growN g.all C2.r0 j, v7, vs7, ns2, m7, n7⟩ ⟨S7, F7, u3, fun k hk => ?_, sn2, ?_, ?_, ?_, hCm, hok2⟩ ((F7.rdm R hw).leN F7.le ⟨rfl, rfl, rfl, rfl, rfl, rfl, rfl, rfl, rfl, trivial⟩)
          · rcases u4 k hk with h | h
            · exact I.vn k h
            · have := F6.le; omega
          · rw [← hr]; show rdU _ _ _ (many - (i + 1)) _ _ _ _ = _; rw [show many - (i + 1) = f by omega]
          · rw [hgl]; omega
          · rw [hgl]; omega
  · have c1 : decide (((g.all.length : Nat) : Int) < ((h.length + many : Nat) : Int)) = false := decide_eq_false (by omega)
    have hr := I.r
    have hr' : some (g.C, g.P, g.t, g.all) = rdU D (h.length + many) dict many C P t h := by
      rw [← hr]
      cases hf : many - i with
      | zero => rw [rdU, if_neg hlt]
      | succ f => rw [rdU, if_neg hlt]
    simp (maxSteps := 1000000) -implicitDefEqProofs only [go_sem, seval, -List.reduceReplicate, p1, p2, p3, p4, p5, p6, c1, q1, q2, q3, q4, q5, q6]
    refine by_tail I.S.hi h.length (by omega) elBy inSz ?_
    intro s hs'
    simp (maxSteps := 1000000) -implicitDefEqProofs only [go_sem, seval, -List.reduceReplicate]
    rw [← hr']
    exact Fin.keepW (m0 := _) I.F.le (memSame_slf I.F.nd) I.F.nd RM.kp ⟨I.F, s, g.vs, g.ns, rfl, hs', I.vn, I.S.co, I.S.io, I.sn, I.C, I.ok⟩
end
end Go.Proofs.Ytmdeoikpiiambaa
end
section
/- The document's reader of bits, in any memory. BRIEF -/
set_option linter.unusedVariables false
set_option linter.unusedSimpArgs false
set_option maxRecDepth 100000
namespace Go.Proofs.Ytmdeoikpiiambaa
open Go Go.Eng

def qO (b : List (BitVec 8)) (s : DS) : AObj := .cells [.ro b.length (bvs .u8 b), .int .i64 ((5 + s.k : Nat) : Int), .int .u64 (s.c.toNat : Int), .int .u64 (s.r.toNat : Int), .bool s.o] 178
/-- the reader is left so, and nothing else -/
def QK (V : AV) (d : Nat) (b : List (BitVec 8)) (s' : DS) (m : Mem) (nx : Nat) : Kv := fun v m' nx' => v = V ∧ m' = Eng.upd m d (qO b s') ∧ nx' = nx
section
variable {wr : Nat → Bool} {m : Mem} {nx d : Nat} {b : List (BitVec 8)}
theorem qFin {V : AV} (s' : DS) (R : Rdm wr m nx) : Eng.Fin nx wr (Eng.upd m d (qO b s')) nx (QK V d b s' m nx) V := by
  have R2 := R.upd d (qO b s')
  exact Fin.keepW (m0 := Eng.upd m d (qO b s')) (Nat.le_refl _) (memSame_slf R2.nd) R2.nd R2.kp ⟨rfl, rfl, rfl⟩
theorem drop5 (b : List (BitVec 8)) (k : Nat) : (b.drop 5).getD k 0 = b.getD (5 + k) 0 := by
  rw [List.getD_eq_getElem?_getD, List.getElem?_drop, ← List.getD_eq_getElem?_getD]
set_option maxHeartbeats 1000000 in
theorem qsclOk (R : Rdm wr m nx) (lt : ∀ p ∈ m, p.1 < nx) {s : DS} (h : Eng.look m d = some (qO b s)) (wd : wr d = true) (hb : 5 ≤ b.length) (hb2 : b.length ≤ 1000000) (hk : s.k ≤ (b.drop 5).length) (hr : 1 ≤ s.r.toNat) :
    CallG false Try.prog 202 [.ptr d 0] wr m nx (QK (.tup []) d b (scl (b.drop 5) 3 s) m nx) := by
  refine fn_okG Try.func202 rfl (by show 1 ≤ _; decide) ?_
  have hdl : (b.drop 5).length = b.length - 5 := List.length_drop ..
  have dl := look_ltm lt h
  have f1 : decide (nx ≤ d) = false := decide_eq_false (by omega)
  simp (maxSteps := 1000000) -implicitDefEqProofs only [go_sem, seval, -List.reduceReplicate, Try.results202, Try.ntmps202]
  refine LoopOk.upX (fun i (x : DS × Mem) => x.2 = Eng.upd m d (qO b x.1) ∧ scl (b.drop 5) (3 - i) x.1 = scl (b.drop 5) 3 s ∧ x.1.k ≤ (b.drop 5).length ∧ 16777216 ≤ x.1.r.toNat * 256 ^ (3 - i)) 3 (fun i x => ([(0, .ptr d 0)], x.2, nx)) (s, m) ⟨(upd_self h).symm, rfl, hk, by show 16777216 ≤ s.r.toNat * 16777216; omega⟩ (R.le ⟨rfl, trivial⟩) ?_
  rintro i ⟨x, m1⟩ ⟨hi, h0, h1, h2, h3⟩
  have h0 : m1 = Eng.upd m d (qO b x) := h0
  have h1 : scl (b.drop 5) (3 - i) x = scl (b.drop 5) 3 s := h1
  have h2 : x.k ≤ (b.drop 5).length := h2
  have h3 : 16777216 ≤ x.r.toNat * 256 ^ (3 - i) := h3
  have e1 : Eng.look m1 d = some (qO b x) := by rw [h0]; exact look_upd_same _ h
  have R1 : Rdm wr m1 nx := by rw [h0]; exact R.upd d _
  unfold qO at e1
  rcases Nat.lt_or_ge x.r.toNat 16777216 with hr' | hr'
  · have g1 : decide ((x.r.toNat : Int) < 16777216) = true := decide_eq_true (by omega)
    have hr1 := r256 x.r hr'
    have hi3 : i < 3 := by
      rcases Nat.lt_or_ge i 3 with g | g
      · exact g
      · rw [show 3 - i = 0 by omega] at h3; omega
    rcases Nat.lt_or_ge x.k (b.drop 5).length with hk2 | hk2
    · have g2 : decide (((5 + x.k : Nat) : Int) ≥ (b.length : Int)) = false := decide_eq_false (by omega)
      have wk : IntKind.i64.wrap (((5 + x.k : Nat) : Int) + 1) = ((5 + (x.k + 1) : Nat) : Int) := by rw [wrap_i64] <;> omega
      have hgd := drop5 b x.k
      have hc1 := c256 x.c (b.getD (5 + x.k) 0#8)
      simp (maxSteps := 1000000) -implicitDefEqProofs only [go_sem, seval, -List.reduceReplicate, e1, wd, g1, hr1]
      refine ⟨Fx.mixed, .inl ⟨[(0, false), (1, false), (2, false), (3, false), (4, false), (5, false), (6, false), (7, false), (8, false), (9, false)], [], by kernel_rfl, (fun j hj => by cases hj), ?_⟩⟩
      simp (maxSteps := 1000000) -implicitDefEqProofs only [go_sem, seval, -List.reduceReplicate, e1, wd, g2, f1, look_upd_s, upd_upd, Option.isSome_some]
      refine ⟨Fx.mixed, .inr (.inl ⟨[(0, false), (1, false), (2, false), (3, false), (4, false), (5, false), (6, false), (7, false), (8, false), (9, false), (10, false), (11, false), (12, false), (13, false), (14, false), (15, false), (16, false), (17, false), (18, false), (19, false), (20, false), (21, true)], [d], [21], [4, 9, 13], by kernel_rfl, by kernel_rfl, (fun n hn => by cases List.mem_singleton.1 hn; exact ⟨wd, by rw [look_upd_s (by rw [e1]; rfl)]; rfl⟩), ?_⟩)⟩
      simp (maxSteps := 1000000) -implicitDefEqProofs only [go_sem, seval, -List.reduceReplicate, e1, wd, f1, wk, hc1, look_upd_s, upd_upd, Option.isSome_some]
      refine ⟨by omega, by omega, by rw [List.length_drop]; omega, ?_⟩
      have hst : scl (b.drop 5) (3 - (i + 1)) ⟨x.k + 1, x.c <<< 8 ||| ((b.drop 5).getD x.k 0).setWidth 32, x.r <<< 8, x.o⟩ = scl (b.drop 5) 3 s := by
        rw [← h1, show 3 - i = (3 - (i + 1)) + 1 by omega, scl, if_neg (by omega), if_neg (by omega)]
      have hr2 := shl8 x.r hr'
      have hp : 256 ^ (3 - i) = 256 * 256 ^ (3 - (i + 1)) := by rw [show 3 - i = (3 - (i + 1)) + 1 by omega, Nat.pow_succ, Nat.mul_comm]
      rw [hgd] at hst
      exact UpX_normal hi3 (⟨x.k + 1, x.c <<< 8 ||| (b.getD (5 + x.k) 0).setWidth 32, x.r <<< 8, x.o⟩, _) ⟨by rw [h0, upd_upd]; rfl, hst, by show x.k + 1 ≤ _; omega, by show _ ≤ (x.r <<< 8).toNat * _; rw [hr2, Nat.mul_assoc, ← hp]; exact h3⟩ ((R1.upd d _).le ⟨rfl, trivial⟩)
    · have g2 : decide (((5 + x.k : Nat) : Int) ≥ (b.length : Int)) = true := decide_eq_true (by omega)
      simp (maxSteps := 1000000) -implicitDefEqProofs only [go_sem, seval, -List.reduceReplicate, e1, wd, g1, hr1]
      refine ⟨Fx.mixed, .inl ⟨[(0, false), (1, false), (2, false), (3, false), (4, false), (5, false), (6, false), (7, false), (8, false), (9, false)], [], by kernel_rfl, (fun j hj => by cases hj), ?_⟩⟩
      simp (maxSteps := 1000000) -implicitDefEqProofs only [go_sem, seval, -List.reduceReplicate, e1, wd, g2, f1, look_upd_s, upd_upd, Option.isSome_some]
      have hst : (⟨x.k, x.c, x.r <<< 8, true⟩ : DS) = scl (b.drop 5) 3 s := by
        rw [← h1, show 3 - i = (3 - (i + 1)) + 1 by omega, scl, if_neg (by omega), if_pos (by omega)]
      rw [← hst, h0, upd_upd]
      exact qFin ⟨x.k, x.c, x.r <<< 8, true⟩ R
  · have g1 : decide ((x.r.toNat : Int) < 16777216) = false := decide_eq_false (by omega)
    have hst : scl (b.drop 5) 3 s = x := by
      rw [← h1]
      cases hf : 3 - i with
      | zero => rfl
      | succ f => rw [scl, if_pos hr']
    simp (maxSteps := 1000000) -implicitDefEqProofs only [go_sem, seval, -List.reduceReplicate, e1, wd, g1]
    rw [hst, h0]
    exact qFin x R
set_option maxHeartbeats 1000000 in
theorem qbitOk (R : Rdm wr m nx) (lt : ∀ p ∈ m, p.1 < nx) {s : DS} (h : Eng.look m d = some (qO b s)) (wd : wr d = true) (hb : 5 ≤ b.length) (hb2 : b.length ≤ 1000000) (hs : okS (b.drop 5) s) (ch : BitVec 16) :
    CallG false Try.prog 190 [.ptr d 0, .int .u16 (ch.toNat : Int)] wr m nx (QK (.tup [.int .i64 (bitI (bitS (b.drop 5) s (fairV ch)).1), .int .u16 ((nxB (fairV ch) (bitS (b.drop 5) s (fairV ch)).1).toNat : Int)]) d b (bitS (b.drop 5) s (fairV ch)).2 m nx) := by
  refine fn_okG Try.func190 rfl (by show 2 ≤ _; decide) ?_
  obtain ⟨p1, p2⟩ := fairV_range ch
  have e1 := h
  unfold qO at e1
  simp (maxSteps := 1000000) -implicitDefEqProofs only [go_sem, seval, -List.reduceReplicate, Try.results190, Try.ntmps190]
  refine (xfairOk ch).flat0 ⟨rfl, trivial⟩ (fun _ => rfl) rfl ?_
  generalize fairV ch = p at *
  have n0 := xnextOk p p1 p2 false
  have n1 := xnextOk p p1 p2 true
  cases ho : s.o with
  | true =>
    have hB : bitS (b.drop 5) s p = (false, s) := by rw [bitS, if_pos ho]
    rw [ho] at e1
    simp (maxSteps := 1000000) -implicitDefEqProofs only [go_sem, seval, -List.reduceReplicate, e1]
    refine n0.flat0 ⟨rfl, rfl, trivial⟩ (fun _ => rfl) rfl ?_
    simp (maxSteps := 1000000) -implicitDefEqProofs only [go_sem, seval, -List.reduceReplicate]
    rw [hB]
    have := qFin (d := d) (b := b) (V := .tup [.int .i64 0, .int .u16 ((nxB p false).toNat : Int)]) s R
    rw [upd_self h] at this
    exact this
  | false =>
    obtain ⟨k1, k2⟩ := hs
    obtain ⟨b1, b2⟩ := bnd_range s.r p p1 p2 (k2 ho)
    have hbd := bnd64 s.r p p2
    rw [ho] at e1
    rcases Nat.lt_or_ge s.c.toNat (bnd s.r p).toNat with h' | h'
    · have hB : bitS (b.drop 5) s p = (false, scl (b.drop 5) 3 ⟨s.k, s.c, bnd s.r p, false⟩) := by rw [bitS, if_neg (by rw [ho]; decide), if_pos h', ho]
      have f1 : decide ((s.c.toNat : Int) ≥ ((bnd s.r p).toNat : Int)) = false := decide_eq_false (by omega)
      have hup := look_upd_same (qO b ⟨s.k, s.c, bnd s.r p, false⟩) h
      have R1 := R.upd d (qO b ⟨s.k, s.c, bnd s.r p, false⟩)
      have l1 := upd_lt lt d (qO b ⟨s.k, s.c, bnd s.r p, false⟩)
      simp (maxSteps := 1000000) -implicitDefEqProofs only [go_sem, seval, -List.reduceReplicate, e1, wd, hbd, f1]
      refine CallG.weak (qsclOk R1 l1 hup wd hb hb2 k1 (by show 1 ≤ (bnd s.r p).toNat; omega)) ?_
      rintro v m2 nx2 ⟨rfl, rfl, rfl⟩
      simp (maxSteps := 1000000) -implicitDefEqProofs only [go_sem, seval, -List.reduceReplicate]
      refine n0.flat0 ⟨rfl, rfl, trivial⟩ (fun _ => rfl) rfl ?_
      simp (maxSteps := 1000000) -implicitDefEqProofs only [go_sem, seval, -List.reduceReplicate]
      rw [hB, upd_upd]
      exact qFin _ R
    · have hB : bitS (b.drop 5) s p = (true, scl (b.drop 5) 3 ⟨s.k, s.c - bnd s.r p, s.r - bnd s.r p, false⟩) := by rw [bitS, if_neg (by rw [ho]; decide), if_neg (by omega), ho]
      have f1 : decide ((s.c.toNat : Int) ≥ ((bnd s.r p).toNat : Int)) = true := decide_eq_true (by omega)
      have hs1 := sub64 s.c (bnd s.r p) h'
      have hs2 := sub64 s.r (bnd s.r p) (by omega)
      have hup := look_upd_same (qO b ⟨s.k, s.c - bnd s.r p, s.r - bnd s.r p, false⟩) h
      have R1 := R.upd d (qO b ⟨s.k, s.c - bnd s.r p, s.r - bnd s.r p, false⟩)
      have l1 := upd_lt lt d (qO b ⟨s.k, s.c - bnd s.r p, s.r - bnd s.r p, false⟩)
      simp (maxSteps := 1000000) -implicitDefEqProofs only [go_sem, seval, -List.reduceReplicate, e1, wd, hbd, f1, hs1, hs2, look_upd_s, upd_upd, Option.isSome_some]
      refine CallG.weak (qsclOk R1 l1 hup wd hb hb2 k1 (by show 1 ≤ (s.r - bnd s.r p).toNat; rw [subN _ _ (by omega)]; omega)) ?_
      rintro v m2 nx2 ⟨rfl, rfl, rfl⟩
      simp (maxSteps := 1000000) -implicitDefEqProofs only [go_sem, seval, -List.reduceReplicate]
      refine n1.flat0 ⟨rfl, rfl, trivial⟩ (fun _ => rfl) rfl ?_
      simp (maxSteps := 1000000) -implicitDefEqProofs only [go_sem, seval, -List.reduceReplicate]
      rw [hB, upd_upd]
      exact qFin _ R
set_option maxHeartbeats 1000000 in
theorem qdoneOk (R : Rdm wr m nx) (lt : ∀ p ∈ m, p.1 < nx) {s : DS} (h : Eng.look m d = some (qO b s)) (hb : 5 ≤ b.length) :
    CallG false Try.prog 63 [.ptr d 0] wr m nx (PK (.bool (doneS (b.drop 5) s)) m nx) := by
  refine fn_okG Try.func63 rfl (by show 1 ≤ _; decide) ?_
  have dl := look_ltm lt h
  have f1 : decide (nx ≤ d) = false := decide_eq_false (by omega)
  have e1 := h
  unfold qO at e1
  have hdl : (b.drop 5).length = b.length - 5 := List.length_drop ..
  simp (maxSteps := 1000000) -implicitDefEqProofs only [go_sem, seval, -List.reduceReplicate, Try.results63, Try.ntmps63]
  refine ⟨Fx.mixed, .inl ⟨[(0, false), (1, false), (2, false), (3, false), (4, false), (5, false), (6, false), (7, false), (8, false), (9, false), (10, false), (11, false), (12, false), (13, false), (14, false), (15, false), (16, false), (17, false), (18, false), (19, false), (20, false), (21, false), (22, false), (23, false), (24, false)], [], by kernel_rfl, (fun n hn => by cases hn), ?_⟩⟩
  have fin : ∀ {x : Bool}, x = doneS (b.drop 5) s → Eng.Fin nx wr m nx (PK (.bool (doneS (b.drop 5) s)) m nx) (.bool x) := fun e => by rw [e]; exact finP R _
  cases ho : s.o with
  | true =>
    rw [ho] at e1
    simp (maxSteps := 1000000) -implicitDefEqProofs only [go_sem, seval, -List.reduceReplicate, e1, f1]
    exact fin (x := false) (by rw [doneS, ho]; rfl)
  | false =>
    rw [ho] at e1
    cases hl : (((5 + s.k : Nat) : Int) == (b.length : Int)) with
    | true =>
      have h0 : s.k = (b.drop 5).length := by simp at hl; omega
      simp (maxSteps := 1000000) -implicitDefEqProofs only [go_sem, seval, -List.reduceReplicate, e1, f1, hl]
      exact fin (x := s.c == 0#32) (by rw [doneS, ho, decide_eq_true h0]; rfl)
    | false =>
      have h0 : ¬ s.k = (b.drop 5).length := by simp at hl; omega
      simp (maxSteps := 1000000) -implicitDefEqProofs only [go_sem, seval, -List.reduceReplicate, e1, f1, hl]
      exact fin (x := false) (by rw [doneS, decide_eq_false h0, Bool.and_false, Bool.false_and])
set_option maxHeartbeats 1000000 in
theorem qplnOk (R : Rdm wr m nx) (lt : ∀ p ∈ m, p.1 < nx) {s : DS} (h : Eng.look m d = some (qO b s)) (wd : wr d = true) (hb : 5 ≤ b.length) (hb2 : b.length ≤ 1000000) (hs : okS (b.drop 5) s) (N : Nat) (hN : N ≤ 32) :
    CallG false Try.prog 193 [.ptr d 0, .int .i64 (N : Nat)] wr m nx (QK (.int .u32 ((plnV (plnD (b.drop 5) s N)).toNat : Int)) d b (plnD (b.drop 5) s N).1 m nx) := by
  refine fn_okG Try.func193 rfl (by show 2 ≤ _; decide) ?_
  have dl := look_ltm lt h
  have f0 : decide (nx ≤ d) = false := decide_eq_false (by omega)
  simp (maxSteps := 1000000) -implicitDefEqProofs only [go_sem, seval, -List.reduceReplicate, Try.results193, Try.ntmps193]
  refine LoopOk.upX (fun j (x : Mem) => x = Eng.upd m d (qO b (plnD (b.drop 5) s j).1)) N (fun j x => ([(6, .int .i64 (j : Nat)), (5, .int .u32 ((plnD (b.drop 5) s j).2.toNat : Int)), (0, .ptr d 0), (1, .int .i64 (N : Nat))], x, nx)) m (upd_self h).symm (R.le ⟨rfl, rfl, rfl, rfl, trivial⟩) ?_
  rintro j m1 ⟨hj, hm1⟩
  have hok := pln_ok (b.drop 5) s hs j
  have h1 : Eng.look m1 d = some (qO b (plnD (b.drop 5) s j).1) := by rw [hm1]; exact look_upd_same _ h
  have R1 : Rdm wr m1 nx := by rw [hm1]; exact R.upd d _
  have l1 : ∀ p ∈ m1, p.1 < nx := by rw [hm1]; exact upd_lt lt d _
  have hnext : plnD (b.drop 5) s (j + 1) = plnStep (b.drop 5) (plnD (b.drop 5) s j) := rfl
  have hfin : plnD (b.drop 5) s N = (plnD (b.drop 5) s j) → Eng.Fin nx wr m1 nx (QK (.int .u32 ((plnV (plnD (b.drop 5) s N)).toNat : Int)) d b (plnD (b.drop 5) s N).1 m nx) (.int .u32 ((plnV (plnD (b.drop 5) s j)).toNat : Int)) := fun e2 => by
    rw [e2, hm1]; exact qFin _ R
  have e1 := h1
  unfold qO at e1
  have hj : j ≤ N := hj
  rcases Nat.lt_or_ge j N with h' | h'
  · have g1 : decide ((j : Int) < (N : Int)) = true := decide_eq_true (by omega)
    have wj : IntKind.i64.wrap ((j : Int) + 1) = ((j + 1 : Nat) : Int) := by rw [wrap_i64] <;> omega
    cases ho : (plnD (b.drop 5) s j).1.o with
    | true =>
      have he : plnD (b.drop 5) s N = (plnD (b.drop 5) s j) := by have := pln_out ho (N - j); rwa [Nat.add_sub_cancel' hj] at this
      rw [ho] at e1
      simp (maxSteps := 1000000) -implicitDefEqProofs only [go_sem, seval, -List.reduceReplicate, e1, g1]
      have hv : plnV (plnD (b.drop 5) s j) = 0#32 := by rw [plnV, if_pos ho]
      rw [hv] at hfin
      exact hfin he
    | false =>
      obtain ⟨k1, k2⟩ := hok
      have k2 := k2 ho
      have hh := half_nat (plnD (b.drop 5) s j).1.r
      rw [ho] at e1
      simp (maxSteps := 1000000) -implicitDefEqProofs only [go_sem, seval, -List.reduceReplicate, e1, wd, g1, half32, dbl32, w64, look_upd_s, upd_upd, Option.isSome_some]
      refine ⟨Fx.mixed, .inl ⟨[(0, false), (1, false), (2, false), (3, false), (4, false), (5, false), (6, false), (7, false), (8, false)], [], by kernel_rfl, (fun j hj => by cases hj), ?_⟩⟩
      rcases Nat.lt_or_ge (plnD (b.drop 5) s j).1.c.toNat ((plnD (b.drop 5) s j).1.r >>> 1).toNat with hc | hc
      · have f1 : decide (((plnD (b.drop 5) s j).1.c.toNat : Int) ≥ (((plnD (b.drop 5) s j).1.r >>> 1).toNat : Int)) = false := decide_eq_false (by omega)
        rw [plnStep, if_neg (by rw [ho]; decide), if_neg (by omega), ho] at hnext
        simp (maxSteps := 1000000) -implicitDefEqProofs only [go_sem, seval, -List.reduceReplicate, e1, wd, f0, f1, look_upd_s, upd_upd, Option.isSome_some]
        refine CallG.weak (qsclOk (R1.upd d _) (upd_lt l1 d _) (s := ⟨(plnD (b.drop 5) s j).1.k, (plnD (b.drop 5) s j).1.c, (plnD (b.drop 5) s j).1.r >>> 1, false⟩) (look_upd_same _ h1) wd hb hb2 k1 (by show 1 ≤ ((plnD (b.drop 5) s j).1.r >>> 1).toNat; omega)) ?_
        rintro v m2 nx2 ⟨rfl, hm2, rfl⟩
        simp (maxSteps := 1000000) -implicitDefEqProofs only [go_sem, seval, -List.reduceReplicate, wj]
        have R2 : Rdm wr m2 nx2 := by rw [hm2]; exact (R1.upd d _).upd d _
        refine UpX_normal h' m2 (by show m2 = _; rw [hm2, upd_upd, hm1, upd_upd, hnext]) ?_
        dsimp only
        rw [hnext]
        exact R2.le ⟨rfl, rfl, rfl, rfl, trivial⟩
      · have f1 : decide (((plnD (b.drop 5) s j).1.c.toNat : Int) ≥ (((plnD (b.drop 5) s j).1.r >>> 1).toNat : Int)) = true := decide_eq_true (by omega)
        have hs1 := sub64 (plnD (b.drop 5) s j).1.c ((plnD (b.drop 5) s j).1.r >>> 1) hc
        rw [plnStep, if_neg (by rw [ho]; decide), if_pos hc, ho] at hnext
        simp (maxSteps := 1000000) -implicitDefEqProofs only [go_sem, seval, -List.reduceReplicate, e1, wd, f0, f1, look_upd_s, upd_upd, Option.isSome_some]
        refine ⟨Fx.mixed, .inr (.inl ⟨[(0, false), (1, false), (2, false), (3, false), (4, false), (5, false), (6, false), (7, false), (8, false), (9, false), (10, false), (11, false), (12, true)], [d], [12], [4, 8], by kernel_rfl, by kernel_rfl, (fun n hn => by cases List.mem_singleton.1 hn; exact ⟨wd, by rw [look_upd_s (by rw [e1]; rfl)]; rfl⟩), ?_⟩)⟩
        simp (maxSteps := 1000000) -implicitDefEqProofs only [go_sem, seval, -List.reduceReplicate, e1, wd, f0, hs1, odd32, look_upd_s, upd_upd, Option.isSome_some]
        refine CallG.weak (qsclOk (R1.upd d _) (upd_lt l1 d _) (s := ⟨(plnD (b.drop 5) s j).1.k, (plnD (b.drop 5) s j).1.c - (plnD (b.drop 5) s j).1.r >>> 1, (plnD (b.drop 5) s j).1.r >>> 1, false⟩) (look_upd_same _ h1) wd hb hb2 k1 (by show 1 ≤ ((plnD (b.drop 5) s j).1.r >>> 1).toNat; omega)) ?_
        rintro v m2 nx2 ⟨rfl, hm2, rfl⟩
        simp (maxSteps := 1000000) -implicitDefEqProofs only [go_sem, seval, -List.reduceReplicate, wj]
        have R2 : Rdm wr m2 nx2 := by rw [hm2]; exact (R1.upd d _).upd d _
        refine UpX_normal h' m2 (by show m2 = _; rw [hm2, upd_upd, hm1, upd_upd, hnext]) ?_
        dsimp only
        rw [hnext]
        exact R2.le ⟨rfl, rfl, rfl, rfl, trivial⟩
  · have hj' : j = N := by omega
    have he : plnD (b.drop 5) s N = (plnD (b.drop 5) s j) := by rw [hj']
    have g1 : decide ((j : Int) < (N : Int)) = false := decide_eq_false (by omega)
    cases ho : (plnD (b.drop 5) s j).1.o with
    | true =>
      rw [ho] at e1
      simp (maxSteps := 1000000) -implicitDefEqProofs only [go_sem, seval, -List.reduceReplicate, e1, g1]
      have hv : plnV (plnD (b.drop 5) s j) = 0#32 := by rw [plnV, if_pos ho]
      rw [hv] at hfin
      exact hfin he
    | false =>
      rw [ho] at e1
      simp (maxSteps := 1000000) -implicitDefEqProofs only [go_sem, seval, -List.reduceReplicate, e1, g1]
      have hv : plnV (plnD (b.drop 5) s j) = (plnD (b.drop 5) s j).2 := by rw [plnV, if_neg (by rw [ho]; decide)]
      rw [hv] at hfin
      exact hfin he
/-- a new reader, or the error -/
def QNewK (b : List (BitVec 8)) (m : Mem) (nx : Nat) : Kv := fun v m' nx' => if newE b = 0 then v = .tup [.ptr nx 0, .int .i64 0] ∧ Gr m nx m' nx' ∧ Eng.look m' nx = some (qO b (start b)) else v = .tup [.nilp, .int .i64 (newE b)] ∧ m' = m ∧ nx' = nx
set_option maxHeartbeats 1000000 in
theorem qnewOk (R : Rdm wr m nx) (lt : ∀ p ∈ m, p.1 < nx) (b : List (BitVec 8)) (hb : b.length ≤ 1000000) :
    CallG false Try.prog 60 [.ro b.length (bvs .u8 b)] wr m nx (QNewK b m nx) := by
  refine fn_okG Try.func60 rfl (by show 1 ≤ _; decide) ?_
  rcases Nat.lt_or_ge b.length 5 with h | h
  · have e1 : decide ((b.length : Int) < 5) = true := decide_eq_true (by omega)
    have hE : newE b = 2 := by rw [newE, if_pos h]
    simp (maxSteps := 1000000) -implicitDefEqProofs only [go_sem, seval, -List.reduceReplicate, Try.results60, Try.ntmps60, e1]
    exact Fin.keepW (m0 := m) (Nat.le_refl _) (memSame_slf R.nd) R.nd R.kp (by rw [QNewK, hE, if_neg (by decide)]; exact ⟨rfl, rfl, rfl⟩)
  have e1 : decide ((b.length : Int) < 5) = false := decide_eq_false (by omega)
  have h0 : 0 < b.length := by omega
  rcases Decidable.em (b.getD 0 0 = 0#8) with hz | hz
  · have hE : newE b = 0 := by rw [newE, if_neg (by omega), if_neg (fun e => e hz)]
    have e2 : (b.getD 0 0#8 != 0#8) = false := by rw [bne_eq_false_iff_eq]; exact hz
    simp (maxSteps := 1000000) -implicitDefEqProofs only [go_sem, seval, -List.reduceReplicate, Try.results60, Try.ntmps60, e1, e2]
    refine ⟨by omega, h0, h0, ?_⟩
    have wx : wr nx = true := R.wn nx (Nat.le_refl _)
    have gx : ∀ j, Gr m nx ((nx, .cells [.ro b.length (bvs .u8 b), .int .i64 5, .int .u64 ((cdN b j).toNat : Int), .int .u64 4294967295, .bool false] 178) :: m) (nx + 1) := fun j => Gr.cons R.nd lt _
    refine LoopOk.upX (fun j (x : Unit) => True) 4 (fun j x => ([(5, .int .i64 (j + 1 : Nat)), (4, .ptr nx 0), (0, .ro b.length (bvs .u8 b))], (nx, .cells [.ro b.length (bvs .u8 b), .int .i64 5, .int .u64 ((cdN b j).toNat : Int), .int .u64 4294967295, .bool false] 178) :: m, nx + 1)) () trivial (((gx 0).rdm R).leN (Nat.le_succ _) ⟨rfl, rfl, rfl, trivial⟩) ?_
    rintro j ⟨⟩ ⟨hj, _⟩
    rcases Nat.lt_or_ge j 4 with h4 | h4
    · have g1 : decide (((j + 1 : Nat) : Int) < 5) = true := decide_eq_true (by omega)
      have wj : IntKind.i64.wrap (((j + 1 : Nat) : Int) + 1) = ((j + 1 + 1 : Nat) : Int) := by rw [wrap_i64] <;> omega
      have fd : decide (nx + 1 ≤ nx) = false := decide_eq_false (by omega)
      simp (maxSteps := 1000000) -implicitDefEqProofs only [go_sem, seval, -List.reduceReplicate, g1, wj]
      refine ⟨Fx.mixed, .inr (.inl ⟨[(0, false), (1, false), (2, false), (3, false), (4, false), (5, false), (6, false), (7, false), (8, false), (9, false), (10, false), (11, false), (12, false), (13, false), (14, true)], [nx], [14], [4], by kernel_rfl, by kernel_rfl, (fun n hn => by cases List.mem_singleton.1 hn; exact ⟨wx, by rw [look_cons, if_pos rfl]; rfl⟩), ?_⟩)⟩
      simp (maxSteps := 1000000) -implicitDefEqProofs only [go_sem, seval, -List.reduceReplicate, wj, wx, fd]
      exact ⟨by omega, by omega, by rw [List.length_drop]; omega, UpX_normal h4 () trivial (((gx (j + 1)).rdm R).leN (Nat.le_succ _) ⟨rfl, rfl, rfl, trivial⟩)⟩
    · have hj' : j = 4 := by
        have : j ≤ 4 := hj
        omega
      subst hj'
      simp (maxSteps := 1000000) -implicitDefEqProofs only [go_sem, seval, -List.reduceReplicate]
      have e3 : ((cdN b 4).toNat : Int) = ((code0 b).toNat : Int) := by rw [cdN_code]
      have g4 := gx 4
      rw [e3] at g4 ⊢
      exact Fin.keepW (m0 := _) g4.le (memSame_slf g4.nd) g4.nd (g4.rdm R).kp (by rw [QNewK, hE, if_pos rfl]; exact ⟨rfl, g4, look_c0 _ _ _⟩)
  · have hE : newE b = 6 := by rw [newE, if_neg (by omega), if_pos hz]
    have e2 : (b.getD 0 0#8 != 0#8) = true := by rw [bne_iff_ne]; exact hz
    simp (maxSteps := 1000000) -implicitDefEqProofs only [go_sem, seval, -List.reduceReplicate, Try.results60, Try.ntmps60, e1, e2]
    refine ⟨by omega, h0, h0, ?_⟩
    exact Fin.keepW (m0 := m) (Nat.le_refl _) (memSame_slf R.nd) R.nd R.kp (by rw [QNewK, hE, if_neg (by decide)]; exact ⟨rfl, rfl, rfl⟩)
end
end Go.Proofs.Ytmdeoikpiiambaa
end
section
/- The document's reader of symbols: a bit, trees. BRIEF -/
set_option linter.unusedVariables false
set_option linter.unusedSimpArgs false
set_option maxRecDepth 100000
namespace Go.Proofs.Ytmdeoikpiiambaa
open Go Go.Eng

/-- the document's reader of symbols -/
structure UAt (r d c e rc q qc : Nat) (rs qs : List Value) (b : List (BitVec 8)) (C : MC) (m : Mem) (P : List (BitVec 16)) (t : DS) : Prop where
  rd : Eng.look m r = some (.cells [.ptr d 0, .ptr c 0] 98)
  dq : Eng.look m d = some (qO b t)
  co : DoA c e rc q qc rs qs C P m
  n1 : r ≠ d
  n2 : r ≠ c ∧ r ≠ e ∧ r ≠ q
  n3 : d ≠ c ∧ d ≠ e ∧ d ≠ q
  b1 : 5 ≤ b.length
  b2 : b.length ≤ 1000000
  ok : okS (b.drop 5) t
def UA (r d c : Nat) (b : List (BitVec 8)) (C : MC) (m : Mem) (x : List (BitVec 16) × DS) (ns : List Nat) : Prop := ∃ e rc q qc rs qs, ns = [r, d, c, e, q] ∧ UAt r d c e rc q qc rs qs b C m x.1 x.2
theorem UA.ext {r d c : Nat} {b : List (BitVec 8)} {C : MC} {m m' : Mem} {x : List (BitVec 16) × DS} {ns : List Nat} (H : UA r d c b C m x ns) (h : ∀ k ∈ ns, ∀ o, Eng.look m k = some o → Eng.look m' k = some o) : UA r d c b C m' x ns := by
  obtain ⟨e, rc, q, qc, rs, qs, rfl, U⟩ := H
  exact ⟨e, rc, q, qc, rs, qs, rfl, h r (by simp) _ U.rd, h d (by simp) _ U.dq, U.co.ext fun k hk o ho => h k (by rcases hk with rfl | rfl | rfl <;> simp) o ho, U.n1, U.n2, U.n3, U.b1, U.b2, U.ok⟩
theorem UA.live {r d c : Nat} {b : List (BitVec 8)} {C : MC} {m : Mem} {x : List (BitVec 16) × DS} {ns : List Nat} (H : UA r d c b C m x ns) : ∀ k ∈ ns, ∃ o, Eng.look m k = some o := by
  obtain ⟨e, rc, q, qc, rs, qs, rfl, U⟩ := H
  intro k hk
  simp at hk
  rcases hk with rfl | rfl | rfl | rfl | rfl
  · exact ⟨_, U.rd⟩
  · exact ⟨_, U.dq⟩
  · exact ⟨_, U.co.co⟩
  · exact ⟨_, U.co.re⟩
  · exact ⟨_, U.co.ch⟩
theorem UA.lt {r d c : Nat} {b : List (BitVec 8)} {C : MC} {m : Mem} {nx : Nat} {x : List (BitVec 16) × DS} {ns : List Nat} (H : UA r d c b C m x ns) (lt : ∀ p ∈ m, p.1 < nx) : ∀ k ∈ ns, k < nx := fun k hk => by
  obtain ⟨o, ho⟩ := H.live k hk
  exact look_ltm lt ho
/-- what lies at the coder -/
theorem UA.cor {r d c : Nat} {b : List (BitVec 8)} {C : MC} {m : Mem} {x : List (BitVec 16) × DS} {ns : List Nat} (H : UA r d c b C m x ns) : Eng.look m r = some (.cells [.ptr d 0, .ptr c 0] 98) ∧ ∃ R Q, Eng.look m c = some (.cells [.int .i64 (C.lc : Nat), .int .i64 (C.lp : Nat), .int .i64 (C.pb : Nat), .int .i64 (C.st : Nat), R, Q] 80) := by
  obtain ⟨e, rc, q, qc, rs, qs, rfl, U⟩ := H
  exact ⟨U.rd, _, _, U.co.co⟩
section
variable {wr : Nat → Bool} {m : Mem} {nx r d c : Nat} {b : List (BitVec 8)} {C : MC} {P : List (BitVec 16)} {t : DS} {ns : List Nat}
set_option maxHeartbeats 2000000 in
theorem ubit (D : Rdm wr m nx) (lt : ∀ p ∈ m, p.1 < nx) (H : UA r d c b C m (P, t) ns) (hw : ∀ k ∈ ns, wr k = true) (j : Nat) (hj : j < szP C) (hz : szP C ≤ 1000000000) (w : Bool) :
    CallG false Try.prog 160 [.ptr r 0, .int .i64 (j : Nat)] wr m nx (OwK (UA r d c b C) (.int .i64 (bitI ((decM (b.drop 5)).bit t (P.getD j 0) w).1)) (nxP P j ((decM (b.drop 5)).bit t (P.getD j 0) w).1, ((decM (b.drop 5)).bit t (P.getD j 0) w).2) ns m nx) := by
  refine fn_okG Try.func160 rfl (by show 2 ≤ _; decide) ?_
  have lts := H.lt lt
  obtain ⟨e, rc, q, qc, rs, qs, rfl, U⟩ := H
  have U : UAt r d c e rc q qc rs qs b C m P t := U
  have co := U.co.co
  have ch := U.co.ch
  have rd := U.rd
  have hjl : j < P.length := by rw [U.co.len]; exact hj
  have rl := lts r (by simp)
  have dl := lts d (by simp)
  have cl := lts c (by simp)
  have ql := lts q (by simp)
  have wd : wr d = true := hw d (by simp)
  have wq : wr q = true := hw q (by simp)
  have a1 : decide (nx ≤ r) = false := decide_eq_false (by omega)
  have a2 : decide (nx ≤ c) = false := decide_eq_false (by omega)
  have a3 : decide (nx ≤ q) = false := decide_eq_false (by omega)
  have c1 : (r == d) = false := by rw [beq_eq_false_iff_ne]; exact U.n1
  have c2 : (c == d) = false := by rw [beq_eq_false_iff_ne]; exact fun e => U.n3.1 e.symm
  have c3 : (q == d) = false := by rw [beq_eq_false_iff_ne]; exact fun e => U.n3.2.2 e.symm
  have gd := bvsS_getD .u16 P (qs.map AV.val) j hjl
  have hbit := qbitOk (D.drawn [d]) lt U.dq (wrMem (.head _)) U.b1 U.b2 U.ok (P.getD j 0#16)
  simp (maxSteps := 1000000) -implicitDefEqProofs only [go_sem, seval, -List.reduceReplicate, Try.results160, Try.ntmps160]
  refine ⟨Fx.mixed, .inl ⟨[(0, false), (1, false), (2, false), (3, false), (4, false), (5, false), (6, false), (7, false), (8, false), (9, false), (10, false), (11, false), (12, false), (13, false), (14, true), (15, false), (16, false), (17, false), (18, false), (19, false)], [d], by kernel_rfl, (fun k hk => by cases List.mem_singleton.1 hk; exact ⟨wd, by rw [U.dq]; rfl⟩), ?_⟩⟩
  simp (maxSteps := 1000000) -implicitDefEqProofs only [go_sem, seval, -List.reduceReplicate, rd, co, ch, a1, a2, a3, c1, c2, c3, gd]
  refine ⟨by omega, by omega, ?_⟩
  refine CallG.weak hbit ?_
  rintro v m2 nx2 ⟨rfl, hm2, hn2⟩
  have kp2 : ∀ k o, d ≠ k → Eng.look m k = some o → Eng.look m2 k = some o := fun k o h ho => by rw [hm2, look_upd_other _ h]; exact ho
  have rd2 := kp2 r _ (fun e => U.n1 e.symm) rd
  have co2 := kp2 c _ U.n3.1 co
  have ch2 := kp2 q _ U.n3.2.2 ch
  have dq2 : Eng.look m2 d = some (qO b (bitS (b.drop 5) t (fairV (P.getD j 0#16))).2) := by rw [hm2]; exact look_upd_same _ U.dq
  have okB : okS (b.drop 5) (bitS (b.drop 5) t (fairV (P.getD j 0#16))).2 := (decBud (b.drop 5)).bit t (P.getD j 0#16) w 0 U.ok
  have F2 : Fr [r, d, c, e, q] m nx m2 nx := by rw [hm2]; exact Fr.upd D lt (by simp) _
  have D2 := F2.rdm D hw
  have bst := bvsS_set .u16 P (qs.map AV.val) j hjl (nxB (fairV (P.getD j 0)) (bitS (b.drop 5) t (fairV (P.getD j 0))).1)
  simp (maxSteps := 1000000) -implicitDefEqProofs only [go_sem, seval, -List.reduceReplicate, rd2, co2, ch2, a1, a2, a3, wq]
  refine ⟨by omega, by omega, ?_⟩
  have hd2 : DoA c e rc q qc rs qs C P m2 := U.co.ext fun k hk o ho => kp2 k o (by rcases hk with rfl | rfl | rfl; exact U.n3.1; exact U.n3.2.1; exact U.n3.2.2) ho
  have hd3 := hd2.set hjl (nxB (fairV (P.getD j 0)) (bitS (b.drop 5) t (fairV (P.getD j 0))).1)
  have F3 := F2.trans (Fr.upd (ns := [q]) D2 F2.lt (.head _) (.cells ((bvs .u16 P ++ qs.map AV.val).set j (.int .u16 ((nxB (fairV (P.getD j 0)) (bitS (b.drop 5) t (fairV (P.getD j 0))).1).toNat : Int))) 136)) lt (fun k hk => by rw [List.mem_singleton.1 hk]; exact .inl (by simp))
  subst hn2
  refine Fr.fin (At := UA r d c b C) (s' := (nxP P j ((decM (b.drop 5)).bit t (P.getD j 0) w).1, ((decM (b.drop 5)).bit t (P.getD j 0) w).2)) F3 D hw ⟨e, rc, q, qc, rs, qs, rfl, ⟨?_, ?_, hd3, U.n1, U.n2, U.n3, U.b1, U.b2, okB⟩⟩ (fun k hk => .inl hk)
  · rw [look_upd_other _ (fun e => U.n2.2.2 e.symm)]; exact rd2
  · rw [look_upd_other _ (fun e => U.n3.2.2 e.symm)]; exact dq2
/-- a call that reads by a program -/
def UR {α : Type} (V : α → AV) (r d c : Nat) (b : List (BitVec 8)) (C : MC) (x : α × List (BitVec 16) × DS) (ns : List Nat) (m : Mem) (nx : Nat) : Kv := OwK (UA r d c b C) (V x.1) x.2 ns m nx
set_option maxHeartbeats 2000000 in
theorem utree (D : Rdm wr m nx) (lt : ∀ p ∈ m, p.1 < nx) (H : UA r d c b C m (P, t) ns) (hw : ∀ k ∈ ns, wr k = true) (base k : Nat) (v : Int) (hk : k ≤ 8) (hj : base + 2 ^ k ≤ szP C) (hz : szP C ≤ 1000000000) :
    CallG false Try.prog 191 [.ptr r 0, .int .i64 (base : Nat), .int .i64 (k : Nat)] wr m nx (UR (fun a => .int .i64 ((a - 2 ^ k : Nat) : Int)) r d c b C (run (decM (b.drop 5)) (treeP base v k 1) P t) ns m nx) := by
  refine fn_okG Try.func191 rfl (by show 3 ≤ _; decide) ?_
  simp (maxSteps := 1000000) -implicitDefEqProofs only [go_sem, seval, -List.reduceReplicate, Try.results191, Try.ntmps191]
  refine LoopOk.upX (fun i (x : Nat × (List (BitVec 16) × DS) × List Nat × Mem × Nat) => run (decM (b.drop 5)) (treeP base v (k - i) x.1) x.2.1.1 x.2.1.2 = run (decM (b.drop 5)) (treeP base v k 1) P t ∧ 2 ^ i ≤ x.1 ∧ x.1 < 2 ^ (i + 1) ∧ UA r d c b C x.2.2.2.1 x.2.1 x.2.2.1 ∧ Fr ns m nx x.2.2.2.1 x.2.2.2.2 ∧ ∀ j ∈ x.2.2.1, j ∈ ns ∨ nx ≤ j) k
    (fun i x => ([(8, .int .i64 (i : Nat)), (7, .int .i64 (x.1 : Nat)), (0, .ptr r 0), (1, .int .i64 (base : Nat)), (2, .int .i64 (k : Nat))], x.2.2.2.1, x.2.2.2.2)) (1, (P, t), ns, m, nx) ⟨rfl, Nat.le_refl 1, (by show 1 < 2; decide), H, .refl D.nd lt, fun j hj => .inl hj⟩ (D.leN (Nat.le_refl _) ⟨rfl, rfl, rfl, rfl, rfl, trivial⟩) ?_
  rintro i ⟨mm, ⟨P1, s1⟩, ns1, m1, nx1⟩ ⟨hi, a1, a2, a3, a5, a6, a7⟩
  have a1 : run (decM (b.drop 5)) (treeP base v (k - i) mm) P1 s1 = run (decM (b.drop 5)) (treeP base v k 1) P t := a1
  have a2 : 2 ^ i ≤ mm := a2
  have a3 : mm < 2 ^ (i + 1) := a3
  have a5 : UA r d c b C m1 (P1, s1) ns1 := a5
  have a6 : Fr ns m nx m1 nx1 := a6
  have a7 : ∀ j ∈ ns1, j ∈ ns ∨ nx ≤ j := a7
  have hi : i ≤ k := hi
  have D3 := a6.rdm D hw
  have hw3 := wrT D hw a7
  have pw : 2 ^ (i + 1) ≤ 2 ^ 9 := Nat.pow_le_pow_right (by decide) (by omega)
  rcases Nat.lt_or_ge i k with h' | h'
  · have g2 : decide ((i : Int) < (k : Int)) = true := decide_eq_true (by omega)
    have wi : IntKind.i64.wrap ((i : Int) + 1) = ((i + 1 : Nat) : Int) := by rw [wrap_i64] <;> omega
    have pk : 2 ^ (i + 1) ≤ 2 ^ k := Nat.pow_le_pow_right (by decide) (by omega)
    have hm : mm < 2 ^ k := by omega
    have hjm : base + mm < szP C := by omega
    have x1 : IntKind.i64.wrap ((base : Int) + (mm : Int)) = ((base + mm : Nat) : Int) := by rw [wrap_i64] <;> omega
    have x3 : IntKind.i64.wrap (2 * (mm : Int)) = ((2 * mm : Nat) : Int) := by rw [wrap_i64] <;> omega
    have hN := ubit D3 a6.lt a5 hw3 (base + mm) hjm hz (wb v (k - i - 1))
    rw [show k - i = (k - i - 1) + 1 by omega] at a1
    have a1' : run (decM (b.drop 5)) (treeP base v (k - i - 1) (2 * mm + ((decM (b.drop 5)).bit s1 (P1.getD (base + mm) 0) (wb v (k - i - 1))).1.toNat)) (nxP P1 (base + mm) ((decM (b.drop 5)).bit s1 (P1.getD (base + mm) 0) (wb v (k - i - 1))).1) ((decM (b.drop 5)).bit s1 (P1.getD (base + mm) 0) (wb v (k - i - 1))).2 = run (decM (b.drop 5)) (treeP base v k 1) P t := a1
    simp (maxSteps := 1000000) -implicitDefEqProofs only [go_sem, seval, -List.reduceReplicate, g2, x1, x3]
    refine CallG.weak hN ?_
    generalize (decM (b.drop 5)).bit s1 (P1.getD (base + mm) 0) (wb v (k - i - 1)) = z at *
    obtain ⟨w, s2⟩ := z
    rintro v4 m4 nx4 ⟨rfl, fr4, ns4, S4, hn4⟩
    have hb2 := bool_lt w
    have x4 : IntKind.i64.wrap (((2 * mm : Nat) : Int) + bitI w) = ((2 * mm + w.toNat : Nat) : Int) := by
      cases w <;> (show IntKind.i64.wrap (_ + _) = _; unfold bitI; rw [wrap_i64] <;> simp <;> omega)
    simp (maxSteps := 1000000) -implicitDefEqProofs only [go_sem, seval, -List.reduceReplicate, x4, wi]
    have F4 : Fr ns m nx m4 nx4 := a6.trans fr4 lt a7
    exact UpX_normal h' (2 * mm + w.toNat, (nxP P1 (base + mm) w, s2), ns4, m4, nx4) ⟨by show run _ (treeP base v (k - (i + 1)) _) _ _ = _; rw [show k - (i + 1) = k - i - 1 by omega]; exact a1', by show 2 ^ (i + 1) ≤ 2 * mm + w.toNat; rw [Nat.pow_succ]; omega, by show 2 * mm + w.toNat < 2 ^ (i + 1 + 1); rw [Nat.pow_succ] at a3 ⊢; omega, S4, F4, subT a7 hn4 a6.le⟩ ((fr4.rdm D3 hw3).leN F4.le ⟨rfl, rfl, rfl, rfl, rfl, trivial⟩)
  · have hik : i = k := by omega
    have g2 : decide ((i : Int) < (k : Int)) = false := decide_eq_false (by omega)
    rw [hik, Nat.sub_self] at a1
    rw [hik] at a2 a3
    have wf : IntKind.i64.wrap ((mm : Int) - ((2 ^ k : Nat) : Int)) = ((mm - 2 ^ k : Nat) : Int) := by
      rw [Nat.pow_succ] at a3
      have : 2 ^ k ≤ 2 ^ 8 := Nat.pow_le_pow_right (by decide) hk
      rw [wrap_i64] <;> omega
    simp (maxSteps := 1000000) -implicitDefEqProofs only [go_sem, seval, -List.reduceReplicate, g2]
    refine CallG.pk (ktwo D3 k (by omega)) ?_
    simp (maxSteps := 1000000) -implicitDefEqProofs only [go_sem, seval, -List.reduceReplicate, wf]
    rw [← a1]
    exact Fr.fin (At := UA r d c b C) (s' := (P1, s1)) a6 D hw a5 a7
set_option maxHeartbeats 2000000 in
theorem uturned (D : Rdm wr m nx) (lt : ∀ p ∈ m, p.1 < nx) (H : UA r d c b C m (P, t) ns) (hw : ∀ k ∈ ns, wr k = true) (base k : Nat) (v : Int) (hk : k ≤ 8) (hj : base + 2 ^ k ≤ szP C) (hz : szP C ≤ 1000000000) :
    CallG false Try.prog 192 [.ptr r 0, .int .i64 (base : Nat), .int .i64 (k : Nat)] wr m nx (UR (fun a => .int .i64 ((a : Nat) : Int)) r d c b C (run (decM (b.drop 5)) (turnP base v k 0 1 0) P t) ns m nx) := by
  refine fn_okG Try.func192 rfl (by show 3 ≤ _; decide) ?_
  simp (maxSteps := 1000000) -implicitDefEqProofs only [go_sem, seval, -List.reduceReplicate, Try.results192, Try.ntmps192]
  refine LoopOk.upX (fun i (x : (Nat × Nat) × (List (BitVec 16) × DS) × List Nat × Mem × Nat) => run (decM (b.drop 5)) (turnP base v (k - i) i x.1.1 x.1.2) x.2.1.1 x.2.1.2 = run (decM (b.drop 5)) (turnP base v k 0 1 0) P t ∧ 2 ^ i ≤ x.1.1 ∧ x.1.1 < 2 ^ (i + 1) ∧ x.1.2 < 2 ^ i ∧ UA r d c b C x.2.2.2.1 x.2.1 x.2.2.1 ∧ Fr ns m nx x.2.2.2.1 x.2.2.2.2 ∧ ∀ j ∈ x.2.2.1, j ∈ ns ∨ nx ≤ j) k
    (fun i x => ([(9, .int .i64 (i : Nat)), (8, .int .i64 (x.1.2 : Nat)), (7, .int .i64 (x.1.1 : Nat)), (0, .ptr r 0), (1, .int .i64 (base : Nat)), (2, .int .i64 (k : Nat))], x.2.2.2.1, x.2.2.2.2)) ((1, 0), (P, t), ns, m, nx) ⟨rfl, Nat.le_refl 1, (by show 1 < 2; decide), (by show 0 < 1; decide), H, .refl D.nd lt, fun j hj => .inl hj⟩ (D.leN (Nat.le_refl _) ⟨rfl, rfl, rfl, rfl, rfl, rfl, trivial⟩) ?_
  rintro i ⟨⟨mm, oo⟩, ⟨P1, s1⟩, ns1, m1, nx1⟩ ⟨hi, a1, a2, a3, a4, a5, a6, a7⟩
  have a1 : run (decM (b.drop 5)) (turnP base v (k - i) i mm oo) P1 s1 = run (decM (b.drop 5)) (turnP base v k 0 1 0) P t := a1
  have a2 : 2 ^ i ≤ mm := a2
  have a3 : mm < 2 ^ (i + 1) := a3
  have a4 : oo < 2 ^ i := a4
  have a5 : UA r d c b C m1 (P1, s1) ns1 := a5
  have a6 : Fr ns m nx m1 nx1 := a6
  have a7 : ∀ j ∈ ns1, j ∈ ns ∨ nx ≤ j := a7
  have hi : i ≤ k := hi
  have D3 := a6.rdm D hw
  have hw3 := wrT D hw a7
  have pw : 2 ^ (i + 1) ≤ 2 ^ 9 := Nat.pow_le_pow_right (by decide) (by omega)
  rcases Nat.lt_or_ge i k with h' | h'
  · have g2 : decide ((i : Int) < (k : Int)) = true := decide_eq_true (by omega)
    have wi : IntKind.i64.wrap ((i : Int) + 1) = ((i + 1 : Nat) : Int) := by rw [wrap_i64] <;> omega
    have pk : 2 ^ (i + 1) ≤ 2 ^ k := Nat.pow_le_pow_right (by decide) (by omega)
    have hm : mm < 2 ^ k := by omega
    have hjm : base + mm < szP C := by omega
    have x1 : IntKind.i64.wrap ((base : Int) + (mm : Int)) = ((base + mm : Nat) : Int) := by rw [wrap_i64] <;> omega
    have x3 : IntKind.i64.wrap (2 * (mm : Int)) = ((2 * mm : Nat) : Int) := by rw [wrap_i64] <;> omega
    have hN := ubit D3 a6.lt a5 hw3 (base + mm) hjm hz (wb v i)
    rw [show k - i = (k - i - 1) + 1 by omega] at a1
    have a1' : run (decM (b.drop 5)) (turnP base v (k - i - 1) (i + 1) (2 * mm + ((decM (b.drop 5)).bit s1 (P1.getD (base + mm) 0) (wb v i)).1.toNat) (oo + ((decM (b.drop 5)).bit s1 (P1.getD (base + mm) 0) (wb v i)).1.toNat * 2 ^ i)) (nxP P1 (base + mm) ((decM (b.drop 5)).bit s1 (P1.getD (base + mm) 0) (wb v i)).1) ((decM (b.drop 5)).bit s1 (P1.getD (base + mm) 0) (wb v i)).2 = run (decM (b.drop 5)) (turnP base v k 0 1 0) P t := a1
    simp (maxSteps := 1000000) -implicitDefEqProofs only [go_sem, seval, -List.reduceReplicate, g2, x1]
    refine CallG.weak hN ?_
    generalize (decM (b.drop 5)).bit s1 (P1.getD (base + mm) 0) (wb v i) = z at *
    obtain ⟨w, s2⟩ := z
    rintro v4 m4 nx4 ⟨rfl, fr4, ns4, S4, hn4⟩
    have D4 := fr4.rdm D3 hw3
    have hb2 := bool_lt w
    have x4 : IntKind.i64.wrap (((2 * mm : Nat) : Int) + bitI w) = ((2 * mm + w.toNat : Nat) : Int) := by
      cases w <;> (show IntKind.i64.wrap (_ + _) = _; unfold bitI; rw [wrap_i64] <;> simp <;> omega)
    have wt : w.toNat * 2 ^ i ≤ 1 * 2 ^ i := Nat.mul_le_mul_right _ (by omega)
    have pi2 : 2 ^ (i + 1) = 2 ^ i * 2 := Nat.pow_succ ..
    have x5 : IntKind.i64.wrap (bitI w * ((2 ^ i : Nat) : Int)) = ((w.toNat * 2 ^ i : Nat) : Int) := by
      have hu : 2 ^ i ≤ 256 := by omega
      generalize 2 ^ i = u at hu ⊢
      cases w
      · show IntKind.i64.wrap (0 * (u : Int)) = ((0 * u : Nat) : Int)
        rw [Int.zero_mul, Nat.zero_mul, wrap_i64] <;> omega
      · show IntKind.i64.wrap (1 * (u : Int)) = ((1 * u : Nat) : Int)
        rw [Int.one_mul, Nat.one_mul, wrap_i64] <;> omega
    have x6 : IntKind.i64.wrap ((oo : Int) + ((w.toNat * 2 ^ i : Nat) : Int)) = ((oo + w.toNat * 2 ^ i : Nat) : Int) := by rw [wrap_i64] <;> omega
    simp (maxSteps := 1000000) -implicitDefEqProofs only [go_sem, seval, -List.reduceReplicate, x3, x4]
    refine CallG.pk (ktwo D4 i (by omega)) ?_
    simp (maxSteps := 1000000) -implicitDefEqProofs only [go_sem, seval, -List.reduceReplicate, x5, x6, wi]
    have F4 : Fr ns m nx m4 nx4 := a6.trans fr4 lt a7
    exact UpX_normal h' ((2 * mm + w.toNat, oo + w.toNat * 2 ^ i), (nxP P1 (base + mm) w, s2), ns4, m4, nx4) ⟨by show run _ (turnP base v (k - (i + 1)) _ _ _) _ _ = _; rw [show k - (i + 1) = k - i - 1 by omega]; exact a1', by show 2 ^ (i + 1) ≤ 2 * mm + w.toNat; omega, by show 2 * mm + w.toNat < 2 ^ (i + 1 + 1); rw [Nat.pow_succ]; omega, by show oo + w.toNat * 2 ^ i < 2 ^ (i + 1); omega, S4, F4, subT a7 hn4 a6.le⟩ (D4.leN F4.le ⟨rfl, rfl, rfl, rfl, rfl, rfl, trivial⟩)
  · have hik : i = k := by omega
    have g2 : decide ((i : Int) < (k : Int)) = false := decide_eq_false (by omega)
    rw [hik, Nat.sub_self] at a1
    simp (maxSteps := 1000000) -implicitDefEqProofs only [go_sem, seval, -List.reduceReplicate, g2]
    rw [← a1]
    exact Fr.fin (At := UA r d c b C) (s' := (P1, s1)) a6 D hw a5 a7
end
end Go.Proofs.Ytmdeoikpiiambaa
end
section
/- The document's reader of symbols: lengths, distances, repeats. BRIEF -/
set_option linter.unusedVariables false
set_option linter.unusedSimpArgs false
set_option maxRecDepth 100000
namespace Go.Proofs.Ytmdeoikpiiambaa
open Go Go.Eng

theorem run_map {α σ : Type} (M : Mach σ) (p : Pg Nat) (g : Nat → α) (P : List (BitVec 16)) (s : σ) : run M (p.bind fun m => .ret (g m)) P s = (g (run M p P s).1, (run M p P s).2) := by
  rw [run_bind]; rfl
theorem UA.setd {r d c : Nat} {b : List (BitVec 8)} {C : MC} {m : Mem} {P : List (BitVec 16)} {t : DS} {ns : List Nat} (H : UA r d c b C m (P, t) ns) (t' : DS) (ho : okS (b.drop 5) t') : UA r d c b C (Eng.upd m d (qO b t')) (P, t') ns := by
  obtain ⟨e, rc, q, qc, rs, qs, rfl, U⟩ := H
  have kp : ∀ k o, d ≠ k → Eng.look m k = some o → Eng.look (Eng.upd m d (qO b t')) k = some o := fun k o h ho => by rw [look_upd_other _ h]; exact ho
  exact ⟨e, rc, q, qc, rs, qs, rfl, kp r _ (fun e => U.n1 e.symm) U.rd, look_upd_same _ U.dq, U.co.ext fun k hk o ho => kp k o (by rcases hk with rfl | rfl | rfl; exact U.n3.1; exact U.n3.2.1; exact U.n3.2.2) ho, U.n1, U.n2, U.n3, U.b1, U.b2, ho⟩
section
variable {wr : Nat → Bool} {m : Mem} {nx r d c : Nat} {b : List (BitVec 8)} {C : MC} {P : List (BitVec 16)} {t : DS} {ns : List Nat}
set_option maxHeartbeats 2000000 in
theorem ulength (D : Rdm wr m nx) (lt : ∀ p ∈ m, p.1 < nx) (H : UA r d c b C m (P, t) ns) (hw : ∀ k ∈ ns, wr k = true) (base place : Nat) (w : Int) (hbs : base + 514 ≤ szP C) (hpl : place < 16) (hz : szP C ≤ 1000000000) :
    CallG false Try.prog 162 [.ptr r 0, .int .i64 (base : Nat), .int .i64 (place : Nat)] wr m nx (UR (fun a => .int .i64 ((a : Nat) : Int)) r d c b C (run (decM (b.drop 5)) (lenP base place w) P t) ns m nx) := by
  refine fn_okG Try.func162 rfl (by show 3 ≤ _; decide) ?_
  have w2 : IntKind.i64.wrap ((base : Int) + 2) = ((base + 2 : Nat) : Int) := by rw [wrap_i64] <;> omega
  have w3 : IntKind.i64.wrap (8 * (place : Int)) = ((8 * place : Nat) : Int) := by rw [wrap_i64] <;> omega
  have w4 : IntKind.i64.wrap (((base + 2 : Nat) : Int) + ((8 * place : Nat) : Int)) = ((base + 2 + 8 * place : Nat) : Int) := by rw [wrap_i64] <;> omega
  have w5 : IntKind.i64.wrap ((base : Int) + 1) = ((base + 1 : Nat) : Int) := by rw [wrap_i64] <;> omega
  have w6 : IntKind.i64.wrap ((base : Int) + 130) = ((base + 130 : Nat) : Int) := by rw [wrap_i64] <;> omega
  have w7 : IntKind.i64.wrap (((base + 130 : Nat) : Int) + ((8 * place : Nat) : Int)) = ((base + 130 + 8 * place : Nat) : Int) := by rw [wrap_i64] <;> omega
  have w8 : IntKind.i64.wrap ((base : Int) + 258) = ((base + 258 : Nat) : Int) := by rw [wrap_i64] <;> omega
  have hN := ubit D lt H hw base (by omega) hz (decide (w - 2 ≥ 8))
  have hrun : run (decM (b.drop 5)) (lenP base place w) P t = run (decM (b.drop 5)) (if ((decM (b.drop 5)).bit t (P.getD base 0) (decide (w - 2 ≥ 8))).1 then .bit (base + 1) (decide (w - 2 ≥ 16)) fun b2 => if b2 then (treeP (base + 258) (w - 2 - 16) 8 1).bind fun m => .ret (18 + (m - 256))
      else (treeP (base + 130 + 8 * place) (w - 2 - 8) 3 1).bind fun m => .ret (10 + (m - 8))
    else (treeP (base + 2 + 8 * place) (w - 2) 3 1).bind fun m => .ret (2 + (m - 8))) (nxP P base ((decM (b.drop 5)).bit t (P.getD base 0) (decide (w - 2 ≥ 8))).1) ((decM (b.drop 5)).bit t (P.getD base 0) (decide (w - 2 ≥ 8))).2 := rfl
  rw [hrun]
  generalize (decM (b.drop 5)).bit t (P.getD base 0) (decide (w - 2 ≥ 8)) = z at *
  obtain ⟨w0, t1⟩ := z
  simp (maxSteps := 1000000) -implicitDefEqProofs only [go_sem, seval, -List.reduceReplicate, Try.results162, Try.ntmps162]
  refine CallG.weak hN ?_
  rintro v1 m1 nx1 ⟨rfl, fr1, ns1, k1, hn1⟩
  have D1 := fr1.rdm D hw
  have hw1 := wrT D hw hn1
  cases w0 with
  | false =>
    have z0 : (bitI false == 0) = true := rfl
    simp (maxSteps := 1000000) -implicitDefEqProofs only [go_sem, seval, -List.reduceReplicate, z0, w2, w3, w4]
    refine CallG.weak (utree D1 fr1.lt k1 hw1 (base + 2 + 8 * place) 3 (w - 2) (by decide) (by omega) hz) ?_
    have hb := All.run (decM (b.drop 5)) (nxP P base false) t1 (treeP_all (base + 2 + 8 * place) (w - 2) 3 1)
    rw [run_map]
    dsimp only at hb ⊢
    generalize run (decM (b.drop 5)) (treeP (base + 2 + 8 * place) (w - 2) 3 1) (nxP P base false) t1 = y at *
    obtain ⟨a, P2, t2⟩ := y
    rintro v2 m2 nx2 ⟨rfl, fr2, ns2, k2, hn2⟩
    obtain ⟨hb1, hb2⟩ := hb
    have ww : IntKind.i64.wrap (2 + ((a - 2 ^ 3 : Nat) : Int)) = ((2 + (a - 8) : Nat) : Int) := by
      have hb2 : a < (1 + 1) * 8 := hb2
      show IntKind.i64.wrap (2 + ((a - 8 : Nat) : Int)) = _
      rw [wrap_i64] <;> omega
    dsimp only
    simp (maxSteps := 1000000) -implicitDefEqProofs only [go_sem, seval, -List.reduceReplicate, ww]
    exact Fr.fin (At := UA r d c b C) (s' := (P2, t2)) (fr1.trans fr2 lt hn1) D hw k2 (subT hn1 hn2 fr1.le)
  | true =>
    have z0 : (bitI true == 0) = false := rfl
    have hN2 := ubit D1 fr1.lt k1 hw1 (base + 1) (by omega) hz (decide (w - 2 ≥ 16))
    rw [if_pos rfl]
    have hrun2 : run (decM (b.drop 5)) (.bit (base + 1) (decide (w - 2 ≥ 16)) fun b2 => if b2 then (treeP (base + 258) (w - 2 - 16) 8 1).bind fun m => .ret (18 + (m - 256))
      else (treeP (base + 130 + 8 * place) (w - 2 - 8) 3 1).bind fun m => .ret (10 + (m - 8))) (nxP P base true) t1 = run (decM (b.drop 5)) (if ((decM (b.drop 5)).bit t1 ((nxP P base true).getD (base + 1) 0) (decide (w - 2 ≥ 16))).1 then (treeP (base + 258) (w - 2 - 16) 8 1).bind fun m => .ret (18 + (m - 256))
      else (treeP (base + 130 + 8 * place) (w - 2 - 8) 3 1).bind fun m => .ret (10 + (m - 8))) (nxP (nxP P base true) (base + 1) ((decM (b.drop 5)).bit t1 ((nxP P base true).getD (base + 1) 0) (decide (w - 2 ≥ 16))).1) ((decM (b.drop 5)).bit t1 ((nxP P base true).getD (base + 1) 0) (decide (w - 2 ≥ 16))).2 := rfl
    dsimp only at hN2 ⊢
    rw [hrun2]
    generalize (decM (b.drop 5)).bit t1 ((nxP P base true).getD (base + 1) 0) (decide (w - 2 ≥ 16)) = z at *
    obtain ⟨w1, t2⟩ := z
    simp (maxSteps := 1000000) -implicitDefEqProofs only [go_sem, seval, -List.reduceReplicate, z0, w5]
    refine CallG.weak hN2 ?_
    rintro v2 m2 nx2 ⟨rfl, fr2, ns2, k2, hn2⟩
    have D2 := fr2.rdm D1 hw1
    have hw2 := wrT D1 hw1 hn2
    have F2 := fr1.trans fr2 lt hn1
    have s2 := subT hn1 hn2 fr1.le
    dsimp only at k2 ⊢
    generalize nxP (nxP P base true) (base + 1) w1 = P2 at *
    cases w1 with
    | false =>
      have z1 : (bitI false == 0) = true := rfl
      simp (maxSteps := 1000000) -implicitDefEqProofs only [go_sem, seval, -List.reduceReplicate, z1, w3, w6, w7]
      refine CallG.weak (utree D2 fr2.lt k2 hw2 (base + 130 + 8 * place) 3 (w - 2 - 8) (by decide) (by omega) hz) ?_
      have hb := All.run (decM (b.drop 5)) P2 t2 (treeP_all (base + 130 + 8 * place) (w - 2 - 8) 3 1)
      rw [run_map]
      generalize run (decM (b.drop 5)) (treeP (base + 130 + 8 * place) (w - 2 - 8) 3 1) P2 t2 = y at *
      obtain ⟨a, P3, t3⟩ := y
      rintro v3 m3 nx3 ⟨rfl, fr3, ns3, k3, hn3⟩
      obtain ⟨hb1, hb2⟩ := hb
      have ww : IntKind.i64.wrap (10 + ((a - 2 ^ 3 : Nat) : Int)) = ((10 + (a - 8) : Nat) : Int) := by
        have hb2 : a < (1 + 1) * 8 := hb2
        show IntKind.i64.wrap (10 + ((a - 8 : Nat) : Int)) = _
        rw [wrap_i64] <;> omega
      dsimp only
      simp (maxSteps := 1000000) -implicitDefEqProofs only [go_sem, seval, -List.reduceReplicate, ww]
      exact Fr.fin (At := UA r d c b C) (s' := (P3, t3)) (F2.trans fr3 lt s2) D hw k3 (subT s2 hn3 F2.le)
    | true =>
      have z1 : (bitI true == 0) = false := rfl
      simp (maxSteps := 1000000) -implicitDefEqProofs only [go_sem, seval, -List.reduceReplicate, z1, w8]
      refine CallG.weak (utree D2 fr2.lt k2 hw2 (base + 258) 8 (w - 2 - 16) (by decide) (by show base + 258 + 256 ≤ _; omega) hz) ?_
      have hb := All.run (decM (b.drop 5)) P2 t2 (treeP_all (base + 258) (w - 2 - 16) 8 1)
      rw [run_map]
      generalize run (decM (b.drop 5)) (treeP (base + 258) (w - 2 - 16) 8 1) P2 t2 = y at *
      obtain ⟨a, P3, t3⟩ := y
      rintro v3 m3 nx3 ⟨rfl, fr3, ns3, k3, hn3⟩
      obtain ⟨hb1, hb2⟩ := hb
      have ww : IntKind.i64.wrap (18 + ((a - 2 ^ 8 : Nat) : Int)) = ((18 + (a - 256) : Nat) : Int) := by
        have hb2 : a < (1 + 1) * 256 := hb2
        show IntKind.i64.wrap (18 + ((a - 256 : Nat) : Int)) = _
        rw [wrap_i64] <;> omega
      dsimp only
      simp (maxSteps := 1000000) -implicitDefEqProofs only [go_sem, seval, -List.reduceReplicate, ww]
      exact Fr.fin (At := UA r d c b C) (s' := (P3, t3)) (F2.trans fr3 lt s2) D hw k3 (subT s2 hn3 F2.le)
/-- which repeat: the bits alone -/
def repJ (st : Nat) (w : Nat → Bool) : Nat → Pg Nat
  | 0 => .ret 3
  | j + 1 => .bit (204 + 12 * (2 - j) + st) (w j) fun b => if b then repJ st w j else .ret (2 - j)
theorem repP_J (st place : Nat) (rep len : Int) : repP st place rep len = (repJ st (fun j => if j = 2 then decide (rep > 0) else if j = 1 then decide (rep > 1) else decide (rep > 2)) 3).bind fun n => if n = 0 then .bit (240 + 16 * st + place) (decide (len > 1)) fun b => .ret (0, !b) else .ret (n, false) := by
  unfold repP repJ
  show Pg.bit _ _ _ = Pg.bit _ _ _
  congr 1
  funext b1
  cases b1 with
  | false => rfl
  | true =>
    show Pg.bit _ _ _ = Pg.bit _ _ _
    congr 1
    funext b2
    cases b2 with
    | false => rfl
    | true =>
      show Pg.bit _ _ _ = Pg.bit _ _ _
      congr 1
      funext b3
      cases b3 <;> rfl
set_option maxHeartbeats 2000000 in
theorem urepeat (D : Rdm wr m nx) (lt : ∀ p ∈ m, p.1 < nx) (H : UA r d c b C m (P, t) ns) (hw : ∀ k ∈ ns, wr k = true) (w : Nat → Bool) (hst : C.st < 12) (hz : szP C ≤ 1000000000) :
    CallG false Try.prog 164 [.ptr r 0] wr m nx (UR (fun a => .int .i64 ((a : Nat) : Int)) r d c b C (run (decM (b.drop 5)) (repJ C.st w 3) P t) ns m nx) := by
  refine fn_okG Try.func164 rfl (by show 1 ≤ _; decide) ?_
  simp (maxSteps := 1000000) -implicitDefEqProofs only [go_sem, seval, -List.reduceReplicate, Try.results164, Try.ntmps164]
  refine LoopOk.upX (fun i (x : (List (BitVec 16) × DS) × List Nat × Mem × Nat) => run (decM (b.drop 5)) (repJ C.st w (3 - i)) x.1.1 x.1.2 = run (decM (b.drop 5)) (repJ C.st w 3) P t ∧ UA r d c b C x.2.2.1 x.1 x.2.1 ∧ Fr ns m nx x.2.2.1 x.2.2.2 ∧ ∀ j ∈ x.2.1, j ∈ ns ∨ nx ≤ j) 3
    (fun i x => ([(3, .int .i64 (i : Nat)), (0, .ptr r 0)], x.2.2.1, x.2.2.2)) ((P, t), ns, m, nx) ⟨rfl, H, .refl D.nd lt, fun j hj => .inl hj⟩ (D.leN (Nat.le_refl _) ⟨rfl, rfl, trivial⟩) ?_
  rintro i ⟨⟨P1, s1⟩, ns1, m1, nx1⟩ ⟨hi, a1, a5, a6, a7⟩
  have a1 : run (decM (b.drop 5)) (repJ C.st w (3 - i)) P1 s1 = run (decM (b.drop 5)) (repJ C.st w 3) P t := a1
  have a5 : UA r d c b C m1 (P1, s1) ns1 := a5
  have a6 : Fr ns m nx m1 nx1 := a6
  have a7 : ∀ j ∈ ns1, j ∈ ns ∨ nx ≤ j := a7
  have hi : i ≤ 3 := hi
  have D3 := a6.rdm D hw
  have hw3 := wrT D hw a7
  obtain ⟨rd1, R1, Q1, co1⟩ := a5.cor
  have sz := szP_le C
  rcases Nat.lt_or_ge i 3 with h' | h'
  · have g2 : decide ((i : Int) < 3) = true := decide_eq_true (by omega)
    have wi : IntKind.i64.wrap ((i : Int) + 1) = ((i + 1 : Nat) : Int) := by rw [wrap_i64] <;> omega
    rw [show 3 - i = (2 - i) + 1 by omega] at a1
    have hN := ubit D3 a6.lt a5 hw3 (204 + 12 * i + C.st) (by omega) hz (w (2 - i))
    have a1' : run (decM (b.drop 5)) (if ((decM (b.drop 5)).bit s1 (P1.getD (204 + 12 * (2 - (2 - i)) + C.st) 0) (w (2 - i))).1 then repJ C.st w (2 - i) else .ret (2 - (2 - i))) (nxP P1 (204 + 12 * (2 - (2 - i)) + C.st) ((decM (b.drop 5)).bit s1 (P1.getD (204 + 12 * (2 - (2 - i)) + C.st) 0) (w (2 - i))).1) ((decM (b.drop 5)).bit s1 (P1.getD (204 + 12 * (2 - (2 - i)) + C.st) 0) (w (2 - i))).2 = run (decM (b.drop 5)) (repJ C.st w 3) P t := a1
    rw [show 2 - (2 - i) = i by omega] at a1'
    simp (maxSteps := 1000000) -implicitDefEqProofs only [go_sem, seval, -List.reduceReplicate, g2, rd1]
    refine CallG.pk (kwhich D3 co1 hst i (by omega)) ?_
    simp (maxSteps := 1000000) -implicitDefEqProofs only [go_sem, seval, -List.reduceReplicate]
    refine CallG.weak hN ?_
    generalize (decM (b.drop 5)).bit s1 (P1.getD (204 + 12 * i + C.st) 0) (w (2 - i)) = z at *
    obtain ⟨w0, s2⟩ := z
    rintro v4 m4 nx4 ⟨rfl, fr4, ns4, S4, hn4⟩
    have F4 : Fr ns m nx m4 nx4 := a6.trans fr4 lt a7
    dsimp only at a1' S4
    cases w0 with
    | false =>
      have z0 : (bitI false == 1) = false := rfl
      simp (maxSteps := 1000000) -implicitDefEqProofs only [go_sem, seval, -List.reduceReplicate, z0]
      rw [← a1']
      exact Fr.fin (At := UA r d c b C) (s' := (nxP P1 (204 + 12 * i + C.st) false, s2)) F4 D hw S4 (subT a7 hn4 a6.le)
    | true =>
      have z0 : (bitI true == 1) = true := rfl
      simp (maxSteps := 1000000) -implicitDefEqProofs only [go_sem, seval, -List.reduceReplicate, z0, wi]
      exact UpX_normal h' ((nxP P1 (204 + 12 * i + C.st) true, s2), ns4, m4, nx4) ⟨by show run _ (repJ C.st w (3 - (i + 1))) _ _ = _; rw [show 3 - (i + 1) = 2 - i by omega]; exact a1', S4, F4, subT a7 hn4 a6.le⟩ ((fr4.rdm D3 hw3).leN F4.le ⟨rfl, rfl, trivial⟩)
  · have hik : i = 3 := by omega
    have g2 : decide ((i : Int) < 3) = false := decide_eq_false (by omega)
    simp (maxSteps := 1000000) -implicitDefEqProofs only [go_sem, seval, -List.reduceReplicate, g2]
    rw [hik, Nat.sub_self] at a1
    rw [← a1, hik]
    exact Fr.fin (At := UA r d c b C) (s' := (P1, s1)) a6 D hw a5 a7
end
end Go.Proofs.Ytmdeoikpiiambaa
end
section
/- The document's reader of symbols: distances, literals. BRIEF -/
set_option linter.unusedVariables false
set_option linter.unusedSimpArgs false
set_option maxRecDepth 100000
namespace Go.Proofs.Ytmdeoikpiiambaa
open Go Go.Eng

section
variable {wr : Nat → Bool} {m : Mem} {nx r d c : Nat} {b : List (BitVec 8)} {C : MC} {P : List (BitVec 16)} {t : DS} {ns : List Nat}
theorem UA.wd {x : List (BitVec 16) × DS} (H : UA r d c b C m x ns) (hw : ∀ k ∈ ns, wr k = true) : wr d = true ∧ Eng.look m d = some (qO b x.2) ∧ d ∈ ns ∧ 5 ≤ b.length ∧ b.length ≤ 1000000 ∧ okS (b.drop 5) x.2 := by
  obtain ⟨e, rc, q, qc, rs, qs, rfl, U⟩ := H
  exact ⟨hw d (by simp), U.dq, by simp, U.b1, U.b2, U.ok⟩
/-- what comes behind a slot -/
def dstP (slot : Nat) (w : Int) : Pg Nat :=
  if slot < 4 then .ret (slot + 1)
  else
    if slot < 14 then (turnP (1716 + 32 * slot) (w - 1 - ((2 + slot % 2) * 2 ^ (slot / 2 - 1) : Nat)) (slot / 2 - 1) 0 1 0).bind fun v => .ret (1 + (2 + slot % 2) * 2 ^ (slot / 2 - 1) + v)
    else .plain (BitVec.ofInt 32 ((w - 1 - ((2 + slot % 2) * 2 ^ (slot / 2 - 1) : Nat)).fdiv 16)) (slot / 2 - 1 - 4) fun u => (turnP 2164 ((w - 1 - ((2 + slot % 2) * 2 ^ (slot / 2 - 1) : Nat)) % 16) 4 0 1 0).bind fun v => .ret (1 + (2 + slot % 2) * 2 ^ (slot / 2 - 1) + u.toNat * 16 + v)
theorem distP_dst (len : Nat) (w : Int) : distP len w = (treeP (1460 + 64 * min (len - 2) 3) (slotW (w - 1)) 6 1).bind fun m => dstP (m - 64) w := rfl
set_option maxHeartbeats 2000000 in
theorem udistance (D : Rdm wr m nx) (lt : ∀ p ∈ m, p.1 < nx) (H : UA r d c b C m (P, t) ns) (hw : ∀ k ∈ ns, wr k = true) (n : Nat) (w : Int) (hz : szP C ≤ 1000000000) (h2 : 2 ≤ n) (h3 : n ≤ 273) :
    CallG false Try.prog 163 [.ptr r 0, .int .i64 (n : Nat)] wr m nx (UR (fun a => .int .i64 ((a : Nat) : Int)) r d c b C (run (decM (b.drop 5)) (distP n w) P t) ns m nx) := by
  refine fn_okG Try.func163 rfl (by show 2 ≤ _; decide) ?_
  have sz := szP_le C
  have hm3 : min (n - 2) 3 ≤ 3 := Nat.min_le_right _ _
  have ht := utree D lt H hw (1460 + 64 * min (n - 2) 3) 6 (slotW (w - 1)) (by decide) (by show _ + 64 ≤ _; omega) hz
  have hb := All.run (decM (b.drop 5)) P t (treeP_all (1460 + 64 * min (n - 2) 3) (slotW (w - 1)) 6 1)
  rw [distP_dst, run_bind]
  generalize run (decM (b.drop 5)) (treeP (1460 + 64 * min (n - 2) 3) (slotW (w - 1)) 6 1) P t = y at *
  obtain ⟨a, P1, t1⟩ := y
  obtain ⟨hb1, hb2⟩ := hb
  have hb1 : 1 * 64 ≤ a := hb1
  have hb2 : a < (1 + 1) * 64 := hb2
  dsimp only
  obtain ⟨sl, hsl⟩ : ∃ sl, sl = a - 64 := ⟨_, rfl⟩
  have hsl64 : sl < 64 := by omega
  have hsl' : a - 2 ^ 6 = sl := hsl.symm
  rw [← hsl]
  simp (maxSteps := 1000000) -implicitDefEqProofs only [go_sem, seval, -List.reduceReplicate, Try.results163, Try.ntmps163]
  refine CallG.pk (kslots D n h2 h3) ?_
  simp (maxSteps := 1000000) -implicitDefEqProofs only [go_sem, seval, -List.reduceReplicate]
  refine CallG.weak ht ?_
  rintro v1 m1 nx1 ⟨rfl, fr1, ns1, k1, hn1⟩
  dsimp only at k1 ⊢
  rw [hsl']
  have D1 := fr1.rdm D hw
  have hw1 := wrT D hw hn1
  unfold dstP
  by_cases h4 : sl < 4
  · have c1 : decide (((sl : Nat) : Int) < 4) = true := decide_eq_true (by omega)
    have ww : IntKind.i64.wrap (((sl : Nat) : Int) + 1) = ((sl + 1 : Nat) : Int) := by rw [wrap_i64] <;> omega
    rw [if_pos h4]
    simp (maxSteps := 1000000) -implicitDefEqProofs only [go_sem, seval, -List.reduceReplicate, c1, ww]
    exact Fr.fin (At := UA r d c b C) (s' := (P1, t1)) fr1 D hw k1 hn1
  rw [if_neg h4]
  have c1 : decide (((sl : Nat) : Int) < 4) = false := decide_eq_false (by omega)
  obtain ⟨N, hN⟩ : ∃ N, N = sl / 2 - 1 := ⟨_, rfl⟩
  obtain ⟨z, hz2⟩ : ∃ z, z = sl % 2 := ⟨_, rfl⟩
  rw [← hN, ← hz2]
  have hz2' : z < 2 := by omega
  have td : ((sl : Nat) : Int).tdiv 2 = ((sl / 2 : Nat) : Int) := rfl
  have tm : ((sl : Nat) : Int).tmod 2 = ((z : Nat) : Int) := by rw [hz2]; rfl
  have u1 : IntKind.i64.wrap ((sl / 2 : Nat) : Int) = ((sl / 2 : Nat) : Int) := by rw [wrap_i64] <;> omega
  have u2 : IntKind.i64.wrap (((sl / 2 : Nat) : Int) - 1) = ((N : Nat) : Int) := by rw [wrap_i64] <;> omega
  have u3 : IntKind.i64.wrap (2 + ((z : Nat) : Int)) = ((2 + z : Nat) : Int) := by rw [wrap_i64] <;> omega
  have hNb : N ≤ 30 := by omega
  have pN : 2 ^ N ≤ 2 ^ 30 := Nat.pow_le_pow_right (by decide) hNb
  obtain ⟨B, hB⟩ : ∃ B, B = (2 + z) * 2 ^ N := ⟨_, rfl⟩
  have hBb : B ≤ 3 * 2 ^ 30 := by rw [hB]; exact Nat.mul_le_mul (by omega) pN
  have u4 : IntKind.i64.wrap (((2 + z : Nat) : Int) * ((2 ^ N : Nat) : Int)) = ((B : Nat) : Int) := by
    rw [← Int.natCast_mul, ← hB, wrap_i64] <;> omega
  have u5 : IntKind.i64.wrap (1 + ((B : Nat) : Int)) = ((1 + B : Nat) : Int) := by rw [wrap_i64] <;> omega
  rw [← hB]
  by_cases h14 : sl < 14
  · have c2 : decide (((sl : Nat) : Int) < 14) = true := decide_eq_true (by omega)
    rw [if_pos h14]
    have hN5 : N ≤ 5 := by omega
    have pN5 : 2 ^ N ≤ 2 ^ 5 := Nat.pow_le_pow_right (by decide) hN5
    simp (maxSteps := 1000000) -implicitDefEqProofs only [go_sem, seval, -List.reduceReplicate, c1, td, tm, u1, u2, u3]
    refine CallG.pk (ktwo D1 N (by omega)) ?_
    simp (maxSteps := 1000000) -implicitDefEqProofs only [go_sem, seval, -List.reduceReplicate, u4, u5, c2]
    refine CallG.pk (klow D1 sl (by omega)) ?_
    simp (maxSteps := 1000000) -implicitDefEqProofs only [go_sem, seval, -List.reduceReplicate]
    refine CallG.weak (uturned D1 fr1.lt k1 hw1 (1716 + 32 * sl) N (w - 1 - ((B : Nat) : Int)) (by omega) (by omega) hz) ?_
    have hv := All.run (decM (b.drop 5)) P1 t1 (turnP_all (1716 + 32 * sl) (w - 1 - ((B : Nat) : Int)) N 0 1 0 (by decide))
    rw [run_map]
    generalize run (decM (b.drop 5)) (turnP (1716 + 32 * sl) (w - 1 - ((B : Nat) : Int)) N 0 1 0) P1 t1 = y at *
    obtain ⟨v, P2, t2⟩ := y
    have hv : v < 2 ^ (0 + N) := hv
    rw [Nat.zero_add] at hv
    rintro v2 m2 nx2 ⟨rfl, fr2, ns2, k2, hn2⟩
    have ww : IntKind.i64.wrap (((1 + B : Nat) : Int) + ((v : Nat) : Int)) = ((1 + B + v : Nat) : Int) := by rw [wrap_i64] <;> omega
    dsimp only
    simp (maxSteps := 1000000) -implicitDefEqProofs only [go_sem, seval, -List.reduceReplicate, ww]
    exact Fr.fin (At := UA r d c b C) (s' := (P2, t2)) (fr1.trans fr2 lt hn1) D hw k2 (subT hn1 hn2 fr1.le)
  · have c2 : decide (((sl : Nat) : Int) < 14) = false := decide_eq_false (by omega)
    rw [if_neg h14]
    obtain ⟨wd1, dq1, dn1, b51, b61, ok1⟩ := k1.wd hw1
    obtain ⟨rd1, R1, Q1, co1⟩ := k1.cor
    have u6 : IntKind.i64.wrap (((N : Nat) : Int) - 4) = ((N - 4 : Nat) : Int) := by rw [wrap_i64] <;> omega
    simp (maxSteps := 1000000) -implicitDefEqProofs only [go_sem, seval, -List.reduceReplicate, c1, td, tm, u1, u2, u3]
    refine CallG.pk (ktwo D1 N (by omega)) ?_
    simp (maxSteps := 1000000) -implicitDefEqProofs only [go_sem, seval, -List.reduceReplicate, u4, c2, rd1, u6]
    refine CallG.weak (qplnOk D1 fr1.lt dq1 wd1 b51 b61 ok1 (N - 4) (by omega)) ?_
    rintro v2 m2 nx2 ⟨rfl, rfl, rfl⟩
    have k2 := k1.setd (plnD (b.drop 5) t1 (N - 4)).1 (pln_ok (b.drop 5) t1 ok1 (N - 4))
    have F2 := fr1.trans (Fr.upd (ns := ns1) D1 fr1.lt dn1 (qO b (plnD (b.drop 5) t1 (N - 4)).1)) lt hn1
    have D2 := F2.rdm D hw
    have hrun : ∀ q : BitVec 32 → Pg Nat, run (decM (b.drop 5)) (.plain (BitVec.ofInt 32 ((w - 1 - ((B : Nat) : Int)).fdiv 16)) (N - 4) q) P1 t1 = run (decM (b.drop 5)) (q (plnV (plnD (b.drop 5) t1 (N - 4)))) P1 (plnD (b.drop 5) t1 (N - 4)).1 := fun q => rfl
    rw [hrun]
    dsimp only at *
    generalize plnV (plnD (b.drop 5) t1 (N - 4)) = u at *
    generalize (plnD (b.drop 5) t1 (N - 4)).1 = t2 at *
    have hu := u.isLt
    have u7 : IntKind.i64.wrap ((u.toNat : Nat) : Int) = ((u.toNat : Nat) : Int) := by rw [wrap_i64] <;> omega
    have u8 : IntKind.i64.wrap (16 * ((u.toNat : Nat) : Int)) = ((u.toNat * 16 : Nat) : Int) := by rw [wrap_i64] <;> omega
    have u9 : IntKind.i64.wrap (((1 + B : Nat) : Int) + ((u.toNat * 16 : Nat) : Int)) = ((1 + B + u.toNat * 16 : Nat) : Int) := by rw [wrap_i64] <;> omega
    simp (maxSteps := 1000000) -implicitDefEqProofs only [go_sem, seval, -List.reduceReplicate, u5, u7, u8, u9]
    refine CallG.pk (kalign D2) ?_
    simp (maxSteps := 1000000) -implicitDefEqProofs only [go_sem, seval, -List.reduceReplicate, u5, u7, u8, u9]
    refine CallG.weak (uturned D2 F2.lt k2 hw1 2164 4 ((w - 1 - ((B : Nat) : Int)) % 16) (by decide) (by show 2164 + 16 ≤ _; omega) hz) ?_
    have hv := All.run (decM (b.drop 5)) P1 t2 (turnP_all 2164 ((w - 1 - ((B : Nat) : Int)) % 16) 4 0 1 0 (by decide))
    rw [run_map]
    generalize run (decM (b.drop 5)) (turnP 2164 ((w - 1 - ((B : Nat) : Int)) % 16) 4 0 1 0) P1 t2 = y at *
    obtain ⟨v, P3, t3⟩ := y
    have hv : v < 2 ^ (0 + 4) := hv
    have hv : v < 16 := hv
    rintro v3 m3 nx3 ⟨rfl, fr3, ns3, k3, hn3⟩
    have ww : IntKind.i64.wrap (((1 + B + u.toNat * 16 : Nat) : Int) + ((v : Nat) : Int)) = ((1 + B + u.toNat * 16 + v : Nat) : Int) := by rw [wrap_i64] <;> omega
    dsimp only
    simp (maxSteps := 1000000) -implicitDefEqProofs only [go_sem, seval, -List.reduceReplicate, ww]
    exact Fr.fin (At := UA r d c b C) (s' := (P3, t3)) (F2.trans fr3 lt hn1) D hw k3 (subT hn1 hn3 F2.le)
end
end Go.Proofs.Ytmdeoikpiiambaa
end
section
/- The document's reader of symbols: literals. BRIEF -/
set_option linter.unusedVariables false
set_option linter.unusedSimpArgs false
set_option maxRecDepth 100000
namespace Go.Proofs.Ytmdeoikpiiambaa
open Go Go.Eng

/-- the top bits of a byte, with a bit 1 ahead -/
theorem like_top (K j : Nat) (hj : j ≤ 7) (mm w : Nat) (hw : w < 2) : (2 * mm + w = (K + 256) / 2 ^ j) ↔ (mm = (K + 256) / 2 ^ (j + 1) ∧ w = K / 2 ^ j % 2) := by
  have h1 : (K + 256) / 2 ^ (j + 1) = (K + 256) / 2 ^ j / 2 := by rw [Nat.pow_succ, Nat.div_div_eq_div_mul]
  have h2 : (K + 256) / 2 ^ j % 2 = K / 2 ^ j % 2 := by
    rcases (show j = 0 ∨ j = 1 ∨ j = 2 ∨ j = 3 ∨ j = 4 ∨ j = 5 ∨ j = 6 ∨ j = 7 by omega) with rfl | rfl | rfl | rfl | rfl | rfl | rfl | rfl
    · show (K + 256) / 1 % 2 = K / 1 % 2; omega
    · show (K + 256) / 2 % 2 = K / 2 % 2; omega
    · show (K + 256) / 4 % 2 = K / 4 % 2; omega
    · show (K + 256) / 8 % 2 = K / 8 % 2; omega
    · show (K + 256) / 16 % 2 = K / 16 % 2; omega
    · show (K + 256) / 32 % 2 = K / 32 % 2; omega
    · show (K + 256) / 64 % 2 = K / 64 % 2; omega
    · show (K + 256) / 128 % 2 = K / 128 % 2; omega
  rw [h1, ← h2]
  generalize (K + 256) / 2 ^ j = z
  omega
section
variable {wr : Nat → Bool} {m : Mem} {nx r d c : Nat} {b : List (BitVec 8)} {C : MC} {P : List (BitVec 16)} {t : DS} {ns : List Nat}
set_option maxHeartbeats 4000000 in
theorem uliteral (D : Rdm wr m nx) (lt : ∀ p ∈ m, p.1 < nx) (H : UA r d c b C m (P, t) ns) (hw : ∀ k ∈ ns, wr k = true) {hv : AV} {h : List (BitVec 8)} {hs : List Nat} (hi : ByAt 5 m hv h hs) (hh : h.length ≤ 1000000000) (hC : MCok C) (hz : szP C ≤ 1000000000) (w : Int) :
    CallG false Try.prog 161 [.ptr r 0, hv] wr m nx (UR (fun a => .int .u8 ((a : Nat) : Int)) r d c b C (run (decM (b.drop 5)) (litP C h w) P t) ns m nx) := by
  refine fn_okG Try.func161 rfl (by show 2 ≤ _; decide) ?_
  obtain ⟨q1, q2, q3, q4, q5⟩ := hi.facts
  have hB := litB_le hC h
  have r1 := hC.r0.1
  obtain ⟨e, rc, q, qc, rs, qs, hns, U⟩ := id H
  have U : UAt r d c e rc q qc rs qs b C m P t := U
  have co := U.co.co
  have rd := U.rd
  have re := U.co.re
  unfold rpL at re
  by_cases h7 : C.st < 7
  · have c1 : decide (((C.st : Nat) : Int) < 7) = true := decide_eq_true (by omega)
    have hlp : litP C h w = (treeP (litB C h) w 8 1).bind fun m => .ret (m - 256) := if_pos h7
    rw [hlp, run_map]
    simp (maxSteps := 1000000) -implicitDefEqProofs only [go_sem, seval, -List.reduceReplicate, Try.results161, Try.ntmps161, q1, q2, q3, q4, q5, rd, co]
    refine CallG.pk (ktable D hi hh hC co lt) ?_
    simp (maxSteps := 1000000) -implicitDefEqProofs only [go_sem, seval, -List.reduceReplicate, q1, q2, q3, q4, q5, rd, co, c1]
    refine CallG.weak (utree D lt H hw (litB C h) 8 w (by decide) (by show _ + 256 ≤ _; omega) hz) ?_
    have hb := All.run (decM (b.drop 5)) P t (treeP_all (litB C h) w 8 1)
    generalize run (decM (b.drop 5)) (treeP (litB C h) w 8 1) P t = y at *
    obtain ⟨a, P2, t2⟩ := y
    rintro v1 m1 nx1 ⟨rfl, fr1, ns1, k1, hn1⟩
    obtain ⟨hb1, hb2⟩ := hb
    have ww : IntKind.u8.wrap ((a - 2 ^ 8 : Nat) : Int) = ((a - 256 : Nat) : Int) := by
      have hb2 : a < (1 + 1) * 256 := hb2
      show ((a - 256 : Nat) : Int) % 256 = _
      omega
    dsimp only
    simp (maxSteps := 1000000) -implicitDefEqProofs only [go_sem, seval, -List.reduceReplicate, ww]
    exact Fr.fin (At := UA r d c b C) (s' := (P2, t2)) fr1 D hw k1 hn1
  have c1 : decide (((C.st : Nat) : Int) < 7) = false := decide_eq_false (by omega)
  have hlp : litP C h w = (mlitP (litB C h) (backN h C.r0) w 8 1 true).bind fun m => .ret (m - 256) := if_neg h7
  rw [hlp, run_map]
  simp (maxSteps := 1000000) -implicitDefEqProofs only [go_sem, seval, -List.reduceReplicate, Try.results161, Try.ntmps161, q1, q2, q3, q4, q5, rd, co]
  refine CallG.pk (ktable D hi hh hC co lt) ?_
  simp (maxSteps := 1000000) -implicitDefEqProofs only [go_sem, seval, -List.reduceReplicate, q1, q2, q3, q4, q5, rd, co, re, c1]
  refine ⟨by omega, ?_⟩
  refine CallG.pk (kback D hi hh C.r0 r1) ?_
  obtain ⟨K, hK⟩ : ∃ K, K = backN h C.r0 := ⟨_, rfl⟩
  have hKl : K < 256 := by rw [hK]; exact backN_lt _ _
  rw [← hK]
  obtain ⟨T, hT⟩ : ∃ T, T = litB C h := ⟨_, rfl⟩
  rw [← hT] at hB ⊢
  have wK : IntKind.i64.wrap ((K : Int) + 256) = ((K + 256 : Nat) : Int) := by rw [wrap_i64] <;> omega
  simp (maxSteps := 1000000) -implicitDefEqProofs only [go_sem, seval, -List.reduceReplicate, q1, q2, q3, q4, q5, wK]
  refine LoopOk.upX (fun i (x : Nat × (List (BitVec 16) × DS) × List Nat × Mem × Nat) => run (decM (b.drop 5)) (mlitP T K w (8 - i) x.1 (decide (x.1 = (K + 256) / 2 ^ (8 - i)))) x.2.1.1 x.2.1.2 = run (decM (b.drop 5)) (mlitP T K w 8 1 true) P t ∧ 2 ^ i ≤ x.1 ∧ x.1 < 2 ^ (i + 1) ∧ UA r d c b C x.2.2.2.1 x.2.1 x.2.2.1 ∧ Fr ns m nx x.2.2.2.1 x.2.2.2.2 ∧ ∀ j ∈ x.2.2.1, j ∈ ns ∨ nx ≤ j) 8
    (fun i x => ([(8, .int .i64 (7 - (i : Int))), (7, .int .i64 (x.1 : Nat)), (6, .int .i64 ((K + 256 : Nat) : Int)), (5, .int .i64 (T : Nat)), (0, .ptr r 0)], x.2.2.2.1, x.2.2.2.2)) (1, (P, t), ns, m, nx) ⟨by rw [show decide (((1, (P, t), ns, m, nx) : Nat × (List (BitVec 16) × DS) × List Nat × Mem × Nat).1 = (K + 256) / 2 ^ (8 - 0)) = true from decide_eq_true (by show 1 = (K + 256) / 256; omega)], Nat.le_refl 1, (by show 1 < 2; decide), H, .refl D.nd lt, fun j hj => .inl hj⟩ (D.leN (Nat.le_refl _) ⟨rfl, rfl, rfl, rfl, rfl, trivial⟩) ?_
  rintro i ⟨mm, ⟨P1, s1⟩, ns1, m1, nx1⟩ ⟨hi8, a1, a2, a3, a5, a6, a7⟩
  have a1 : run (decM (b.drop 5)) (mlitP T K w (8 - i) mm (decide (mm = (K + 256) / 2 ^ (8 - i)))) P1 s1 = run (decM (b.drop 5)) (mlitP T K w 8 1 true) P t := a1
  have a2 : 2 ^ i ≤ mm := a2
  have a3 : mm < 2 ^ (i + 1) := a3
  have a5 : UA r d c b C m1 (P1, s1) ns1 := a5
  have a6 : Fr ns m nx m1 nx1 := a6
  have a7 : ∀ j ∈ ns1, j ∈ ns ∨ nx ≤ j := a7
  have hi8 : i ≤ 8 := hi8
  have D3 := a6.rdm D hw
  have hw3 := wrT D hw a7
  rcases Nat.lt_or_ge i 8 with h' | h'
  · have g2 : decide ((7 : Int) - (i : Int) ≥ 0) = true := decide_eq_true (by omega)
    have hki : (7 : Int) - (i : Int) = ((7 - i : Nat) : Int) := by omega
    have wi : IntKind.i64.wrap (((7 - i : Nat) : Int) - 1) = 7 - ((i + 1 : Nat) : Int) := by rw [wrap_i64] <;> omega
    have pk : 2 ^ (i + 1) ≤ 2 ^ 8 := Nat.pow_le_pow_right (by decide) (by omega)
    have h8 : 8 - i = (7 - i) + 1 := by omega
    rw [hki] at g2
    have pp : 0 < 2 ^ (7 - i) := Nat.pow_pos (by decide)
    have pl : 2 ^ (7 - i) ≤ 2 ^ 7 := Nat.pow_le_pow_right (by decide) (by omega)
    have p0 : ¬ ((2 ^ (7 - i) : Nat) : Int) = 0 := fun e => by have := Int.ofNat.inj e; omega
    have w2 : IntKind.i64.wrap (2 * ((2 ^ (7 - i) : Nat) : Int)) = ((2 ^ (8 - i) : Nat) : Int) := by
      rw [h8, Nat.pow_succ]
      generalize 2 ^ (7 - i) = z at *
      rw [wrap_i64] <;> omega
    have p1 : ¬ ((2 ^ (8 - i) : Nat) : Int) = 0 := fun e => by have := Int.ofNat.inj e; have : 0 < 2 ^ (8 - i) := Nat.pow_pos (by decide); omega
    have wq : ∀ x y : Nat, x < 1000 → IntKind.i64.wrap ((x / y : Nat) : Int) = ((x / y : Nat) : Int) := fun x y hx => by
      have := Nat.div_le_self x y
      generalize x / y = z at *
      rw [wrap_i64] <;> omega
    have u3 := wq (K + 256) (2 ^ (8 - i)) (by omega)
    have u4 := wq (K + 256) (2 ^ (7 - i)) (by omega)
    have x3 : IntKind.i64.wrap (2 * (mm : Int)) = ((2 * mm : Nat) : Int) := by rw [wrap_i64] <;> omega
    obtain ⟨sm, hsm⟩ : ∃ sm, sm = decide (mm = (K + 256) / 2 ^ (8 - i)) := ⟨_, rfl⟩
    obtain ⟨kb, hkb⟩ : ∃ kb, kb = K / 2 ^ (7 - i) % 2 := ⟨_, rfl⟩
    have hkb2 : kb < 2 := by rw [hkb]; exact Nat.mod_lt _ (by decide)
    obtain ⟨J, hJ⟩ : ∃ J, J = T + (if sm then 256 + kb * 256 else 0) + mm := ⟨_, rfl⟩
    have hmm : mm < 256 := by omega
    have hJl : J < szP C := by rw [hJ]; split <;> omega
    have hN := ubit D3 a6.lt a5 hw3 J hJl hz (wb w (7 - i))
    rw [← hsm, h8] at a1
    have a1' : run (decM (b.drop 5)) (mlitP T K w (7 - i) (2 * mm + ((decM (b.drop 5)).bit s1 (P1.getD (T + (if sm then 256 + K / 2 ^ (7 - i) % 2 * 256 else 0) + mm) 0) (wb w (7 - i))).1.toNat) (sm && ((decM (b.drop 5)).bit s1 (P1.getD (T + (if sm then 256 + K / 2 ^ (7 - i) % 2 * 256 else 0) + mm) 0) (wb w (7 - i))).1.toNat == K / 2 ^ (7 - i) % 2)) (nxP P1 (T + (if sm then 256 + K / 2 ^ (7 - i) % 2 * 256 else 0) + mm) ((decM (b.drop 5)).bit s1 (P1.getD (T + (if sm then 256 + K / 2 ^ (7 - i) % 2 * 256 else 0) + mm) 0) (wb w (7 - i))).1) ((decM (b.drop 5)).bit s1 (P1.getD (T + (if sm then 256 + K / 2 ^ (7 - i) % 2 * 256 else 0) + mm) 0) (wb w (7 - i))).2 = run (decM (b.drop 5)) (mlitP T K w 8 1 true) P t := a1
    rw [← hkb, ← hJ] at a1'
    generalize (decM (b.drop 5)).bit s1 (P1.getD J 0) (wb w (7 - i)) = z at *
    obtain ⟨w0, s2⟩ := z
    dsimp only at a1' hN
    have hb2 := bool_lt w0
    have hfl : (sm && w0.toNat == kb) = decide (2 * mm + w0.toNat = (K + 256) / 2 ^ (8 - (i + 1))) := by
      have := like_top K (7 - i) (by omega) mm w0.toNat hb2
      rw [← hkb] at this
      rw [hsm, h8, show 8 - (i + 1) = 7 - i by omega, decide_eq_decide.2 this, Bool.decide_and]
      rfl
    rw [hfl] at a1'
    have x4 : IntKind.i64.wrap (((2 * mm : Nat) : Int) + bitI w0) = ((2 * mm + w0.toNat : Nat) : Int) := by
      cases w0 <;> (show IntKind.i64.wrap (_ + _) = _; unfold bitI; rw [wrap_i64] <;> simp <;> omega)
    have next : ∀ {m4 : Mem} {nx4 : Nat} {ns4 : List Nat}, Fr ns1 m1 nx1 m4 nx4 → UA r d c b C m4 (nxP P1 J w0, s2) ns4 → (∀ j ∈ ns4, j ∈ ns1 ∨ nx1 ≤ j) → (run (decM (b.drop 5)) (mlitP T K w (8 - (i + 1)) (2 * mm + w0.toNat) (decide (2 * mm + w0.toNat = (K + 256) / 2 ^ (8 - (i + 1))))) (nxP P1 J w0) s2 = run (decM (b.drop 5)) (mlitP T K w 8 1 true) P t ∧ 2 ^ (i + 1) ≤ 2 * mm + w0.toNat ∧ 2 * mm + w0.toNat < 2 ^ (i + 1 + 1) ∧ UA r d c b C m4 (nxP P1 J w0, s2) ns4 ∧ Fr ns m nx m4 nx4 ∧ ∀ j ∈ ns4, j ∈ ns ∨ nx ≤ j) := fun f4 S4 hn4 => ⟨by rw [← a1', show 8 - (i + 1) = 7 - i by omega], by rw [Nat.pow_succ]; omega, by rw [Nat.pow_succ] at a3 ⊢; omega, S4, a6.trans f4 lt a7, subT a7 hn4 a6.le⟩
    simp (maxSteps := 1000000) -implicitDefEqProofs only [go_sem, seval, -List.reduceReplicate, hki, g2]
    refine CallG.pk (ktwo D3 (7 - i) (by omega)) ?_
    cases sm with
    | true =>
      have ce : (((mm : Nat) : Int) == (((K + 256) / 2 ^ (8 - i) : Nat) : Int)) = true := by
        rw [beq_iff_eq]; exact congrArg _ (of_decide_eq_true hsm.symm)
      have hJ : J = T + 256 + 256 * kb + mm := by rw [hJ, if_pos rfl]; omega
      have tmk : (((K + 256) / 2 ^ (7 - i) : Nat) : Int).tmod 2 = ((kb : Nat) : Int) := by
        have := like_top K (7 - i) (by omega) ((K + 256) / 2 ^ (7 - i + 1)) ((K + 256) / 2 ^ (7 - i) % 2) (Nat.mod_lt _ (by decide))
        have e1 : (K + 256) / 2 ^ (7 - i + 1) = (K + 256) / 2 ^ (7 - i) / 2 := by rw [Nat.pow_succ, Nat.div_div_eq_div_mul]
        have e2 : 2 * ((K + 256) / 2 ^ (7 - i + 1)) + (K + 256) / 2 ^ (7 - i) % 2 = (K + 256) / 2 ^ (7 - i) := by rw [e1]; omega
        have e3 := (this.1 e2).2
        rw [tm2, e3, hkb]
      have y1 : IntKind.i64.wrap ((T : Int) + 256) = ((T + 256 : Nat) : Int) := by rw [wrap_i64] <;> omega
      have y2 : IntKind.i64.wrap (256 * ((kb : Nat) : Int)) = ((256 * kb : Nat) : Int) := by rw [wrap_i64] <;> omega
      have y3 : IntKind.i64.wrap (((T + 256 : Nat) : Int) + ((256 * kb : Nat) : Int)) = ((T + 256 + 256 * kb : Nat) : Int) := by rw [wrap_i64] <;> omega
      have y4 : IntKind.i64.wrap (((T + 256 + 256 * kb : Nat) : Int) + (mm : Int)) = (J : Int) := by rw [hJ, wrap_i64] <;> omega
      simp (maxSteps := 1000000) -implicitDefEqProofs only [go_sem, seval, -List.reduceReplicate, w2, tdN, p1, p0, u3, u4, ce, x3, y1, y2, y3, y4, tmk]
      refine CallG.weak hN ?_
      rintro v4 m4 nx4 ⟨rfl, fr4, ns4, S4, hn4⟩
      simp (maxSteps := 1000000) -implicitDefEqProofs only [go_sem, seval, -List.reduceReplicate, x3, x4, wi]
      exact UpX_normal h' (2 * mm + w0.toNat, (nxP P1 J w0, s2), ns4, m4, nx4) (next fr4 S4 hn4) ((fr4.rdm D3 hw3).leN (a6.trans fr4 lt a7).le ⟨rfl, rfl, rfl, rfl, rfl, trivial⟩)
    | false =>
      have ce : (((mm : Nat) : Int) == (((K + 256) / 2 ^ (8 - i) : Nat) : Int)) = false := by
        rw [beq_eq_false_iff_ne]; exact fun e => (of_decide_eq_false hsm.symm) (Int.ofNat.inj e)
      have hJ : J = T + mm := by rw [hJ, if_neg (by decide)]; omega
      have y4 : IntKind.i64.wrap ((T : Int) + (mm : Int)) = (J : Int) := by rw [hJ, wrap_i64] <;> omega
      simp (maxSteps := 1000000) -implicitDefEqProofs only [go_sem, seval, -List.reduceReplicate, w2, tdN, p1, p0, u3, u4, ce, x3, y4]
      refine CallG.weak hN ?_
      rintro v4 m4 nx4 ⟨rfl, fr4, ns4, S4, hn4⟩
      simp (maxSteps := 1000000) -implicitDefEqProofs only [go_sem, seval, -List.reduceReplicate, x3, x4, wi]
      exact UpX_normal h' (2 * mm + w0.toNat, (nxP P1 J w0, s2), ns4, m4, nx4) (next fr4 S4 hn4) ((fr4.rdm D3 hw3).leN (a6.trans fr4 lt a7).le ⟨rfl, rfl, rfl, rfl, rfl, trivial⟩)
  · have hik : i = 8 := by omega
    have g2 : decide ((7 : Int) - (i : Int) ≥ 0) = false := decide_eq_false (by omega)
    subst hik
    have a2 : 256 ≤ mm := a2
    have a3 : mm < 512 := a3
    have tm : ((mm : Nat) : Int).tmod 256 = ((mm - 256 : Nat) : Int) := by
      rw [Int.tmod_eq_emod_of_nonneg (by omega)]; omega
    have ww : IntKind.u8.wrap ((mm - 256 : Nat) : Int) = ((mm - 256 : Nat) : Int) := by
      show ((mm - 256 : Nat) : Int) % 256 = _
      omega
    simp (maxSteps := 1000000) -implicitDefEqProofs only [go_sem, seval, -List.reduceReplicate, g2, tm, ww]
    have a1 : ((mm, P1, s1) : Nat × List (BitVec 16) × DS) = run (decM (b.drop 5)) (mlitP T K w 8 1 true) P t := a1
    rw [← a1]
    exact Fr.fin (At := UA r d c b C) (s' := (P1, s1)) a6 D hw a5 a7
end
end Go.Proofs.Ytmdeoikpiiambaa
end
section
/- The document's reader of symbols: a symbol. Printed by gen_mqj.py. BRIEF -/
set_option linter.unusedVariables false
set_option linter.unusedSimpArgs false
set_option maxRecDepth 100000
namespace Go.Proofs.Ytmdeoikpiiambaa
open Go Go.Eng

/-- on the way: the reader, and two objects of its own call -/
structure US (wr : Nat → Bool) (ns : List Nat) (m : Mem) (nx r d c : Nat) (b : List (BitVec 8)) (O1 O2 : AObj) (C : MC) (x : List (BitVec 16) × DS) (ns1 : List Nat) (m1 : Mem) (nx1 : Nat) : Prop where
  F : Fr ns m nx m1 nx1
  sub : ∀ k ∈ ns1, k ∈ ns ∨ nx + 2 ≤ k
  ua : UA r d c b C m1 x ns1
  R : Rdm wr m1 nx1
  w : ∀ k ∈ ns1, wr k = true
  b1 : Eng.look m1 nx = some O1
  b2 : Eng.look m1 (nx + 1) = some O2
  n1 : nx ∉ ns1
  n2 : nx + 1 ∉ ns1
  le : nx + 2 ≤ nx1
theorem US.nxt {wr : Nat → Bool} {ns : List Nat} {m : Mem} {nx r d c : Nat} {b : List (BitVec 8)} {O1 O2 : AObj} {C : MC} {x x2 : List (BitVec 16) × DS} {ns1 ns2 : List Nat} {m1 m2 : Mem} {nx1 nx2 : Nat} (K : US wr ns m nx r d c b O1 O2 C x ns1 m1 nx1) (lt : ∀ p ∈ m, p.1 < nx) (fr : Fr ns1 m1 nx1 m2 nx2) (k2 : UA r d c b C m2 x2 ns2) (hn : ∀ k ∈ ns2, k ∈ ns1 ∨ nx1 ≤ k) : US wr ns m nx r d c b O1 O2 C x2 ns2 m2 nx2 := by
  have l1 := K.le
  have l2 := fr.le
  refine ⟨K.F.trans fr lt (fun k hk => (K.sub k hk).imp id fun h => by omega), fun k hk => ?_, k2, fr.rdm K.R K.w, wrT K.R K.w hn, fr.kp _ _ K.n1 K.b1, fr.kp _ _ K.n2 K.b2, fun hm => ?_, fun hm => ?_, by omega⟩
  · rcases hn k hk with h | h
    · exact K.sub k h
    · exact .inr (by omega)
  · rcases hn _ hm with h | h
    · exact K.n1 h
    · omega
  · rcases hn _ hm with h | h
    · exact K.n2 h
    · omega
theorem US.set {wr : Nat → Bool} {ns : List Nat} {m : Mem} {nx r d c : Nat} {b : List (BitVec 8)} {O1 O2 : AObj} {C : MC} {x : List (BitVec 16) × DS} {ns1 : List Nat} {m1 : Mem} {nx1 : Nat} (K : US wr ns m nx r d c b O1 O2 C x ns1 m1 nx1) (lt : ∀ p ∈ m, p.1 < nx) (O : AObj) : US wr ns m nx r d c b O1 O C x ns1 (Eng.upd m1 (nx + 1) O) nx1 := by
  have kp : ∀ k o, nx + 1 ≠ k → Eng.look m1 k = some o → Eng.look (Eng.upd m1 (nx + 1) O) k = some o := fun k o h ho => by rw [look_upd_other _ h]; exact ho
  have R2 := K.R.upd (nx + 1) O
  refine ⟨⟨K.F.le, R2.nd, upd_lt K.F.lt _ _, fun k o hk ho => kp k o (by have := look_ltm lt ho; omega) (K.F.kp k o hk ho)⟩, K.sub, K.ua.ext fun k hk o ho => kp k o (fun e => K.n2 (by rw [e]; exact hk)) ho, R2, K.w, kp _ _ (by omega) K.b1, look_upd_same _ K.b2, K.n1, K.n2, K.le⟩
theorem US.fin {wr : Nat → Bool} {ns : List Nat} {m : Mem} {nx r d c : Nat} {b : List (BitVec 8)} {O1 O2 : AObj} {C : MC} {x : List (BitVec 16) × DS} {ns1 : List Nat} {m1 : Mem} {nx1 : Nat} {V : AV} (K : US wr ns m nx r d c b O1 O2 C x ns1 m1 nx1) (lt : ∀ p ∈ m, p.1 < nx) (D : Rdm wr m nx) (hw : ∀ k ∈ ns, wr k = true) (O : AObj) : Eng.Fin nx wr (Eng.upd m1 nx O) nx1 (OwK (UA r d c b C) V x ns m nx) V := by
  have kp : ∀ k o, nx ≠ k → Eng.look m1 k = some o → Eng.look (Eng.upd m1 nx O) k = some o := fun k o h ho => by rw [look_upd_other _ h]; exact ho
  have R2 := K.R.upd nx O
  have F2 : Fr ns m nx (Eng.upd m1 nx O) nx1 := ⟨K.F.le, R2.nd, upd_lt K.F.lt _ _, fun k o hk ho => kp k o (by have := look_ltm lt ho; omega) (K.F.kp k o hk ho)⟩
  exact Fr.fin (At := UA r d c b C) (s' := x) F2 D hw (K.ua.ext fun k hk o ho => kp k o (fun e => K.n1 (by rw [e]; exact hk)) ho) fun k hk => (K.sub k hk).imp id fun h => by omega
section
variable {wr : Nat → Bool} {m : Mem} {nx r d c : Nat} {b : List (BitVec 8)} {C : MC} {P : List (BitVec 16)} {t : DS} {ns : List Nat}
set_option maxHeartbeats 4000000 in
theorem usymbol (D : Rdm wr m nx) (lt : ∀ p ∈ m, p.1 < nx) (H : UA r d c b C m (P, t) ns) (hw : ∀ k ∈ ns, wr k = true) {hv : AV} {h : List (BitVec 8)} {hs : List Nat} (hi : ByAt 5 m hv h hs) (hh : h.length ≤ 1000000000) (hsn : ∀ k ∈ hs, k ∉ ns) (hC : MCok C) (hz : szP C ≤ 1000000000) :
    CallG false Try.prog 115 [.ptr r 0, hv] wr m nx (UR (fun p : Sy × MC => .agg (syL p.1)) r d c b C (run (decM (b.drop 5)) (symP C h syZ) P t) ns m nx) := by
  refine fn_okG Try.func115 rfl (by show 2 ≤ _; decide) ?_
  obtain ⟨q1, q2, q3, q4, q5⟩ := hi.facts
  have q6 := hi.len Try.prog 22
  have hst := hC.st
  have hpb := hC.pb
  have sz := szP_le C
  have p0 : ¬ ((2 ^ C.pb : Nat) : Int) = 0 := fun e => by have := Int.ofNat.inj e; have : 0 < 2 ^ C.pb := Nat.pow_pos (by decide); omega
  have pl16 : h.length % 2 ^ C.pb < 16 := by
    have := Nat.mod_lt h.length (show 0 < 2 ^ C.pb from Nat.pow_pos (by decide))
    have : 2 ^ C.pb ≤ 2 ^ 4 := Nat.pow_le_pow_right (by decide) hpb
    omega
  obtain ⟨pl, hp⟩ : ∃ p, p = h.length % 2 ^ C.pb := ⟨_, rfl⟩
  rw [← hp] at pl16
  have z5 : zfill [AV.int IntKind.i64 0, AV.int IntKind.u8 0, AV.int IntKind.i64 0, AV.int IntKind.i64 0, AV.int IntKind.i64 0] 5 = [AV.int IntKind.i64 0, AV.int IntKind.u8 0, AV.int IntKind.i64 0, AV.int IntKind.i64 0, AV.int IntKind.i64 0] := rfl
  have t5 : ∀ a b d e f : AV, List.take 5 [a, b, d, e, f] = [a, b, d, e, f] := fun _ _ _ _ _ => rfl
  have sp5 : ∀ a b d e f : AV, spl [AV.int IntKind.i64 0, AV.int IntKind.u8 0, AV.int IntKind.i64 0, AV.int IntKind.i64 0, AV.int IntKind.i64 0] 0 [a, b, d, e, f] = [a, b, d, e, f] := fun _ _ _ _ _ => rfl
  have O0 : AObj := .cells [AV.int IntKind.i64 0, AV.int IntKind.u8 0, AV.int IntKind.i64 0, AV.int IntKind.i64 0, AV.int IntKind.i64 0] 71
  clear O0
  have ga := Gr.cons D.nd lt (.cells [AV.int IntKind.i64 0, AV.int IntKind.u8 0, AV.int IntKind.i64 0, AV.int IntKind.i64 0, AV.int IntKind.i64 0] 71)
  have gb := ga.trans (Gr.cons ga.nd ga.lt (.cells [AV.int IntKind.i64 0, AV.int IntKind.u8 0, AV.int IntKind.i64 0, AV.int IntKind.i64 0, AV.int IntKind.i64 0] 71))
  have Ha := H.ext (fun k _ => ga.kp k)
  have Da := ga.rdm D
  have lts := H.lt lt
  have K : US wr ns m nx r d c b (.cells [AV.int IntKind.i64 0, AV.int IntKind.u8 0, AV.int IntKind.i64 0, AV.int IntKind.i64 0, AV.int IntKind.i64 0] 71) (.cells [AV.int IntKind.i64 0, AV.int IntKind.u8 0, AV.int IntKind.i64 0, AV.int IntKind.i64 0, AV.int IntKind.i64 0] 71) C (P, t) ns _ (nx + 1 + 1) := ⟨Fr.gr gb, fun k hk => .inl hk, H.ext (fun k _ => gb.kp k), gb.rdm D, hw, by rw [look_cons, if_neg (by omega), look_cons, if_pos rfl], by rw [look_cons, if_pos rfl], fun hm => by have := lts _ hm; omega, fun hm => by have := lts _ hm; omega, by omega⟩
  have beq1 : (nx + 1 == nx) = false := by simp
  have beq2 : (nx == nx + 1) = false := by simp
  have w1 : wr (nx + 1) = true := D.wn _ (by omega)
  have w0 : wr nx = true := D.wn _ (Nat.le_refl _)
  obtain ⟨rd0, Ra, Qa, co0⟩ := H.cor
  have rl := look_ltm lt rd0
  have cl := look_ltm lt co0
  have fr0 : (nx = r) = False := eq_false (by omega)
  have fr1 : (nx + 1 = r) = False := eq_false (by omega)
  have fc0 : (nx = c) = False := eq_false (by omega)
  have fc1 : (nx + 1 = c) = False := eq_false (by omega)
  obtain ⟨rdK, RK, QK', coK⟩ := K.ua.cor
  have hrun : run (decM (b.drop 5)) (symP C h syZ) P t = run (decM (b.drop 5)) (if ((decM (b.drop 5)).bit t (P.getD (16 * C.st + pl) 0) (decide (syZ.k ≠ 0))).1 then .bit (192 + C.st) (decide (syZ.k = 2)) fun b => if b then (repP C.st pl syZ.r syZ.l).bind fun q =>
        if q.2 then .ret ((⟨2, 0#8, 1, 0, q.1⟩ : Sy), go1 (front C q.1 (repOf C q.1)) 9 11)
        else (lenP 946 pl syZ.l).bind fun n => .ret (⟨2, 0#8, n, 0, q.1⟩, go1 (front C q.1 (repOf C q.1)) 8 11)
      else (lenP 432 pl syZ.l).bind fun n => (distP n syZ.d).bind fun d => .ret (⟨1, 0#8, n, d, 0⟩, go1 (front C 3 d) 7 10)
    else (litP C h syZ.b.toNat).bind fun v => .ret ((⟨0, BitVec.ofNat 8 v, 0, 0, 0⟩ : Sy), litGo C)) (nxP P (16 * C.st + pl) ((decM (b.drop 5)).bit t (P.getD (16 * C.st + pl) 0) (decide (syZ.k ≠ 0))).1) ((decM (b.drop 5)).bit t (P.getD (16 * C.st + pl) 0) (decide (syZ.k ≠ 0))).2 := by rw [hp]; rfl
  rw [hrun]
  have hN := ubit K.R K.F.lt K.ua K.w (16 * C.st + pl) (by omega) hz (decide (syZ.k ≠ 0))
  generalize (decM (b.drop 5)).bit t (P.getD (16 * C.st + pl) 0) (decide (syZ.k ≠ 0)) = z at *
  obtain ⟨v0, t1⟩ := z
  try dsimp only at hN
  simp (maxSteps := 1000000) -implicitDefEqProofs only [go_sem, seval, -List.reduceReplicate, Try.results115, Try.ntmps115, q1, q2, q3, q4, q5, q6, rd0, co0, fr0, fr1, fc0, fc1, z5]
  refine CallG.pk (ktwo Da C.pb (by omega)) ?_
  simp (maxSteps := 1000000) -implicitDefEqProofs only [go_sem, seval, -List.reduceReplicate, q1, q2, q3, q4, q5, q6, tmN, p0, ← hp, z5, rd0, co0, fr0, fr1, fc0, fc1]
  refine CallG.pk (kmatch K.R coK hst pl pl16) ?_
  simp (maxSteps := 1000000) -implicitDefEqProofs only [go_sem, seval, -List.reduceReplicate, q1, q2, q3, q4, q5]
  refine CallG.weak hN ?_
  rintro v1 m1 nx1 ⟨rfl, fr1, ns1, k1, hn1⟩
  have K := K.nxt lt fr1 k1 hn1
  have bx2 := K.b2
  have bx1 := K.b1
  generalize nxP P (16 * C.st + pl) v0 = P1 at *
  cases v0 with
  | false =>
    have z0 : (bitI false == 0) = true := rfl
    have hi1 : ByAt 5 m1 hv h hs := hi.ext fun k hk o ho => K.F.kp k o (hsn k hk) ho
    have hl := uliteral K.R K.F.lt K.ua K.w hi1 hh hC hz ((syZ.b.toNat : Nat) : Int)
    have hb := All.run (decM (b.drop 5)) P1 t1 (litP_all C h ((syZ.b.toNat : Nat) : Int))
    have hm2 := run_map (decM (b.drop 5)) (litP C h ((syZ.b.toNat : Nat) : Int)) (fun v => ((⟨0, BitVec.ofNat 8 v, 0, 0, 0⟩ : Sy), litGo C)) P1 t1
    generalize run (decM (b.drop 5)) (litP C h ((syZ.b.toNat : Nat) : Int)) P1 t1 = y at *
    obtain ⟨a, P2, t2⟩ := y
    simp (maxSteps := 1000000) -implicitDefEqProofs only [go_sem, seval, -List.reduceReplicate, q1, q2, q3, q4, q5, z0]
    rw [hm2]
    refine CallG.weak hl ?_
    rintro v2 m2 nx2 ⟨rfl, fr2, ns2, k2, hn2⟩
    have K := K.nxt lt fr2 k2 hn2
    have bx2 := K.b2
    have bx1 := K.b1
    have hb : a < 256 := hb
    have e8 : ((BitVec.ofNat 8 a).toNat : Int) = (a : Int) := by rw [BitVec.toNat_ofNat, Nat.mod_eq_of_lt hb]
    have K := K.set lt (.cells [AV.int IntKind.i64 0, AV.int IntKind.u8 (a : Nat), AV.int IntKind.i64 0, AV.int IntKind.i64 0, AV.int IntKind.i64 0] 71)
    have ev : AV.agg (syL ⟨0, BitVec.ofNat 8 a, 0, 0, 0⟩) = .agg [AV.int IntKind.i64 0, AV.int IntKind.u8 (a : Nat), AV.int IntKind.i64 0, AV.int IntKind.i64 0, AV.int IntKind.i64 0] := by
      unfold syL; dsimp only; rw [e8]
    simp (maxSteps := 1000000) -implicitDefEqProofs only [go_sem, seval, -List.reduceReplicate, bx1, bx2, w0, w1, look_upd_s, look_upd_o, upd_upd, Option.isSome_some, t5, sp5, beq1, beq2]
    show Eng.Fin _ _ _ _ (OwK (UA r d c b C) (.agg (syL ⟨0, BitVec.ofNat 8 a, 0, 0, 0⟩)) (P2, t2) ns m nx) _
    rw [ev]
    exact K.fin lt D hw _
  | true =>
    have z0 : (bitI true == 0) = false := rfl
    obtain ⟨rd1, R1, Q1, co1⟩ := K.ua.cor
    have hrun2 : run (decM (b.drop 5)) (.bit (192 + C.st) (decide (syZ.k = 2)) fun b => if b then (repP C.st pl syZ.r syZ.l).bind fun q =>
        if q.2 then .ret ((⟨2, 0#8, 1, 0, q.1⟩ : Sy), go1 (front C q.1 (repOf C q.1)) 9 11)
        else (lenP 946 pl syZ.l).bind fun n => .ret (⟨2, 0#8, n, 0, q.1⟩, go1 (front C q.1 (repOf C q.1)) 8 11)
      else (lenP 432 pl syZ.l).bind fun n => (distP n syZ.d).bind fun d => .ret (⟨1, 0#8, n, d, 0⟩, go1 (front C 3 d) 7 10)) P1 t1 = run (decM (b.drop 5)) (if ((decM (b.drop 5)).bit t1 (P1.getD (192 + C.st) 0) (decide (syZ.k = 2))).1 then (repP C.st pl syZ.r syZ.l).bind fun q =>
        if q.2 then .ret ((⟨2, 0#8, 1, 0, q.1⟩ : Sy), go1 (front C q.1 (repOf C q.1)) 9 11)
        else (lenP 946 pl syZ.l).bind fun n => .ret (⟨2, 0#8, n, 0, q.1⟩, go1 (front C q.1 (repOf C q.1)) 8 11)
      else (lenP 432 pl syZ.l).bind fun n => (distP n syZ.d).bind fun d => .ret (⟨1, 0#8, n, d, 0⟩, go1 (front C 3 d) 7 10)) (nxP P1 (192 + C.st) ((decM (b.drop 5)).bit t1 (P1.getD (192 + C.st) 0) (decide (syZ.k = 2))).1) ((decM (b.drop 5)).bit t1 (P1.getD (192 + C.st) 0) (decide (syZ.k = 2))).2 := rfl
    have hN := ubit K.R K.F.lt K.ua K.w (192 + C.st) (by omega) hz (decide (syZ.k = 2))
    try dsimp only at hN ⊢
    rw [if_pos rfl, hrun2]
    generalize (decM (b.drop 5)).bit t1 (P1.getD (192 + C.st) 0) (decide (syZ.k = 2)) = z at *
    obtain ⟨v2, t2⟩ := z
    try dsimp only at hN
    simp (maxSteps := 1000000) -implicitDefEqProofs only [go_sem, seval, -List.reduceReplicate, q1, q2, q3, q4, q5, z0, rd1, co1]
    refine CallG.pk (krep K.R co1 hst) ?_
    simp (maxSteps := 1000000) -implicitDefEqProofs only [go_sem, seval, -List.reduceReplicate, q1, q2, q3, q4, q5]
    refine CallG.weak hN ?_
    rintro v m2 nx2 ⟨rfl, fr2, ns2, k2, hn2⟩
    have K := K.nxt lt fr2 k2 hn2
    have bx2 := K.b2
    have bx1 := K.b1
    try dsimp only at k2 ⊢
    generalize nxP P1 (192 + C.st) v2 = P2 at *
    cases v2 with
    | false =>
      have z1 : (bitI false == 0) = true := rfl
      have K := K.set lt (.cells [AV.int IntKind.i64 1, AV.int IntKind.u8 0, AV.int IntKind.i64 0, AV.int IntKind.i64 0, AV.int IntKind.i64 0] 71)
      have hl := ulength K.R K.F.lt K.ua K.w 432 pl syZ.l (by omega) pl16 hz
      have hb := All.run (decM (b.drop 5)) P2 t2 (lenP_all 432 pl syZ.l)
      simp (maxSteps := 1000000) -implicitDefEqProofs only [go_sem, seval, -List.reduceReplicate, q1, q2, q3, q4, q5, z1, bx2, w1]
      rw [run_bind]
      refine CallG.pk (klens K.R false) ?_
      simp (maxSteps := 1000000) -implicitDefEqProofs only [go_sem, seval, -List.reduceReplicate, q1, q2, q3, q4, q5, bx2, w1]
      refine CallG.weak hl ?_
      generalize run (decM (b.drop 5)) (lenP 432 pl syZ.l) P2 t2 = y at *
      obtain ⟨a, P3, t3⟩ := y
      rintro v m3 nx3 ⟨rfl, fr3, ns3, k3, hn3⟩
      have K := K.nxt lt fr3 k3 hn3
      have bx2 := K.b2
      have hb : 2 ≤ a ∧ a ≤ 273 := hb
      try dsimp only at *
      have K := K.set lt (.cells [AV.int IntKind.i64 1, AV.int IntKind.u8 0, AV.int IntKind.i64 (a : Nat), AV.int IntKind.i64 0, AV.int IntKind.i64 0] 71)
      have hd := udistance K.R K.F.lt K.ua K.w a syZ.d hz hb.1 hb.2
      have hm2 := run_map (decM (b.drop 5)) (distP a syZ.d) (fun d => ((⟨1, 0#8, a, d, 0⟩ : Sy), go1 (front C 3 d) 7 10)) P3 t3
      simp (maxSteps := 1000000) -implicitDefEqProofs only [go_sem, seval, -List.reduceReplicate, bx2, w1, look_upd_s, upd_upd, Option.isSome_some]
      rw [hm2]
      refine CallG.weak hd ?_
      generalize run (decM (b.drop 5)) (distP a syZ.d) P3 t3 = y at *
      obtain ⟨e, P4, t4⟩ := y
      rintro v m4 nx4 ⟨rfl, fr4, ns4, k4, hn4⟩
      have K := K.nxt lt fr4 k4 hn4
      have bx2 := K.b2
      have bx1 := K.b1
      try dsimp only at *
      have K := K.set lt (.cells [AV.int IntKind.i64 1, AV.int IntKind.u8 0, AV.int IntKind.i64 (a : Nat), AV.int IntKind.i64 (e : Nat), AV.int IntKind.i64 0] 71)
      simp (maxSteps := 1000000) -implicitDefEqProofs only [go_sem, seval, -List.reduceReplicate, bx1, bx2, w0, w1, look_upd_s, look_upd_o, upd_upd, Option.isSome_some, t5, sp5, beq1, beq2]
      exact K.fin lt D hw _
    | true =>
      have z1 : (bitI true == 0) = false := rfl
      obtain ⟨w, hw3⟩ : ∃ w : Nat → Bool, w = fun j => if j = 2 then decide (syZ.r > 0) else if j = 1 then decide (syZ.r > 1) else decide (syZ.r > 2) := ⟨_, rfl⟩
      have hrp : run (decM (b.drop 5)) (repP C.st pl syZ.r syZ.l) P2 t2 = run (decM (b.drop 5)) (if (run (decM (b.drop 5)) (repJ C.st w 3) P2 t2).1 = 0 then .bit (240 + 16 * C.st + pl) (decide (syZ.l > 1)) fun b => .ret ((0 : Nat), !b) else .ret ((run (decM (b.drop 5)) (repJ C.st w 3) P2 t2).1, false)) (run (decM (b.drop 5)) (repJ C.st w 3) P2 t2).2.1 (run (decM (b.drop 5)) (repJ C.st w 3) P2 t2).2.2 := by
        rw [repP_J, run_bind, ← hw3]
      have K := K.set lt (.cells [AV.int IntKind.i64 2, AV.int IntKind.u8 0, AV.int IntKind.i64 0, AV.int IntKind.i64 0, AV.int IntKind.i64 0] 71)
      have hr := urepeat K.R K.F.lt K.ua K.w w hst hz
      simp (maxSteps := 1000000) -implicitDefEqProofs only [go_sem, seval, -List.reduceReplicate, q1, q2, q3, q4, q5, z1, bx2, w1]
      rw [run_bind, hrp]
      refine CallG.weak hr ?_
      generalize run (decM (b.drop 5)) (repJ C.st w 3) P2 t2 = y at *
      obtain ⟨n, P3, t3⟩ := y
      rintro v m3 nx3 ⟨rfl, fr3, ns3, k3, hn3⟩
      have K := K.nxt lt fr3 k3 hn3
      have bx2 := K.b2
      have bx1 := K.b1
      try dsimp only at *
      have K := K.set lt (.cells [AV.int IntKind.i64 2, AV.int IntKind.u8 0, AV.int IntKind.i64 0, AV.int IntKind.i64 0, AV.int IntKind.i64 (n : Nat)] 71)
      have K := K.set lt (.cells [AV.int IntKind.i64 2, AV.int IntKind.u8 0, AV.int IntKind.i64 1, AV.int IntKind.i64 0, AV.int IntKind.i64 (n : Nat)] 71)
      rw [upd_upd] at K
      obtain ⟨rd3, R3, Q3, co3⟩ := K.ua.cor
      have tail : ∀ (P4 : List (BitVec 16)) (t4 : DS), True := fun _ _ => trivial
      by_cases hn0 : n = 0
      · have y0 : (((n : Nat) : Int) == 0) = true := by simp [hn0]
        rw [if_pos hn0]
        have hN2 := ubit K.R K.F.lt K.ua K.w (240 + 16 * C.st + pl) (by omega) hz (decide (syZ.l > 1))
        have hrun3 : run (decM (b.drop 5)) (.bit (240 + 16 * C.st + pl) (decide (syZ.l > 1)) fun b => .ret ((0 : Nat), !b)) P3 t3 = ((0, !((decM (b.drop 5)).bit t3 (P3.getD (240 + 16 * C.st + pl) 0) (decide (syZ.l > 1))).1), nxP P3 (240 + 16 * C.st + pl) ((decM (b.drop 5)).bit t3 (P3.getD (240 + 16 * C.st + pl) 0) (decide (syZ.l > 1))).1, ((decM (b.drop 5)).bit t3 (P3.getD (240 + 16 * C.st + pl) 0) (decide (syZ.l > 1))).2) := rfl
        rw [hrun3]
        generalize (decM (b.drop 5)).bit t3 (P3.getD (240 + 16 * C.st + pl) 0) (decide (syZ.l > 1)) = z at *
        obtain ⟨v3, t4⟩ := z
        try dsimp only at hN2 ⊢
        simp (maxSteps := 1000000) -implicitDefEqProofs only [go_sem, seval, -List.reduceReplicate, bx2, w1, look_upd_s, upd_upd, Option.isSome_some, y0, rd3, co3]
        refine CallG.pk (klong K.R co3 hst pl pl16) ?_
        simp (maxSteps := 1000000) -implicitDefEqProofs only [go_sem, seval, -List.reduceReplicate]
        refine CallG.weak hN2 ?_
        rintro v m4 nx4 ⟨rfl, fr4, ns4, k4, hn4⟩
        have K := K.nxt lt fr4 k4 hn4
        have bx2 := K.b2
        have bx1 := K.b1
        try dsimp only at k4
        generalize nxP P3 (240 + 16 * C.st + pl) v3 = P4 at *
        subst hn0
        cases v3 with
        | false =>
          have z2 : (bitI false == 0) = true := rfl
          simp (maxSteps := 1000000) -implicitDefEqProofs only [go_sem, seval, -List.reduceReplicate, z2, bx1, bx2, w0, w1, look_upd_s, look_upd_o, upd_upd, Option.isSome_some, t5, sp5, beq1, beq2]
          exact K.fin lt D hw _
        | true =>
          have z2 : (bitI true == 0) = false := rfl
          have hl := ulength K.R K.F.lt K.ua K.w 946 pl syZ.l (by omega) pl16 hz
          have hm2 := run_map (decM (b.drop 5)) (lenP 946 pl syZ.l) (fun n => ((⟨2, 0#8, n, 0, 0⟩ : Sy), go1 (front C 0 (repOf C 0)) 8 11)) P4 t4
          simp (maxSteps := 1000000) -implicitDefEqProofs only [go_sem, seval, -List.reduceReplicate, z2, bx2, w1]
          rw [hm2]
          refine CallG.pk (klens K.R true) ?_
          simp (maxSteps := 1000000) -implicitDefEqProofs only [go_sem, seval, -List.reduceReplicate]
          refine CallG.weak hl ?_
          generalize run (decM (b.drop 5)) (lenP 946 pl syZ.l) P4 t4 = y at *
          obtain ⟨a, P5, t5'⟩ := y
          rintro v m5 nx5 ⟨rfl, fr5, ns5, k5, hn5⟩
          have K := K.nxt lt fr5 k5 hn5
          have bx2 := K.b2
          have bx1 := K.b1
          try dsimp only at *
          have K := K.set lt (.cells [AV.int IntKind.i64 2, AV.int IntKind.u8 0, AV.int IntKind.i64 (a : Nat), AV.int IntKind.i64 0, AV.int IntKind.i64 0] 71)
          simp (maxSteps := 1000000) -implicitDefEqProofs only [go_sem, seval, -List.reduceReplicate, bx1, bx2, w0, w1, look_upd_s, look_upd_o, upd_upd, Option.isSome_some, t5, sp5, beq1, beq2]
          exact K.fin lt D hw _
      · have y0 : (((n : Nat) : Int) == 0) = false := by simp [hn0]
        rw [if_neg hn0]
        have hl := ulength K.R K.F.lt K.ua K.w 946 pl syZ.l (by omega) pl16 hz
        have hm2 := run_map (decM (b.drop 5)) (lenP 946 pl syZ.l) (fun a => ((⟨2, 0#8, a, 0, ((n : Nat) : Int)⟩ : Sy), go1 (front C n (repOf C n)) 8 11)) P3 t3
        have hr0 : run (decM (b.drop 5)) (.ret (n, false)) P3 t3 = ((n, false), P3, t3) := rfl
        rw [hr0]
        simp (maxSteps := 1000000) -implicitDefEqProofs only [go_sem, seval, -List.reduceReplicate, bx2, w1, look_upd_s, upd_upd, Option.isSome_some, y0]
        rw [hm2]
        refine CallG.pk (klens K.R true) ?_
        simp (maxSteps := 1000000) -implicitDefEqProofs only [go_sem, seval, -List.reduceReplicate]
        refine CallG.weak hl ?_
        generalize run (decM (b.drop 5)) (lenP 946 pl syZ.l) P3 t3 = y at *
        obtain ⟨a, P5, t5'⟩ := y
        rintro v m5 nx5 ⟨rfl, fr5, ns5, k5, hn5⟩
        have K := K.nxt lt fr5 k5 hn5
        have bx2 := K.b2
        have bx1 := K.b1
        try dsimp only at *
        have K := K.set lt (.cells [AV.int IntKind.i64 2, AV.int IntKind.u8 0, AV.int IntKind.i64 (a : Nat), AV.int IntKind.i64 0, AV.int IntKind.i64 (n : Nat)] 71)
        simp (maxSteps := 1000000) -implicitDefEqProofs only [go_sem, seval, -List.reduceReplicate, bx1, bx2, w0, w1, look_upd_s, look_upd_o, upd_upd, Option.isSome_some, t5, sp5, beq1, beq2]
        exact K.fin lt D hw _
end
end Go.Proofs.Ytmdeoikpiiambaa
end
section
/- What was coded is read, with dictionaries and numbers of bytes: no program in sight. BRIEF -/
set_option linter.unusedVariables false
set_option linter.unusedSimpArgs false
set_option maxRecDepth 100000
namespace Go.Proofs.Ytmdeoikpiiambaa
open Go Go.Eng

/-- the reader is never out -/
def Nout (D : List (BitVec 8)) (L : List Ded) (t : DS) : Prop := ∀ j, ((L.take j).foldl (stepD D) t).o = false
theorem Nout.app {D : List (BitVec 8)} {a b : List Ded} {t : DS} (h : Nout D (a ++ b) t) : Nout D a t ∧ Nout D b (a.foldl (stepD D) t) := by
  refine ⟨fun j => ?_, fun j => ?_⟩
  · have := h (min j a.length)
    rw [List.take_append_of_le_length (Nat.min_le_right _ _)] at this
    by_cases hj : j ≤ a.length
    · rw [Nat.min_eq_left hj] at this; exact this
    · rw [Nat.min_eq_right (by omega), List.take_length] at this
      rw [List.take_of_length_le (by omega)]; exact this
  · have := h (a.length + j)
    rw [List.take_append, List.take_of_length_le (by omega), List.foldl_append, Nat.add_sub_cancel_left] at this
    exact this
theorem Nout.all {D : List (BitVec 8)} {a : List Ded} {t : DS} (h : Nout D a t) : (a.foldl (stepD D) t).o = false := by
  have := h a.length
  rw [List.take_length] at this; exact this
theorem told_nout (a : List Cmd) (P : List (BitVec 16)) (hb : boundL a) {F : List (BitVec 8)} (hF : (told rencM a P newR).2.low = F) (h4 : 4 ≤ F.length) : Nout (F.drop 4) (deeds a P) (start (0#8 :: F)) := by
  have ht := (told_deeds a P (newS, newR) hb).2
  have e1 := runE_foldl (deeds a P) _ (Nat.le_refl _)
  rw [List.take_length] at e1
  have hF' : (runE (deeds a P) (deeds a P).length).2.low = F := by rw [e1, ← ht]; exact hF
  subst hF'
  have hA : Agr (runE (deeds a P) (deeds a P).length).2.low ((runE (deeds a P) (deeds a P).length).2.low.drop 4) := fun i hi => ⟨by rw [List.length_drop]; omega, by simp [List.getD_eq_getElem?_getD, Nat.add_comm]⟩
  have h0 := start_dr (0#8 :: (runE (deeds a P) (deeds a P).length).2.low) (runE (deeds a P) (deeds a P).length).2.low h4 (fun i _ => rfl)
  have key : ∀ j, j ≤ (deeds a P).length → (((deeds a P).take j).foldl (stepD ((runE (deeds a P) (deeds a P).length).2.low.drop 4)) (start (0#8 :: (runE (deeds a P) (deeds a P).length).2.low))).o = false := fun j hj => by
    rw [← runD_foldl _ _ _ _ hj]
    obtain ⟨o, k, r, c⟩ := dr_all (deeds a P) (deeds a P).length hA h0 j hj
    exact o
  intro j
  by_cases hj : j ≤ (deeds a P).length
  · exact key j hj
  · have := key _ (Nat.le_refl _)
    rw [List.take_length] at this
    rw [List.take_of_length_le (by omega)]; exact this
/-- how many bytes a symbol stands for -/
def lenS (y : Sy) : Nat := if y.k = 0 then 1 else y.l.toNat
theorem fits_len {C : MC} {n : Nat} {y : Sy} (h : fitsB C n y = true) : 1 ≤ lenS y ∧ lenS y ≤ 273 ∧ (y.k ≠ 0 → (lenS y : Int) = y.l) := by
  unfold fitsB at h
  unfold lenS
  by_cases h0 : y.k = 0
  · rw [if_pos h0]; exact ⟨by decide, by decide, fun e => absurd h0 e⟩
  rw [if_neg h0] at h ⊢
  by_cases h1 : y.k = 1
  · rw [if_pos h1] at h
    simp only [Bool.and_eq_true, decide_eq_true_eq] at h
    exact ⟨by omega, by omega, fun _ => by omega⟩
  rw [if_neg h1] at h
  by_cases h2 : y.k = 2
  · rw [if_pos h2] at h
    simp only [Bool.and_eq_true, Bool.or_eq_true, decide_eq_true_eq] at h
    exact ⟨by omega, by omega, fun _ => by omega⟩
  · rw [if_neg h2] at h; cases h
theorem grow_len (h : List (BitVec 8)) (y : Sy) (d : Nat) : (growS h y d).length = h.length + lenS y := by
  unfold growS lenS
  split
  · rw [List.length_append]; rfl
  · rw [growN_len]
theorem bec_r0 {C : MC} {n : Nat} {y : Sy} (h : fitsB C n y = true) (hk : y.k ≠ 0) : (becC C y).r0 = distN C y := by
  rcases fitsB_kind h with h0 | ⟨h1, h2⟩ | ⟨h1, h2⟩
  · exact absurd h0 hk
  · unfold becC distN distS
    rw [if_neg hk, if_pos h1, if_pos h1]; rfl
  · unfold becC distN distS
    have n1 : ¬ y.k = 1 := by omega
    rw [if_neg hk, if_neg n1, if_neg n1, if_pos h1, Int.toNat_natCast]
    have hf : ∀ p d, (front C p d).r0 = d := fun p d => by
      unfold front
      split
      · rfl
      · split
        · rfl
        · split <;> rfl
    split <;> exact hf _ _
/-- one symbol -/
theorem rdU_step {D : List (BitVec 8)} {C : MC} {h : List (BitVec 8)} {z : Sy} {P : List (BitVec 16)} {t : DS} (hC : MCok C) (hs : Syn D (deeds (cmds (symP C h z)).2 P) t) (ho : Nout D (deeds (cmds (symP C h z)).2 P) t) (hf : fitsB C h.length z = true) (hp : plainS z = z) (en : Nat) (dict : Int) (f : Nat) (hlt : h.length < en) :
    rdU D en dict (f + 1) C P t h = if z.k ≠ 0 ∧ ((distN C z : Int) > dict ∨ (lenS z : Int) > (en : Int) - (h.length : Int)) then none else rdU D en dict f (becC C z) (chs (cmds (symP C h z)).2 P) ((deeds (cmds (symP C h z)).2 P).foldl (stepD D) t) (growS h z (distN C z)) := by
  have hr := run_dec D 24 (symP C h z) P t (symP_le _ _ _) hs
  have e : run (decM D) (symP C h syZ) P t = ((z, becC C z), chs (cmds (symP C h z)).2 P, (deeds (cmds (symP C h z)).2 P).foldl (stepD D) t) := by
    rw [(symP_alike C h syZ z).dec D, hr, symP_val _ _ _ hf, hp]
  rw [rdU, if_pos hlt, e]
  dsimp only
  rw [if_neg (by rw [ho.all]; decide)]
  by_cases hk : z.k = 0
  · rw [if_pos hk, if_neg (fun e => e.1 hk)]
    have : growS h z (distN C z) = h ++ [z.b] := if_pos hk
    rw [this]
  · rw [if_neg hk, bec_r0 hf hk]
    obtain ⟨l1, l2, l3⟩ := fits_len hf
    have l3 := l3 hk
    obtain ⟨d1, d2, d3⟩ := distN_eq hC hf
    have d2 := d2.resolve_left hk
    have hg : growS h z (distN C z) = growN h (distN C z) z.l.toNat := if_neg hk
    by_cases hb : (distN C z : Int) > dict ∨ (lenS z : Int) > (en : Int) - (h.length : Int)
    · have hL : (distN C z : Int) > (h.length : Int) ∨ (distN C z : Int) > dict ∨ z.l > (en : Int) - (h.length : Int) := by
        rcases hb with hb | hb
        · exact .inr (.inl hb)
        · exact .inr (.inr (by rw [← l3]; exact hb))
      have hR : z.k ≠ 0 ∧ ((distN C z : Int) > dict ∨ (lenS z : Int) > (en : Int) - (h.length : Int)) := ⟨hk, hb⟩
      rw [if_pos hL, if_pos hR]
    · have hL : ¬ ((distN C z : Int) > (h.length : Int) ∨ (distN C z : Int) > dict ∨ z.l > (en : Int) - (h.length : Int)) := by
        rintro (hx | hx | hx)
        · omega
        · exact hb (.inl hx)
        · exact hb (.inr (by rw [l3]; exact hx))
      have hR : ¬ (z.k ≠ 0 ∧ ((distN C z : Int) > dict ∨ (lenS z : Int) > (en : Int) - (h.length : Int))) := fun e => hb e.2
      rw [if_neg hL, if_neg hR, hg]
def farA : MC → List (BitVec 8) → Nat → List Sy → Nat
  | C, h, a, [] => a
  | C, h, a, z :: T => farA (becC C z) (growS h z (distN C z)) (max a (distN C z)) T
theorem farA_ge : ∀ (T : List Sy) (C : MC) (h : List (BitVec 8)) (a : Nat), a ≤ farA C h a T
  | [], C, h, a => Nat.le_refl _
  | z :: T, C, h, a => Nat.le_trans (Nat.le_max_left _ _) (farA_ge T _ _ _)
theorem walk_len : ∀ (T : List Sy) (C : MC) (h : List (BitVec 8)), fitA C h T → h.length + T.length ≤ (walkS C h T).2.length ∧ (walkS C h T).2.length ≤ h.length + 273 * T.length
  | [], C, h, _ => ⟨Nat.le_refl _, Nat.le_refl _⟩
  | z :: T, C, h, hf => by
    obtain ⟨f1, f2, f3⟩ := hf
    obtain ⟨a, b⟩ := walk_len T _ _ f3
    rw [grow_len] at a b
    obtain ⟨l1, l2, _⟩ := fits_len f1
    rw [List.length_cons]
    show _ ≤ (walkS (becC C z) (growS h z (distN C z)) T).2.length ∧ (walkS (becC C z) (growS h z (distN C z)) T).2.length ≤ _
    omega
/-- all is read -/
theorem rdU_good {D : List (BitVec 8)} (dict : Int) : ∀ (T : List Sy) (C : MC) (h : List (BitVec 8)) (P : List (BitVec 16)) (t : DS) (a f : Nat), MCok C → fitA C h T → Syn D (deeds (cmdA C h T) P) t → Nout D (deeds (cmdA C h T) P) t → (walkS C h T).2.length ≤ 1000000 → (farA C h a T : Int) ≤ dict → T.length ≤ f → ∀ en, en = (walkS C h T).2.length →
    rdU D en dict f C P t h = some ((walkS C h T).1, chs (cmdA C h T) P, (deeds (cmdA C h T) P).foldl (stepD D) t, (walkS C h T).2)
  | [], C, h, P, t, a, f, hC, hf, hs, ho, hl, hd, hT, en, he => by
    have hn : ¬ h.length < en := by rw [he]; exact Nat.lt_irrefl _
    cases f with
    | zero => rw [rdU, if_neg hn]; rfl
    | succ f => rw [rdU, if_neg hn]; rfl
  | z :: T, C, h, P, t, a, f, hC, hf, hs, ho, hl, hd, hT, en, he => by
    have hw := walk_len (z :: T) C h hf
    obtain ⟨f1, f2, f3⟩ := hf
    rw [List.length_cons] at hT hw
    obtain ⟨f', rfl⟩ : ∃ f', f = f' + 1 := ⟨f - 1, by omega⟩
    rw [cmdA, deeds_app] at hs ho
    have hw3 := walk_len T _ _ f3
    rw [grow_len] at hw3
    have he' : en = (walkS (becC C z) (growS h z (distN C z)) T).2.length := he
    rw [rdU_step hC hs.app.1 ho.app.1 f1 f2 en dict f' (by omega), if_neg]
    · rw [rdU_good dict T _ _ _ _ (max a (distN C z)) f' (becC_ok hC f1 (by omega)).1 f3 hs.app.2 ho.app.2 hl hd (by omega) en he']
      show _ = some ((walkS (becC C z) (growS h z (distN C z)) T).1, chs (_ ++ _) P, (deeds (_ ++ _) P).foldl (stepD D) t, (walkS (becC C z) (growS h z (distN C z)) T).2)
      rw [chs_app, deeds_app, List.foldl_append]
    · rintro ⟨_, hx | hx⟩
      · have h1 := farA_ge T (becC C z) (growS h z (distN C z)) (max a (distN C z))
        have hd : (farA (becC C z) (growS h z (distN C z)) (max a (distN C z)) T : Int) ≤ dict := hd
        omega
      · omega
end Go.Proofs.Ytmdeoikpiiambaa
end
section
/- The document's reader of symbols: bytes are read. BRIEF -/
set_option linter.unusedVariables false
set_option linter.unusedSimpArgs false
set_option maxRecDepth 100000
namespace Go.Proofs.Ytmdeoikpiiambaa
open Go Go.Eng

/-- the coder that a symbol leaves -/
theorem symP_bec (C : MC) (h : List (BitVec 8)) (s : Sy) : All (fun q => q.2 = becC C q.1) (symP C h s) := by
  intro b
  cases b with
  | false => exact All.bind (Q := fun _ => True) (fun a _ => by show litGo C = becC C ⟨0, BitVec.ofNat 8 a, 0, 0, 0⟩; unfold becC; rw [if_pos rfl]) ((litP_all C h _).mono fun _ _ => trivial)
  | true =>
    intro b
    cases b with
    | false =>
      refine All.bind (fun n hn => All.bind (Q := fun _ => True) (fun d _ => ?_) ((distP_all n s.d).mono fun _ _ => trivial)) (lenP_all 432 _ s.l)
      show go1 (front C 3 d) 7 10 = becC C ⟨1, 0, n, d, 0⟩
      unfold becC
      rw [if_neg (show ¬ (1 : Int) = 0 by decide), if_pos rfl]; rfl
    | true =>
      refine All.bind (Q := fun _ => True) (fun q _ => ?_) ((repP_all _ _ s.r s.l).mono fun _ _ => trivial)
      have n0 : ¬ (2 : Int) = 0 := by decide
      have n1 : ¬ (2 : Int) = 1 := by decide
      split
      · show go1 (front C q.1 (repOf C q.1)) 9 11 = becC C ⟨2, 0, 1, 0, q.1⟩
        unfold becC
        rw [if_neg n0, if_neg n1, if_pos rfl]; rfl
      · refine All.bind (fun n hn => ?_) (lenP_all 946 _ s.l)
        show go1 (front C q.1 (repOf C q.1)) 8 11 = becC C ⟨2, 0, n, 0, q.1⟩
        have hn : 2 ≤ n ∧ n ≤ 273 := hn
        unfold becC
        rw [if_neg n0, if_neg n1, if_neg (by show ¬ ((n : Nat) : Int) = 1; omega)]; rfl
theorem SyOk.kind {y : Sy} (h : SyOk y) : y.k = 0 ∨ (y.k = 1 ∧ 1 ≤ y.d) ∨ (y.k = 2 ∧ 0 ≤ y.r ∧ y.r < 4) := by
  rcases h with ⟨h, _⟩ | ⟨h, h1, h2, h3, _⟩ | ⟨h, h1, h2, h3, h4, h5, _⟩
  · exact .inl h
  · exact .inr (.inl ⟨h, h3⟩)
  · exact .inr (.inr ⟨h, h4, h5⟩)
theorem sy_r0 {C : MC} {y : Sy} (h : SyOk y) : (y.k = 0 ∧ distS C y = 0 ∧ y.l = 0) ∨ (y.k ≠ 0 ∧ distS C y = ((becC C y).r0 : Int) ∧ 1 ≤ y.l ∧ y.l ≤ 273) := by
  have hf : ∀ p d, (front C p d).r0 = d := fun p d => by
    unfold front
    split
    · rfl
    · split
      · rfl
      · split <;> rfl
  rcases h with ⟨h, hl, _⟩ | ⟨h, h1, h2, h3, h4, _⟩ | ⟨h, h1, h2, h3, h4, h5, _⟩
  · refine .inl ⟨h, ?_, hl⟩
    unfold distS; rw [if_neg (by omega), if_neg (by omega)]
  · refine .inr ⟨by omega, ?_, by omega, h2⟩
    unfold distS becC
    rw [if_pos h, if_neg (by omega), if_pos h]
    show y.d = ((front C 3 y.d.toNat).r0 : Int)
    rw [hf]; omega
  · refine .inr ⟨by omega, ?_, h1, h2⟩
    have n0 : ¬ y.k = 0 := by omega
    have n1 : ¬ y.k = 1 := by omega
    unfold distS becC
    rw [if_neg n1, if_pos h, if_neg n0, if_neg n1]
    split <;> (show _ = ((front C y.r.toNat (repOf C y.r.toNat)).r0 : Int); rw [hf])
theorem kbecZ {Z : Rid} {wr : Nat → Bool} {m : Mem} {nx c : Nat} {C : MC} {P : List (BitVec 16)} {ns : List Nat} (D : Rdm wr m nx) (lt : ∀ p ∈ m, p.1 < nx) (H : KD Z c C m P ns) (hw : ∀ k ∈ ns, wr k = true) (hC : MCok C) (y : Sy) (hy : SyOk y) :
    CallG false Try.prog 53 [.ptr c 0, .agg (syL y)] wr m nx (OwK (KD Z c (becC C y)) (.tup []) P ns m nx) := by
  obtain ⟨r, rc, q, qc, rs, qs, ne, rfl, hd, he, n1, n2, n3⟩ := H
  rcases hy.kind with h | ⟨h, h1⟩ | ⟨h, h1⟩
  · exact kbec0 D lt hw hd he n1 n2 n3 hC.st y h
  · exact kbec1 D lt hw hd he n1 n2 n3 hC.st y h (by omega)
  · exact kbec2 D lt hw hd he n1 n2 n3 hC y h h1
/-- the coder alone -/
theorem UA.kd {r d c : Nat} {b : List (BitVec 8)} {C : MC} {m : Mem} {P : List (BitVec 16)} {t : DS} {ns : List Nat} (H : UA r d c b C m (P, t) ns) : ∃ nd, KD noR c C m P nd ∧ (∀ k ∈ nd, k ∈ ns) ∧ r ∉ nd ∧ d ∉ nd := by
  obtain ⟨e, rc, q, qc, rs, qs, rfl, U⟩ := H
  refine ⟨[c, e, q], ⟨e, rc, q, qc, rs, qs, [], rfl, U.co, rfl, (fun h => by cases h), (fun h => by cases h), fun h => by cases h⟩, fun k hk => by simp at hk ⊢; omega, ?_, ?_⟩
  · have := U.n2; simp; omega
  · have := U.n3; simp; omega
theorem UA.other {r d c : Nat} {b : List (BitVec 8)} {C C' : MC} {m m' : Mem} {P : List (BitVec 16)} {t : DS} {ns nd : List Nat} (H : UA r d c b C m (P, t) ns) (K : KD noR c C' m' P nd) (kr : ∀ o, Eng.look m r = some o → Eng.look m' r = some o) (kd : ∀ o, Eng.look m d = some o → Eng.look m' d = some o) (h1 : r ∉ nd) (h2 : d ∉ nd) : ∃ ns', UA r d c b C' m' (P, t) ns' ∧ ∀ k ∈ ns', k ∈ ns ∨ k ∈ nd := by
  obtain ⟨e, rc, q, qc, rs, qs, rfl, U⟩ := H
  obtain ⟨e', rc', q', qc', rs', qs', ne, rfl, hd, rfl, _⟩ := K
  simp at h1 h2
  exact ⟨[r, d, c, e', q'], ⟨e', rc', q', qc', rs', qs', rfl, ⟨kr _ U.rd, kd _ U.dq, hd, U.n1, ⟨h1.1, h1.2.1, h1.2.2⟩, ⟨h2.1, h2.2.1, h2.2.2⟩, U.b1, U.b2, U.ok⟩⟩, fun k hk => by simp at hk ⊢; omega⟩
/-- the call's end -/
def UrdK (r d c : Nat) (b h : List (BitVec 8)) (x : Option (MC × List (BitVec 16) × DS × List (BitVec 8))) (ns : List Nat) (m : Mem) (nx : Nat) : Kv := fun v m' nx' => Fr ns m nx m' nx' ∧ match x with
  | none => v = .tup [.nils, .bool false]
  | some (C', P', t', all) => ∃ s os ns', v = .tup [s, .bool true] ∧ ByAt 5 m' s (all.drop h.length) os ∧ (∀ k ∈ os, nx ≤ k) ∧ UA r d c b C' m' (P', t') ns' ∧ ∀ k ∈ ns', k ∈ ns ∨ nx ≤ k
structure VI (r d c : Nat) (b : List (BitVec 8)) (ns : List Nat) (m : Mem) (nx : Nat) (h : List (BitVec 8)) (en : Nat) (dict : Int) (many : Nat) (x : Option (MC × List (BitVec 16) × DS × List (BitVec 8))) (i : Nat) (g : UG) : Prop where
  U : UA r d c b g.C g.M (g.P, g.t) g.ns
  hi : ByAt 5 g.M g.v g.all g.vs
  F : Fr ns m nx g.M g.n
  nr : g.v ≠ .ro g.all.length (bvs .u8 g.all)
  vn : ∀ k ∈ g.vs, nx ≤ k
  sn : ∀ k ∈ g.ns, k ∈ ns ∨ nx ≤ k
  dn : ∀ k ∈ g.vs, k ∉ g.ns
  r : rdU (b.drop 5) en dict (many - i) g.C g.P g.t g.all = x
  l1 : h.length + i ≤ g.all.length
  l2 : g.all.length ≤ en
  C : MCok g.C
section
variable {wr : Nat → Bool} {m : Mem} {nx r d c : Nat} {b : List (BitVec 8)} {hv : AV} {h : List (BitVec 8)} {hs : List Nat} {C : MC} {P : List (BitVec 16)} {t : DS} {ns : List Nat}
set_option maxHeartbeats 8000000 in
theorem uread (R : Rdm wr m nx) (lt : ∀ p ∈ m, p.1 < nx) (H : UA r d c b C m (P, t) ns) (hi : ByAt 5 m hv h hs) (hC : MCok C) (hw : ∀ k ∈ ns, wr k = true) (many : Nat) (dict : Int) (hh : h.length + many ≤ 500000000) (hd1 : 1 ≤ dict) :
    CallG false Try.prog 61 [.ptr r 0, hv, .int .i64 (many : Nat), .int .i64 dict] wr m nx (UrdK r d c b h (rdU (b.drop 5) (h.length + many) dict many C P t h) ns m nx) := by
  refine fn_okG Try.func61 rfl (by show 4 ≤ _; decide) ?_
  have G1 := Gr.cons R.nd lt (.cells [] 5)
  obtain ⟨q1, q2, q3, q4, q5⟩ := hi.facts
  have q6 := hi.len Try.prog 22
  have zs := (hi.grow G1).src
  simp only [srcx, Nat.mul_one, Eng.look] at zs
  simp (maxSteps := 1000000) -implicitDefEqProofs only [go_sem, seval, -List.reduceReplicate, Try.results61, Try.ntmps61, q1, q2, q3, q4, q5, q6, zs, one1_bvs]
  have r0 : ByAt 5 ((nx, .cells [] 5) :: m) (.sl nx 0 0 0) [] [nx] := .row (X := []) (sp := []) rfl (by rw [look_cons, if_pos rfl]; rfl) rfl (by decide) rfl
  refine ⟨.inr trivial, ?_⟩
  refine appk_by (Y := h) r0 (fun e => by cases e) G1.nd (fun n hn => R.wn n (by omega)) G1.lt (fun k hk => R.wn k (by cases List.mem_singleton.1 hk; omega)) (by rw [List.length_nil]; omega) ?_
  intro v1 m1 nx1 ns1 b1 b2 b3 b4 b5 b6 b7 b8
  rw [List.nil_append] at b1 b2
  have n1 : ∀ k ∈ ns1, nx ≤ k := fun k hk => by
    rcases b4 k hk with h | h
    · cases List.mem_singleton.1 h; exact Nat.le_refl _
    · omega
  have g1 : Gr m nx m1 nx1 := gr_app G1 lt (ns1 := [nx]) (fun k hk => by cases List.mem_singleton.1 hk; omega) b3 b5 b6 b7
  have wE : IntKind.i64.wrap (((h.length : Nat) : Int) + ((many : Nat) : Int)) = ((h.length + many : Nat) : Int) := by rw [wrap_i64] <;> omega
  have lts := H.lt lt
  simp (maxSteps := 1000000) -implicitDefEqProofs only [go_sem, seval, -List.reduceReplicate, q1, q2, q3, q4, q5, q6, wE]
  refine LoopOk.upX (VI r d c b ns m nx h (h.length + many) dict many (rdU (b.drop 5) (h.length + many) dict many C P t h)) many
    (fun i g => ([(11, .int .i64 ((h.length + many : Nat) : Int)), (10, g.v), (9, .bool false), (8, .nils), (0, .ptr r 0), (1, hv), (2, .int .i64 (many : Nat)), (3, .int .i64 dict)], g.M, g.n)) ⟨C, P, t, h, v1, ns1, ns, m1, nx1⟩
    ⟨H.ext (fun k _ => g1.kp k), b1, Fr.gr g1, b2, n1, fun k hk => .inl hk, fun k hk hm => by have := n1 k hk; have := lts k hm; omega, rfl, Nat.le_refl _, Nat.le_add_right _ _, hC⟩ ((g1.rdm R).leN g1.le ⟨rfl, rfl, rfl, rfl, rfl, rfl, rfl, rfl, trivial⟩) ?_
  rintro i g ⟨hi2, I⟩
  have RM := I.F.rdm R hw
  have hi' : i ≤ many := hi2
  obtain ⟨p1, p2, p3, p4, p5⟩ := I.hi.facts
  have p6 := I.hi.len Try.prog 22
  have l1 := I.l1
  have l2 := I.l2
  by_cases hlt : g.all.length < h.length + many
  · have c1 : decide (((g.all.length : Nat) : Int) < ((h.length + many : Nat) : Int)) = true := decide_eq_true (by omega)
    have hww := wrT R hw I.sn
    have hz : szP g.C ≤ 1000000000 := by unfold szP; have := I.C.lc; have : 2 ^ (g.C.lc + g.C.lp) ≤ 2 ^ 4 := Nat.pow_le_pow_right (by decide) this; omega
    have hsym := usymbol RM I.F.lt I.U hww I.hi (by omega) I.dn I.C hz
    have hr := I.r
    obtain ⟨f, hf⟩ : ∃ f, many - i = f + 1 := ⟨many - i - 1, by omega⟩
    rw [hf, rdU, if_pos hlt] at hr
    obtain ⟨hsy, hCm, hkin⟩ := All.run (decM (b.drop 5)) g.P g.t (symP_all I.C g.all syZ)
    have hbec := All.run (decM (b.drop 5)) g.P g.t (symP_bec g.C g.all syZ)
    generalize run (decM (b.drop 5)) (symP g.C g.all syZ) g.P g.t = z at *
    obtain ⟨⟨y, C2⟩, P2, t2⟩ := z
    dsimp only at hr hsy hCm hbec
    subst hbec
    have sp5 : ∀ a b d e f : AV, spl [AV.int IntKind.i64 0, AV.int IntKind.u8 0, AV.int IntKind.i64 0, AV.int IntKind.i64 0, AV.int IntKind.i64 0] 0 [a, b, d, e, f] = [a, b, d, e, f] := fun _ _ _ _ _ => rfl
    have t5 : ∀ a b d e f : AV, List.take 5 [a, b, d, e, f] = [a, b, d, e, f] := fun _ _ _ _ _ => rfl
    simp (maxSteps := 1000000) -implicitDefEqProofs only [go_sem, seval, -List.reduceReplicate, p1, p2, p3, p4, p5, p6, c1]
    refine CallG.weak hsym ?_
    rintro v m2 n2 ⟨rfl, fr2, ns2, U2, hn2⟩
    have R2 := fr2.rdm RM hww
    have n2l := fr2.le
    have Fl := I.F.le
    have w2 : wr n2 = true := R.wn n2 (by omega)
    have gA := Gr.cons R2.nd fr2.lt (.cells (syL y) 71)
    have RA := gA.rdm R2
    have UA2 : UA r d c b g.C _ (P2, t2) ns2 := U2.ext (fun k _ => gA.kp k)
    have F2 := I.F.trans fr2 lt I.sn
    have FA : Fr ns m nx ((n2, .cells (syL y) 71) :: m2) (n2 + 1) := F2.trans (Fr.gr (ns := []) gA) lt (fun k hk => by cases hk)
    have bxA : Eng.look ((n2, AObj.cells (syL y) 71) :: m2) n2 = some (.cells (syL y) 71) := look_c0 _ _ _
    have sn2 := subT I.sn hn2 I.F.le
    have hi2' : ByAt 5 m2 g.v g.all g.vs := I.hi.ext fun k hk o ho => fr2.kp k o (I.dn k hk) ho
    have hiA := hi2'.grow gA
    have lvs := hi2'.lt fr2.lt
    have dn2 : ∀ k ∈ g.vs, k ∉ ns2 := dis_step I.dn hn2 (I.hi.lt I.F.lt)
    obtain ⟨rdA, RR, QQ, coA⟩ := UA2.cor
    obtain ⟨wdA, dqA, _, _, _, _⟩ := UA2.wd (wrT R hw sn2)
    unfold qO at dqA
    have rl := look_ltm fr2.lt U2.cor.1
    have dl : d < n2 := by have := U2.lt fr2.lt d (UA2.wd (wrT R hw sn2)).2.2.1; exact this
    have a1 : (n2 = r) = False := eq_false (by omega)
    have a2 : (n2 = d) = False := eq_false (by omega)
    have rd2 := U2.cor.1
    have dq2 := (U2.wd (wrT R hw sn2)).2.1
    unfold qO at dq2
    dsimp only at dq2
    simp (maxSteps := 1000000) -implicitDefEqProofs only [go_sem, seval, -List.reduceReplicate, p1, p2, p3, p4, p5, p6, w2, syL, sp5, t5, rd2, dq2, a1, a2]
    cases ho : t2.o with
    | true =>
      rw [if_pos ho] at hr
      simp (maxSteps := 1000000) -implicitDefEqProofs only [go_sem, seval, -List.reduceReplicate]
      rw [← hr]
      exact Fin.keepW (m0 := _) FA.le (memSame_slf FA.nd) FA.nd (FA.rdm R hw).kp ⟨FA, rfl⟩
    | false =>
      rw [if_neg (by rw [ho]; decide)] at hr
      obtain ⟨e3, rc3, q3', qc3, rs3, qs3, hns3, UU⟩ := id UA2
      have hdA := UU.co
      have hkr : y.k = 2 → 0 ≤ y.r ∧ y.r < 4 := fun h2 => by
        rcases hsy.kind with h | ⟨h, _⟩ | ⟨_, h, h'⟩
        · omega
        · omega
        · exact ⟨h, h'⟩
      have f1 : decide (n2 + 1 ≤ r) = false := decide_eq_false (by omega)
      have f2 : decide (n2 + 1 ≤ n2) = false := decide_eq_false (by omega)
      simp (maxSteps := 1000000) -implicitDefEqProofs only [go_sem, seval, -List.reduceReplicate]
      refine ⟨Fx.mixed, .inl ⟨[(0, false), (1, false), (2, false), (3, false), (4, false), (5, true), (6, false)], [], by kernel_rfl, (fun n hn => by cases hn), ?_⟩⟩
      simp (maxSteps := 1000000) -implicitDefEqProofs only [go_sem, seval, -List.reduceReplicate, rd2, a1, f1, f2, t5]
      refine CallG.weak (kdist (RA.drawn []) gA.lt hdA y hkr) ?_
      rintro v m7 n7 ⟨rfl, g7⟩
      have gA7 := gA.trans g7
      have R7 := g7.rdm RA
      have bx7 := g7.kp _ _ bxA
      have rd7 := gA7.kp _ _ rd2
      have n7l := g7.le
      have U7 : UA r d c b g.C m7 (P2, t2) ns2 := U2.ext (fun k _ => gA7.kp k)
      obtain ⟨nd, K7, ndn, rnd, dnd⟩ := U7.kd
      have ndl := K7.lt g7.lt
      have ns2l := U2.lt fr2.lt
      have n2nd : n2 ∉ nd := fun hm => by have := ns2l n2 (ndn n2 hm); omega
      have f3 : decide (n7 ≤ r) = false := decide_eq_false (by omega)
      have f4 : decide (n7 ≤ n2) = false := decide_eq_false (by omega)
      have c3 := ncont rnd
      have c4 := ncont n2nd
      have lnd := K7.live
      have wnd : ∀ k ∈ nd, wr k = true := fun k hk => wrT R hw sn2 k (ndn k hk)
      unfold syL at bx7
      simp (maxSteps := 1000000) -implicitDefEqProofs only [go_sem, seval, -List.reduceReplicate]
      refine ⟨Fx.mixed, .inl ⟨[(0, false), (1, false), (2, false), (3, false), (4, false), (5, true)], nd, by kernel_rfl, (fun k hk => ⟨wnd k hk, by obtain ⟨o, ho⟩ := lnd k hk; rw [ho]; rfl⟩), ?_⟩⟩
      simp (maxSteps := 1000000) -implicitDefEqProofs only [go_sem, seval, -List.reduceReplicate, rd7, bx7, f3, f4, c3, c4, t5]
      refine CallG.weak (kbecZ (R7.drawn nd) g7.lt K7 (fun k hk => wrMem hk) I.C y hsy) ?_
      rintro v m8 n8 ⟨rfl, fr8, nd8, K8, hn8⟩
      have n8l := fr8.le
      have bx8 := fr8.kp _ _ n2nd bx7
      have nlt : ∀ k, k ∈ nd8 → k ∈ nd ∨ n7 ≤ k := hn8
      have dlt : d < n2 := dl
      obtain ⟨ns8, U8, hns8⟩ := U7.other K8 (fun o => fr8.kp _ _ rnd) (fun o => fr8.kp _ _ dnd) (fun hm => by
        rcases hn8 r hm with h | h
        · exact rnd h
        · omega) (fun hm => by
        rcases hn8 d hm with h | h
        · exact dnd h
        · omega)
      have sn8 : ∀ k ∈ ns8, k ∈ ns2 ∨ n7 ≤ k := fun k hk => by
        rcases hns8 k hk with h | h
        · exact .inl h
        · exact (hn8 k h).imp (ndn k) id
      have vnd : ∀ k ∈ g.vs, k ∉ nd := fun k hk hm => dn2 k hk (ndn k hm)
      have hi8 : ByAt 5 m8 g.v g.all g.vs := (hi2'.grow gA7).ext fun k hk o ho => fr8.kp k o (vnd k hk) ho
      have F7 : Fr ns m nx m7 n7 := F2.trans (Fr.gr (ns := []) gA7) lt (fun k hk => by cases hk)
      have F8 : Fr ns m nx m8 n8 := F7.trans fr8 lt (fun k hk => sn2 k (ndn k hk))
      have R8 := F8.rdm R hw
      have sn8' : ∀ k ∈ ns8, k ∈ ns ∨ nx ≤ k := fun k hk => by
        rcases sn8 k hk with h | h
        · exact sn2 k h
        · exact .inr (by omega)
      have dn8 : ∀ k ∈ g.vs, k ∉ ns8 := fun k hk hm => by
        rcases sn8 k hm with h | h
        · exact dn2 k hk h
        · have := lvs k hk; omega
      have vnA : ∀ k ∈ g.vs, wr k = true := fun k hk => R.wn k (I.vn k hk)
      have wl : IntKind.i64.wrap (((h.length + many : Nat) : Int) - ((g.all.length : Nat) : Int)) = ((h.length + many : Nat) : Int) - ((g.all.length : Nat) : Int) := by rw [wrap_i64] <;> omega
      rcases sy_r0 (C := g.C) hsy with ⟨hk, hds, hyl⟩ | ⟨hk, hds, hyl, hyl2⟩
      · rw [if_pos hk] at hr
        have k0 : (y.k == 0) = true := by simp [hk]
        have d1 : decide ((0 : Int) > ((g.all.length : Nat) : Int)) = false := decide_eq_false (by omega)
        have d2 : decide ((0 : Int) > dict) = false := decide_eq_false (by omega)
        have d3 : decide ((0 : Int) > ((h.length + many : Nat) : Int) - ((g.all.length : Nat) : Int)) = false := decide_eq_false (by omega)
        rw [hds]
        rw [hyl] at bx8
        simp (maxSteps := 1000000) -implicitDefEqProofs only [go_sem, seval, -List.reduceReplicate, p1, p2, p3, p4, p5, p6, bx8, d1, d2, d3, wl, k0]
        refine ⟨.inr trivial, rfl, ?_⟩
        have gc := Gr.cons F8.nd F8.lt (.cells (bvs .u8 [y.b]) 5)
        change appk g.v ((n8, .cells (bvs .u8 [y.b]) 5) :: m8) (n8 + 1) wr 5 1 1 (([y.b] : List (BitVec 8)).length, bvs .u8 [y.b]) _
        refine appk_by (hi8.grow gc) I.nr gc.nd (fun n hn => R8.wn n (by omega)) gc.lt vnA (by show g.all.length + 1 ≤ _; omega) ?_
        intro v9 m9 n9 vs9 e1 e2 e3 e4 e5 e6 e7 e8
        have F9 : Fr ns m nx m9 n9 := ⟨by omega, e5, e6, fun k o hk ho => e7 k o (fun hm => by have := I.vn k hm; have := look_ltm lt ho; omega) (gc.kp k o (F8.kp k o hk ho))⟩
        have bx9 : Eng.look m9 n2 = _ := e7 n2 _ (fun hm => by have := lvs n2 hm; omega) (gc.kp _ _ bx8)
        have ns8l := U8.lt F8.lt
        have U9 : UA r d c b (becC g.C y) m9 (P2, t2) ns8 := U8.ext fun k hk o ho => e7 k o (fun hm => dn8 k hm hk) (gc.kp k o ho)
        simp (maxSteps := 1000000) -implicitDefEqProofs only [go_sem, seval, -List.reduceReplicate]
        refine LoopOk.upX (fun j (x : Unit) => True) 0 (fun j x => ([(14, .int .i64 (j : Nat)), (13, .int .i64 0), (12, .ptr n2 0), (11, .int .i64 ((h.length + many : Nat) : Int)), (10, v9), (9, .bool false), (8, .nils), (0, .ptr r 0), (1, hv), (2, .int .i64 (many : Nat)), (3, .int .i64 dict)], m9, n9)) () trivial ((F9.rdm R hw).leN F9.le ⟨rfl, rfl, rfl, rfl, rfl, rfl, rfl, rfl, rfl, rfl, rfl, trivial⟩) ?_
        rintro j ⟨⟩ ⟨hj, _⟩
        have hj0 : j = 0 := Nat.le_zero.1 hj
        have cj : decide (((j : Nat) : Int) < 0) = false := decide_eq_false (by omega)
        simp (maxSteps := 1000000) -implicitDefEqProofs only [go_sem, seval, -List.reduceReplicate, bx9, cj]
        refine UpX_normal (show i < many by omega) ⟨becC g.C y, P2, t2, g.all ++ [y.b], v9, vs9, ns8, m9, n9⟩ ⟨U9, e1, F9, e2, fun k hk => ?_, sn8', fun k hk hm => ?_, ?_, ?_, ?_, hCm⟩ ((F9.rdm R hw).leN F9.le ⟨rfl, rfl, rfl, rfl, rfl, rfl, rfl, rfl, trivial⟩)
        · rcases e4 k hk with h | h
          · exact I.vn k h
          · omega
        · rcases e4 k hk with h | h
          · exact dn8 k h hm
          · have := ns8l k hm; omega
        · rw [← hr]; show rdU _ _ _ (many - (i + 1)) _ _ _ _ = _; rw [show many - (i + 1) = f by omega]
        · rw [List.length_append]; show _ ≤ _ + 1; omega
        · rw [List.length_append]; show _ + 1 ≤ _; omega
      · rw [if_neg hk] at hr
        have k0 : (y.k == 0) = false := by simp [hk]
        obtain ⟨l, hl⟩ : ∃ l : Nat, y.l = (l : Int) := ⟨y.l.toNat, by omega⟩
        obtain ⟨C2, hC2⟩ : ∃ C2, C2 = becC g.C y := ⟨_, rfl⟩
        rw [← hC2] at hr hCm hds U8
        have hr0 := hCm.r0
        rw [hds]
        have fin6 : rdU (b.drop 5) (h.length + many) dict many C P t h = none → Eng.Fin nx wr m8 n8 (UrdK r d c b h (rdU (b.drop 5) (h.length + many) dict many C P t h) ns m nx) (.tup [.nils, .bool false]) := fun e => by
          rw [e]; exact Fin.keepW (m0 := _) F8.le (memSame_slf F8.nd) F8.nd R8.kp ⟨F8, rfl⟩
        by_cases a1 : ((C2.r0 : Nat) : Int) > ((g.all.length : Nat) : Int)
        · have d1 : decide (((C2.r0 : Nat) : Int) > ((g.all.length : Nat) : Int)) = true := decide_eq_true a1
          rw [if_pos (.inl a1)] at hr
          simp (maxSteps := 1000000) -implicitDefEqProofs only [go_sem, seval, -List.reduceReplicate, p1, p2, p3, p4, p5, p6, bx8, d1]
          exact fin6 hr.symm
        have d1 : decide (((C2.r0 : Nat) : Int) > ((g.all.length : Nat) : Int)) = false := decide_eq_false a1
        by_cases a2 : ((C2.r0 : Nat) : Int) > dict
        · have d2 : decide (((C2.r0 : Nat) : Int) > dict) = true := decide_eq_true a2
          rw [if_pos (.inr (.inl a2))] at hr
          simp (maxSteps := 1000000) -implicitDefEqProofs only [go_sem, seval, -List.reduceReplicate, p1, p2, p3, p4, p5, p6, bx8, d1, d2]
          exact fin6 hr.symm
        have d2 : decide (((C2.r0 : Nat) : Int) > dict) = false := decide_eq_false a2
        rw [hl] at bx8
        by_cases a3 : y.l > ((h.length + many : Nat) : Int) - ((g.all.length : Nat) : Int)
        · have d3 : decide (((l : Nat) : Int) > ((h.length + many : Nat) : Int) - ((g.all.length : Nat) : Int)) = true := decide_eq_true (by rw [← hl]; exact a3)
          rw [if_pos (.inr (.inr a3))] at hr
          simp (maxSteps := 1000000) -implicitDefEqProofs only [go_sem, seval, -List.reduceReplicate, p1, p2, p3, p4, p5, p6, bx8, d1, d2, d3, wl]
          exact fin6 hr.symm
        have d3 : decide (((l : Nat) : Int) > ((h.length + many : Nat) : Int) - ((g.all.length : Nat) : Int)) = false := decide_eq_false (by rw [← hl]; exact a3)
        rw [if_neg (by rintro (h | h | h) <;> contradiction), hl, Int.toNat_natCast] at hr
        simp (maxSteps := 1000000) -implicitDefEqProofs only [go_sem, seval, -List.reduceReplicate, p1, p2, p3, p4, p5, p6, bx8, d1, d2, d3, wl, k0]
        refine LoopOk.upX (fun j (x : AV × List Nat × Mem × Nat) => Fr g.vs m8 n8 x.2.2.1 x.2.2.2 ∧ ByAt 5 x.2.2.1 x.1 (growN g.all C2.r0 j) x.2.1 ∧ x.1 ≠ .ro (growN g.all C2.r0 j).length (bvs .u8 (growN g.all C2.r0 j)) ∧ ∀ k ∈ x.2.1, k ∈ g.vs ∨ n8 ≤ k) l
          (fun j x => ([(14, .int .i64 (j : Nat)), (13, .int .i64 (C2.r0 : Nat)), (12, .ptr n2 0), (11, .int .i64 ((h.length + many : Nat) : Int)), (10, x.1), (9, .bool false), (8, .nils), (0, .ptr r 0), (1, hv), (2, .int .i64 (many : Nat)), (3, .int .i64 dict)], x.2.2.1, x.2.2.2)) (g.v, g.vs, m8, n8) ⟨.refl F8.nd F8.lt, hi8, I.nr, fun k hk => .inl hk⟩ (R8.leN F8.le ⟨rfl, rfl, rfl, rfl, rfl, rfl, rfl, rfl, rfl, rfl, rfl, trivial⟩) ?_
        rintro j ⟨v7, vs7, m7', n7'⟩ ⟨hj, u1, u2, u3, u4⟩
        have u1 : Fr g.vs m8 n8 m7' n7' := u1
        have u2 : ByAt 5 m7' v7 (growN g.all C2.r0 j) vs7 := u2
        have u3 : v7 ≠ .ro (growN g.all C2.r0 j).length (bvs .u8 (growN g.all C2.r0 j)) := u3
        have u4 : ∀ k ∈ vs7, k ∈ g.vs ∨ n8 ≤ k := u4
        have hgl := growN_len g.all C2.r0 j
        obtain ⟨o1, o2, o3, o4, o5⟩ := u2.facts
        have o6 := u2.len Try.prog 22
        have R9 := u1.rdm R8 vnA
        have bx9 := u1.kp n2 _ (fun hm => by have := lvs n2 hm; omega) bx8
        have vnB : ∀ k ∈ vs7, wr k = true := fun k hk => R.wn k (by
          rcases u4 k hk with h | h
          · exact I.vn k h
          · have := F8.le; omega)
        rcases Nat.lt_or_ge j l with h' | h'
        · have c3 : decide (((j : Nat) : Int) < ((l : Nat) : Int)) = true := decide_eq_true (by omega)
          have wj : IntKind.i64.wrap (((j : Nat) : Int) + 1) = ((j + 1 : Nat) : Int) := by rw [wrap_i64] <;> omega
          have w1 : IntKind.i64.wrap (((growN g.all C2.r0 j).length : Int) - (C2.r0 : Int)) = (((growN g.all C2.r0 j).length - C2.r0 : Nat) : Int) := by rw [wrap_i64] <;> omega
          obtain ⟨p, hp1, hp2⟩ := u2.idx (t := 22) ((growN g.all C2.r0 j).length - C2.r0) (by omega) el5 sz5 kn5 ag5 df5
          simp (maxSteps := 1000000) -implicitDefEqProofs only [go_sem, seval, -List.reduceReplicate, bx9, c3, o1, o2, o3, o4, o5, o6, w1]
          refine hp1 _ ?_
          simp (maxSteps := 1000000) -implicitDefEqProofs only [go_sem, seval, -List.reduceReplicate, o1, o2, o3, o4, o5, o6]
          refine hp2 _ _ (fun _ _ => rfl) ?_
          simp (maxSteps := 1000000) -implicitDefEqProofs only [go_sem, seval, -List.reduceReplicate, o1, o2, o3, o4, o5, o6, one1_bvs]
          refine ⟨.inr trivial, rfl, ?_⟩
          change appk v7 ((n7', .cells (bvs .u8 [(growN g.all C2.r0 j).getD ((growN g.all C2.r0 j).length - C2.r0) 0#8]) 5) :: m7') (n7' + 1) wr 5 1 1 (([(growN g.all C2.r0 j).getD ((growN g.all C2.r0 j).length - C2.r0) 0#8] : List (BitVec 8)).length, bvs .u8 [(growN g.all C2.r0 j).getD ((growN g.all C2.r0 j).length - C2.r0) 0#8]) _
          have gc := Gr.cons u1.nd u1.lt (.cells (bvs .u8 [(growN g.all C2.r0 j).getD ((growN g.all C2.r0 j).length - C2.r0) 0#8]) 5)
          refine appk_by (u2.grow gc) u3 gc.nd (fun n hn => R9.wn n (by omega)) gc.lt vnB (by rw [hgl]; show _ + 1 ≤ _; omega) ?_
          intro v8 m8' n8' vs8 e1 e2 e3 e4 e5 e6 e7 e8
          have F9 : Fr vs7 m7' n7' m8' n8' := ⟨by omega, e5, e6, fun k o hk ho => e7 k o hk (gc.kp k o ho)⟩
          have F9' := u1.trans F9 F8.lt u4
          simp (maxSteps := 1000000) -implicitDefEqProofs only [go_sem, seval, -List.reduceReplicate, wj]
          exact UpX_normal h' (v8, vs8, m8', n8') ⟨F9', e1, e2, subT u4 (fun k hk => (e4 k hk).imp id fun h => by omega) u1.le⟩ ((F9'.rdm R8 vnA).leN (Nat.le_trans F8.le F9'.le) ⟨rfl, rfl, rfl, rfl, rfl, rfl, rfl, rfl, rfl, rfl, rfl, trivial⟩)
        · have hjl : j = l := by
            have : j ≤ l := hj
            omega
          subst hjl
          have c3 : decide (((j : Nat) : Int) < ((j : Nat) : Int)) = false := decide_eq_false (by omega)
          have U9 : UA r d c b C2 m7' (P2, t2) ns8 := U8.ext fun k hk o ho => u1.kp k o (fun hm => dn8 k hm hk) ho
          have F9 : Fr ns m nx m7' n7' := F8.trans u1 lt (fun k hk => .inr (I.vn k hk))
          have ns8l := U8.lt F8.lt
          simp (maxSteps := 1000000) -implicitDefEqProofs only [go_sem, seval, -List.reduceReplicate, bx9, c3]
          refine UpX_normal (show i < many by omega) ⟨C2, P2, t2, growN g.all C2.r0 j, v7, vs7, ns8, m7', n7'⟩ ⟨U9, u2, F9, u3, fun k hk => ?_, sn8', fun k hk hm => ?_, ?_, ?_, ?_, hCm⟩ ((F9.rdm R hw).leN F9.le ⟨rfl, rfl, rfl, rfl, rfl, rfl, rfl, rfl, trivial⟩)
          · rcases u4 k hk with h | h
            · exact I.vn k h
            · have := F8.le; omega
          · rcases u4 k hk with h | h
            · exact dn8 k h hm
            · have := ns8l k hm; omega
          · rw [← hr]; show rdU _ _ _ (many - (i + 1)) _ _ _ _ = _; rw [show many - (i + 1) = f by omega]
          · rw [hgl]; omega
          · rw [hgl]; omega
  · have c1 : decide (((g.all.length : Nat) : Int) < ((h.length + many : Nat) : Int)) = false := decide_eq_false (by omega)
    have hr := I.r
    have hr' : some (g.C, g.P, g.t, g.all) = rdU (b.drop 5) (h.length + many) dict many C P t h := by
      rw [← hr]
      cases hf : many - i with
      | zero => rw [rdU, if_neg hlt]
      | succ f => rw [rdU, if_neg hlt]
    simp (maxSteps := 1000000) -implicitDefEqProofs only [go_sem, seval, -List.reduceReplicate, p1, p2, p3, p4, p5, p6, c1, q1, q2, q3, q4, q5, q6]
    refine by_tail I.hi h.length (by omega) elBy inSz ?_
    intro s hs'
    simp (maxSteps := 1000000) -implicitDefEqProofs only [go_sem, seval, -List.reduceReplicate]
    rw [← hr']
    exact Fin.keepW (m0 := _) I.F.le (memSame_slf I.F.nd) I.F.nd RM.kp ⟨I.F, s, g.vs, g.ns, rfl, hs', I.vn, I.U, I.sn⟩
end
end Go.Proofs.Ytmdeoikpiiambaa
end
