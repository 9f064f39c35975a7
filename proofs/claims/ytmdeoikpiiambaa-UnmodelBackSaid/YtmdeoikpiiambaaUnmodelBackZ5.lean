/- Part 5 of the proof of the statement UnmodelBack: Moz, Mpa, Mpb, Mpc, Mpd, Mpe, Mpf, Mpg, Mph, Mpi, Mpj, Mpk, Mpl, Mpm, Mpn, Mou, Mov, Mpo, Mpp, Mpq, Mpr, Mpt, Mpu. -/
import Derived.Test.YtmdeoikpiiambaaUnmodelBackZ4
section
/- The document's model in any memory: its coder, a bit. BRIEF -/
set_option linter.unusedVariables false
set_option linter.unusedSimpArgs false
set_option maxRecDepth 100000
namespace Go.Proofs.Ytmdeoikpiiambaa
open Go Go.Eng

structure DoA (c r rc q qc : Nat) (rs qs : List Value) (C : MC) (P : List (BitVec 16)) (m : Mem) : Prop where
  co : Eng.look m c = some (.cells [.int .i64 (C.lc : Nat), .int .i64 (C.lp : Nat), .int .i64 (C.pb : Nat), .int .i64 (C.st : Nat), .sl r 0 4 rc, .sl q 0 P.length qc] 80)
  re : Eng.look m r = some (.cells (rpL C ++ rs.map AV.val) 3)
  ch : Eng.look m q = some (.cells (bvs .u16 P ++ qs.map AV.val) 136)
  cr : c ≠ r
  cq : c ≠ q
  rq : r ≠ q
  rl : 4 + rs.length = rc
  rm : rc ≤ maxI
  ql : P.length + qs.length = qc
  qm : qc ≤ maxI
  len : P.length = szP C
/-- the document's coder, and who codes for it -/
def KA (c a : Nat) (C : MC) (m : Mem) (x : List (BitVec 16) × RS) (ns : List Nat) : Prop := ∃ r rc q qc rs qs ne, ns = c :: r :: q :: ne ∧ DoA c r rc q qc rs qs C x.1 m ∧ RcAt a m x.2 ne ∧ c ∉ ne ∧ r ∉ ne ∧ q ∉ ne
theorem DoA.ext {c r rc q qc : Nat} {rs qs : List Value} {C : MC} {P : List (BitVec 16)} {m m' : Mem} (h : DoA c r rc q qc rs qs C P m) (h1 : ∀ k, k = c ∨ k = r ∨ k = q → ∀ o, Eng.look m k = some o → Eng.look m' k = some o) : DoA c r rc q qc rs qs C P m' :=
  ⟨h1 _ (.inl rfl) _ h.co, h1 _ (.inr (.inl rfl)) _ h.re, h1 _ (.inr (.inr rfl)) _ h.ch, h.cr, h.cq, h.rq, h.rl, h.rm, h.ql, h.qm, h.len⟩
/-- a chance is set -/
theorem DoA.set {c r rc q qc : Nat} {rs qs : List Value} {C : MC} {P : List (BitVec 16)} {m : Mem} (h : DoA c r rc q qc rs qs C P m) {j : Nat} (hj : j < P.length) (v : BitVec 16) : DoA c r rc q qc rs qs C (P.set j v) (Eng.upd m q (.cells ((bvs .u16 P ++ qs.map AV.val).set j (.int .u16 (v.toNat : Int))) 136)) :=
  ⟨by rw [look_upd_other _ (fun e => h.cq e.symm), List.length_set]; exact h.co, by rw [look_upd_other _ (fun e => h.rq e.symm)]; exact h.re, by rw [look_upd_same _ h.ch, bvsS_set .u16 P _ j hj v], h.cr, h.cq, h.rq, h.rl, h.rm, by rw [List.length_set]; exact h.ql, h.qm, by rw [List.length_set]; exact h.len⟩
set_option maxHeartbeats 2000000 in
theorem kbit {wr : Nat → Bool} {m : Mem} {nx c a : Nat} {C : MC} {P : List (BitVec 16)} {s : RS} {ns : List Nat} (D : Rdm wr m nx) (lt : ∀ p ∈ m, p.1 < nx) (h : KA c a C m (P, s) ns) (hw : ∀ k ∈ ns, wr k = true) (hb : rencB s 1) (j : Nat) (hj : j < szP C) (w : Bool) :
    CallG false Try.prog 97 [.ptr c 0, .ptr a 0, .int .i64 (j : Nat), .int .i64 (bitI w)] wr m nx (OwK (KA c a C) (.tup []) (told rencM [.b j w] P s) ns m nx) := by
  refine fn_okG Try.func97 rfl (by show 4 ≤ _; decide) ?_
  obtain ⟨r, rc, q, qc, rs, qs, ne, rfl, hd, he, n1, n2, n3⟩ := h
  have hd : DoA c r rc q qc rs qs C P m := hd
  have he : RcAt a m s ne := he
  have co := hd.co
  have ch := hd.ch
  have cl := look_ltm lt co
  have ql := look_ltm lt ch
  have hjl : j < P.length := by rw [hd.len]; exact hj
  have rl := look_ltm lt hd.re
  have fc : (c == q) = false := by rw [beq_eq_false_iff_ne]; exact hd.cq
  have fe := ncont n1
  have fq1 : ne.contains q = false := ncont n3
  have wq : wr q = true := hw q (.tail _ (.tail _ (.head _)))
  have fd : decide (nx ≤ c) = false := decide_eq_false (by omega)
  have fq : decide (nx ≤ q) = false := decide_eq_false (by omega)
  have gd := bvsS_getD .u16 P (qs.map AV.val) j hjl
  have hbit := rbitOk (D.drawn (q :: ne)) lt he (fun k hk => wrMem (.tail _ hk)) hb (P.getD j 0#16) w
  simp (maxSteps := 1000000) -implicitDefEqProofs only [go_sem, seval, -List.reduceReplicate, Try.results97, Try.ntmps97]
  refine ⟨Fx.mixed, .inl ⟨[(0, false), (1, false), (2, false), (3, false), (4, false), (5, false), (6, false), (7, false), (8, false), (9, false), (10, false), (11, false), (13, false), (12, true), (14, true), (15, false), (16, true)], q :: ne, by kernel_rfl, (fun k hk => by
    rcases List.mem_cons.1 hk with rfl | hk
    · exact ⟨hw k (.tail _ (.tail _ (.head _))), by rw [ch]; rfl⟩
    · exact ⟨hw k (.tail _ (.tail _ (.tail _ hk))), by obtain ⟨o, ho⟩ := he.live k hk; rw [ho]; rfl⟩), ?_⟩⟩
  simp (maxSteps := 1000000) -implicitDefEqProofs only [go_sem, seval, -List.reduceReplicate, co, ch, fc, fe, fd, fq, gd]
  refine ⟨by omega, by omega, ?_⟩
  refine CallG.weak hbit ?_
  rintro v m2 nx2 ⟨rfl, fr2, ne2, h2, hn2⟩
  have hd2 : DoA c r rc q qc rs qs C P m2 := hd.ext fun k hk o ho => fr2.kp k o (by rcases hk with rfl | rfl | rfl; exact n1; exact n2; exact n3) ho
  have le2 := fr2.le
  have q2 : ∀ k, k ∉ ne → k < nx → k ∉ ne2 := fun k h1 h2 hm => by
    rcases hn2 k hm with h | h
    · exact h1 h
    · omega
  have ch2 := hd2.ch
  have fq2 : decide (nx ≤ q) = false := decide_eq_false (by omega)
  have bst := bvsS_set .u16 P (qs.map AV.val) j hjl (nxB (fairV (P.getD j 0)) w)
  simp (maxSteps := 1000000) -implicitDefEqProofs only [go_sem, seval, -List.reduceReplicate, ch2, fq2, beq_self_eq_true]
  refine ⟨by omega, by omega, ?_⟩
  have hd3 := hd2.set hjl (nxB (fairV (P.getD j 0)) w)
  have F2 : Fr (c :: r :: q :: ne) m nx m2 nx2 := fr2.wide fun k hk => .tail _ (.tail _ (.tail _ hk))
  have D2 := F2.rdm D hw
  have F3 := F2.trans (Fr.upd (ns := [q]) D2 F2.lt (.head _) (.cells ((bvs .u16 P ++ qs.map AV.val).set j (.int .u16 ((nxB (fairV (P.getD j 0)) w).toNat : Int))) 136)) lt (fun k hk => by rw [List.mem_singleton.1 hk]; exact .inl (.tail _ (.tail _ (.head _))))
  exact Fr.fin (At := KA c a C) (s' := (nxP P j w, rbitE s (fairV (P.getD j 0)) w)) F3 D hw ⟨r, rc, q, qc, rs, qs, ne2, rfl, hd3, h2.ext (fun k hk o ho => by rw [look_upd_other _ (fun e => q2 q n3 ql (by rw [e]; exact hk))]; exact ho), q2 c n1 cl, q2 r n2 rl, q2 q n3 ql⟩ (fun k hk => by
    rcases List.mem_cons.1 hk with rfl | hk
    · exact .inl (.head _)
    rcases List.mem_cons.1 hk with rfl | hk
    · exact .inl (.tail _ (.head _))
    rcases List.mem_cons.1 hk with rfl | hk
    · exact .inl (.tail _ (.tail _ (.head _)))
    · exact (hn2 k hk).imp (fun h => .tail _ (.tail _ (.tail _ h))) id)
end Go.Proofs.Ytmdeoikpiiambaa
end
section
/- The document's model: its small functions. BRIEF -/
set_option linter.unusedVariables false
set_option linter.unusedSimpArgs false
set_option maxRecDepth 100000
namespace Go.Proofs.Ytmdeoikpiiambaa
open Go Go.Eng

/-- a call that only answers -/
def PK (V : AV) (m : Mem) (nx : Nat) : Kv := fun v m' nx' => v = V ∧ m' = m ∧ nx' = nx
theorem finP {wr : Nat → Bool} {m : Mem} {nx : Nat} (D : Rdm wr m nx) (V : AV) : Eng.Fin nx wr m nx (PK V m nx) V := Fin.keepW (m0 := m) (Nat.le_refl _) (memSame_slf D.nd) D.nd D.kp ⟨rfl, rfl, rfl⟩
section
variable {wr : Nat → Bool} {m : Mem} {nx : Nat}
set_option maxHeartbeats 1000000 in
theorem ktwo (D : Rdm wr m nx) (n : Nat) (hn : n ≤ 60) : CallG false Try.prog 95 [.int .i64 (n : Nat)] wr m nx (PK (.int .i64 ((2 ^ n : Nat) : Int)) m nx) := by
  refine fn_okG Try.func95 rfl (by show 1 ≤ _; decide) ?_
  simp (maxSteps := 1000000) -implicitDefEqProofs only [go_sem, seval, -List.reduceReplicate, Try.results95, Try.ntmps95]
  refine LoopOk.upX (fun i (x : Unit) => True) n (fun i x => ([(4, .int .i64 (i : Nat)), (3, .int .i64 ((2 ^ i : Nat) : Int)), (0, .int .i64 (n : Nat))], m, nx)) () trivial (D.leN (Nat.le_refl _) ⟨rfl, rfl, rfl, trivial⟩) ?_
  rintro i ⟨⟩ ⟨hi, _⟩
  have wi : IntKind.i64.wrap ((i : Int) + 1) = ((i + 1 : Nat) : Int) := by rw [wrap_i64] <;> omega
  have hp : 2 ^ i ≤ 2 ^ 60 := Nat.pow_le_pow_right (by decide) (by omega)
  have hs : 2 ^ (i + 1) = 2 * 2 ^ i := by rw [Nat.pow_succ, Nat.mul_comm]
  have w2 : IntKind.i64.wrap (2 * ((2 ^ i : Nat) : Int)) = ((2 ^ (i + 1) : Nat) : Int) := by rw [hs, wrap_i64] <;> omega
  rcases Nat.lt_or_ge i n with h' | h'
  · have c1 : decide ((i : Int) < (n : Int)) = true := decide_eq_true (by omega)
    simp (maxSteps := 1000000) -implicitDefEqProofs only [go_sem, seval, -List.reduceReplicate, c1, w2, wi]
    exact UpX_normal h' () trivial (D.leN (Nat.le_refl _) ⟨rfl, rfl, rfl, trivial⟩)
  · have c1 : decide ((i : Int) < (n : Int)) = false := decide_eq_false (by omega)
    have he : i = n := by omega
    simp (maxSteps := 1000000) -implicitDefEqProofs only [go_sem, seval, -List.reduceReplicate, c1]
    rw [he]
    exact finP D _
theorem kmatch (D : Rdm wr m nx) {c : Nat} {C : MC} {R Q : AV} (co : Eng.look m c = some (.cells [.int .i64 (C.lc : Nat), .int .i64 (C.lp : Nat), .int .i64 (C.pb : Nat), .int .i64 (C.st : Nat), R, Q] 80)) (hst : C.st < 12) (p : Nat) (hp : p < 16) : CallG false Try.prog 98 [.ptr c 0, .int .i64 (p : Nat)] wr m nx (PK (.int .i64 ((16 * C.st + p : Nat) : Int)) m nx) := by
  refine fn_okG Try.func98 rfl (by show 2 ≤ _; decide) ?_
  have w0 : IntKind.i64.wrap (16 * ((C.st : Nat) : Int)) = ((16 * C.st : Nat) : Int) := by rw [wrap_i64] <;> omega
  have w1 : IntKind.i64.wrap (((16 * C.st : Nat) : Int) + ((p : Nat) : Int)) = ((16 * C.st + p : Nat) : Int) := by rw [wrap_i64] <;> omega
  simp (maxSteps := 1000000) -implicitDefEqProofs only [go_sem, seval, -List.reduceReplicate, Try.results98, Try.ntmps98, co, w0, w1]
  exact finP D _
theorem krep (D : Rdm wr m nx) {c : Nat} {C : MC} {R Q : AV} (co : Eng.look m c = some (.cells [.int .i64 (C.lc : Nat), .int .i64 (C.lp : Nat), .int .i64 (C.pb : Nat), .int .i64 (C.st : Nat), R, Q] 80)) (hst : C.st < 12) : CallG false Try.prog 100 [.ptr c 0] wr m nx (PK (.int .i64 ((192 + C.st : Nat) : Int)) m nx) := by
  refine fn_okG Try.func100 rfl (by show 1 ≤ _; decide) ?_
  have w0 : IntKind.i64.wrap (192 + ((C.st : Nat) : Int)) = ((192 + C.st : Nat) : Int) := by rw [wrap_i64] <;> omega
  simp (maxSteps := 1000000) -implicitDefEqProofs only [go_sem, seval, -List.reduceReplicate, Try.results100, Try.ntmps100, co, w0]
  exact finP D _
theorem kwhich (D : Rdm wr m nx) {c : Nat} {C : MC} {R Q : AV} (co : Eng.look m c = some (.cells [.int .i64 (C.lc : Nat), .int .i64 (C.lp : Nat), .int .i64 (C.pb : Nat), .int .i64 (C.st : Nat), R, Q] 80)) (hst : C.st < 12) (p : Nat) (hp : p < 16) : CallG false Try.prog 104 [.ptr c 0, .int .i64 (p : Nat)] wr m nx (PK (.int .i64 ((204 + 12 * p + C.st : Nat) : Int)) m nx) := by
  refine fn_okG Try.func104 rfl (by show 2 ≤ _; decide) ?_
  have w0 : IntKind.i64.wrap (12 * ((p : Nat) : Int)) = ((12 * p : Nat) : Int) := by rw [wrap_i64] <;> omega
  have w1 : IntKind.i64.wrap (204 + ((12 * p : Nat) : Int)) = ((204 + 12 * p : Nat) : Int) := by rw [wrap_i64] <;> omega
  have w2 : IntKind.i64.wrap (((204 + 12 * p : Nat) : Int) + ((C.st : Nat) : Int)) = ((204 + 12 * p + C.st : Nat) : Int) := by rw [wrap_i64] <;> omega
  simp (maxSteps := 1000000) -implicitDefEqProofs only [go_sem, seval, -List.reduceReplicate, Try.results104, Try.ntmps104, co, w0, w1, w2]
  exact finP D _
theorem klong (D : Rdm wr m nx) {c : Nat} {C : MC} {R Q : AV} (co : Eng.look m c = some (.cells [.int .i64 (C.lc : Nat), .int .i64 (C.lp : Nat), .int .i64 (C.pb : Nat), .int .i64 (C.st : Nat), R, Q] 80)) (hst : C.st < 12) (p : Nat) (hp : p < 16) : CallG false Try.prog 105 [.ptr c 0, .int .i64 (p : Nat)] wr m nx (PK (.int .i64 ((240 + 16 * C.st + p : Nat) : Int)) m nx) := by
  refine fn_okG Try.func105 rfl (by show 2 ≤ _; decide) ?_
  have w0 : IntKind.i64.wrap (16 * ((C.st : Nat) : Int)) = ((16 * C.st : Nat) : Int) := by rw [wrap_i64] <;> omega
  have w1 : IntKind.i64.wrap (240 + ((16 * C.st : Nat) : Int)) = ((240 + 16 * C.st : Nat) : Int) := by rw [wrap_i64] <;> omega
  have w2 : IntKind.i64.wrap (((240 + 16 * C.st : Nat) : Int) + ((p : Nat) : Int)) = ((240 + 16 * C.st + p : Nat) : Int) := by rw [wrap_i64] <;> omega
  simp (maxSteps := 1000000) -implicitDefEqProofs only [go_sem, seval, -List.reduceReplicate, Try.results105, Try.ntmps105, co, w0, w1, w2]
  exact finP D _
theorem klow (D : Rdm wr m nx) (p : Nat) (hp : p < 64) : CallG false Try.prog 151 [.int .i64 (p : Nat)] wr m nx (PK (.int .i64 ((1716 + 32 * p : Nat) : Int)) m nx) := by
  refine fn_okG Try.func151 rfl (by show 1 ≤ _; decide) ?_
  have w0 : IntKind.i64.wrap (32 * ((p : Nat) : Int)) = ((32 * p : Nat) : Int) := by rw [wrap_i64] <;> omega
  have w1 : IntKind.i64.wrap (1716 + ((32 * p : Nat) : Int)) = ((1716 + 32 * p : Nat) : Int) := by rw [wrap_i64] <;> omega
  simp (maxSteps := 1000000) -implicitDefEqProofs only [go_sem, seval, -List.reduceReplicate, Try.results151, Try.ntmps151, w0, w1]
  exact finP D _
theorem kalign (D : Rdm wr m nx) : CallG false Try.prog 153 [] wr m nx (PK (.int .i64 2164) m nx) := by
  refine fn_okG Try.func153 rfl (Nat.zero_le _) ?_
  simp (maxSteps := 1000000) -implicitDefEqProofs only [go_sem, seval, -List.reduceReplicate, Try.results153, Try.ntmps153]
  exact finP D _
theorem klens (D : Rdm wr m nx) (b : Bool) : CallG false Try.prog 102 [.bool b] wr m nx (PK (.int .i64 (((if b then 946 else 432) : Nat) : Int)) m nx) := by
  refine fn_okG Try.func102 rfl (by show 1 ≤ _; decide) ?_
  cases b <;>
  · simp (maxSteps := 1000000) -implicitDefEqProofs only [go_sem, seval, -List.reduceReplicate, Try.results102, Try.ntmps102]
    exact finP D _
theorem kslots (D : Rdm wr m nx) (n : Nat) (hn : 2 ≤ n) (hn2 : n ≤ 273) : CallG false Try.prog 149 [.int .i64 (n : Nat)] wr m nx (PK (.int .i64 ((1460 + 64 * min (n - 2) 3 : Nat) : Int)) m nx) := by
  refine fn_okG Try.func149 rfl (by show 1 ≤ _; decide) ?_
  have w0 : IntKind.i64.wrap ((n : Int) - 2) = ((n - 2 : Nat) : Int) := by rw [wrap_i64] <;> omega
  rcases Nat.lt_or_ge 3 (n - 2) with h | h
  · have c1 : decide (((n - 2 : Nat) : Int) > 3) = true := decide_eq_true (by omega)
    have w3 : IntKind.i64.wrap 192 = 192 := rfl
    have w4 : IntKind.i64.wrap 1652 = 1652 := rfl
    have e : ((1460 + 64 * min (n - 2) 3 : Nat) : Int) = 1652 := by omega
    rw [e]
    simp (maxSteps := 1000000) -implicitDefEqProofs only [go_sem, seval, -List.reduceReplicate, Try.results149, Try.ntmps149, w0, c1, w3, w4]
    exact finP D _
  · have c1 : decide (((n - 2 : Nat) : Int) > 3) = false := decide_eq_false (by omega)
    have w3 : IntKind.i64.wrap (64 * ((n - 2 : Nat) : Int)) = ((64 * (n - 2) : Nat) : Int) := by rw [wrap_i64] <;> omega
    have w4 : IntKind.i64.wrap (1460 + ((64 * (n - 2) : Nat) : Int)) = ((1460 + 64 * (n - 2) : Nat) : Int) := by rw [wrap_i64] <;> omega
    have e : min (n - 2) 3 = n - 2 := by omega
    rw [e]
    simp (maxSteps := 1000000) -implicitDefEqProofs only [go_sem, seval, -List.reduceReplicate, Try.results149, Try.ntmps149, w0, c1, w3, w4]
    exact finP D _
set_option maxHeartbeats 1000000 in
theorem kback (D : Rdm wr m nx) {hv : AV} {h : List (BitVec 8)} {hs : List Nat} (hi : ByAt 5 m hv h hs) (hh : h.length ≤ 100000000) (n : Nat) (hn : 1 ≤ n) :
    CallG false Try.prog 147 [hv, .int .i64 (n : Nat)] wr m nx (PK (.int .i64 ((backN h n : Nat) : Int)) m nx) := by
  refine fn_okG Try.func147 rfl (by show 2 ≤ _; decide) ?_
  obtain ⟨q1, q2, q3, q4, q5⟩ := hi.facts
  have q6 := hi.len Try.prog 22
  by_cases hc : h.length < n
  · have e1 : decide ((n : Int) > (h.length : Int)) = true := decide_eq_true (by omega)
    have e2 : ((backN h n : Nat) : Int) = 0 := by rw [backN, if_pos hc]; rfl
    rw [e2]
    simp (maxSteps := 1000000) -implicitDefEqProofs only [go_sem, seval, -List.reduceReplicate, Try.results147, Try.ntmps147, q1, q2, q3, q4, q5, q6, e1]
    exact finP D _
  · have e1 : decide ((n : Int) > (h.length : Int)) = false := decide_eq_false (by omega)
    have w1 : IntKind.i64.wrap ((h.length : Int) - (n : Int)) = ((h.length - n : Nat) : Int) := by rw [wrap_i64] <;> omega
    have w2 : IntKind.i64.wrap (((h.getD (h.length - n) 0#8).toNat : Nat) : Int) = (((h.getD (h.length - n) 0#8).toNat : Nat) : Int) := by have := (h.getD (h.length - n) 0#8).isLt; rw [wrap_i64] <;> omega
    have e2 : ((backN h n : Nat) : Int) = (((h.getD (h.length - n) 0#8).toNat : Nat) : Int) := by rw [backN, if_neg hc]; rfl
    rw [e2]
    obtain ⟨p, hp1, hp2⟩ := hi.idx (t := 22) (h.length - n) (by omega) el5 sz5 kn5 ag5 df5
    simp (maxSteps := 1000000) -implicitDefEqProofs only [go_sem, seval, -List.reduceReplicate, Try.results147, Try.ntmps147, q1, q2, q3, q4, q5, q6, e1, w1]
    refine hp1 _ ?_
    simp (maxSteps := 1000000) -implicitDefEqProofs only [go_sem, seval, -List.reduceReplicate]
    refine hp2 _ _ (fun _ _ => rfl) ?_
    simp (maxSteps := 1000000) -implicitDefEqProofs only [go_sem, seval, -List.reduceReplicate, w2]
    exact finP D _
end
end Go.Proofs.Ytmdeoikpiiambaa
end
section
/- The document's model: a literal's table, trees. BRIEF -/
set_option linter.unusedVariables false
set_option linter.unusedSimpArgs false
set_option maxRecDepth 100000
namespace Go.Proofs.Ytmdeoikpiiambaa
open Go Go.Eng

theorem CallG.pk {P : Program} {f : FuncId} {args : List AV} {wr : Nat → Bool} {m : Mem} {nx : Nat} {V : AV} {K : Kv} (h : CallG false P f args wr m nx (PK V m nx)) (hk : K V m nx) : CallG false P f args wr m nx K :=
  CallG.weak h fun v m' nx' e => by obtain ⟨e1, e2, e3⟩ := e; rw [e1, e2, e3]; exact hk
theorem tdN (a b : Nat) : ((a : Nat) : Int).tdiv ((b : Nat) : Int) = ((a / b : Nat) : Int) := rfl
theorem tmN (a b : Nat) : ((a : Nat) : Int).tmod ((b : Nat) : Int) = ((a % b : Nat) : Int) := rfl
theorem tm2 (a : Nat) : ((a : Nat) : Int).tmod 2 = ((a % 2 : Nat) : Int) := rfl
section
variable {wr : Nat → Bool} {m : Mem} {nx : Nat}
set_option maxHeartbeats 1000000 in
theorem ktable (D : Rdm wr m nx) {hv : AV} {h : List (BitVec 8)} {hs : List Nat} (hi : ByAt 5 m hv h hs) (hh : h.length ≤ 100000000) {c : Nat} {C : MC} {R Q : AV} (hC : MCok C) (co : Eng.look m c = some (.cells [.int .i64 (C.lc : Nat), .int .i64 (C.lp : Nat), .int .i64 (C.pb : Nat), .int .i64 (C.st : Nat), R, Q] 80)) (lt : ∀ p ∈ m, p.1 < nx) :
    CallG false Try.prog 145 [.ptr c 0, hv] wr m nx (PK (.int .i64 ((litB C h : Nat) : Int)) m nx) := by
  refine fn_okG Try.func145 rfl (by show 2 ≤ _; decide) ?_
  obtain ⟨q1, q2, q3, q4, q5⟩ := hi.facts
  have q6 := hi.len Try.prog 22
  have lcp := hC.lc
  have cl := look_ltm lt co
  have fd : decide (nx ≤ c) = false := decide_eq_false (by omega)
  simp (maxSteps := 1000000) -implicitDefEqProofs only [go_sem, seval, -List.reduceReplicate, Try.results145, Try.ntmps145, q1, q2, q3, q4, q5, q6, co]
  have p1 : 2 ^ C.lp ≤ 2 ^ 4 := Nat.pow_le_pow_right (by decide) (by omega)
  have p2 : 2 ^ C.lc ≤ 2 ^ 4 := Nat.pow_le_pow_right (by decide) (by omega)
  have p0 : 0 < 2 ^ C.lp := Nat.pow_pos (by decide)
  have p3 : 0 < 2 ^ (8 - C.lc) := Nat.pow_pos (by decide)
  have hkl : h.length % 2 ^ C.lp < 2 ^ C.lp := Nat.mod_lt _ p0
  have hbl := backN_lt h 1
  have hbd : backN h 1 / 2 ^ (8 - C.lc) ≤ backN h 1 := Nat.div_le_self _ _
  have nn : (0 : Int) ≤ ((backN h 1 / 2 ^ (8 - C.lc) : Nat) : Int) := Int.natCast_nonneg _
  have hm1 : h.length % 2 ^ C.lp * 2 ^ C.lc ≤ 16 * 16 := Nat.mul_le_mul (by omega) (by omega)
  have x1 : IntKind.i64.wrap (((h.length % 2 ^ C.lp : Nat) : Int) * ((2 ^ C.lc : Nat) : Int)) = ((h.length % 2 ^ C.lp * 2 ^ C.lc : Nat) : Int) := by
    rw [← Int.natCast_mul, wrap_i64] <;> omega
  have x2 : IntKind.i64.wrap (8 - ((C.lc : Nat) : Int)) = ((8 - C.lc : Nat) : Int) := by rw [wrap_i64] <;> omega
  have x3 : IntKind.i64.wrap ((backN h 1 / 2 ^ (8 - C.lc) : Nat) : Int) = ((backN h 1 / 2 ^ (8 - C.lc) : Nat) : Int) := by rw [wrap_i64] <;> omega
  have x4 : IntKind.i64.wrap (((h.length % 2 ^ C.lp * 2 ^ C.lc : Nat) : Int) + ((backN h 1 / 2 ^ (8 - C.lc) : Nat) : Int)) = ((h.length % 2 ^ C.lp * 2 ^ C.lc + backN h 1 / 2 ^ (8 - C.lc) : Nat) : Int) := by rw [wrap_i64] <;> omega
  have x5 : IntKind.i64.wrap (768 * ((h.length % 2 ^ C.lp * 2 ^ C.lc + backN h 1 / 2 ^ (8 - C.lc) : Nat) : Int)) = ((768 * (h.length % 2 ^ C.lp * 2 ^ C.lc + backN h 1 / 2 ^ (8 - C.lc)) : Nat) : Int) := by rw [wrap_i64] <;> omega
  have x6 : IntKind.i64.wrap (2180 + ((768 * (h.length % 2 ^ C.lp * 2 ^ C.lc + backN h 1 / 2 ^ (8 - C.lc)) : Nat) : Int)) = ((litB C h : Nat) : Int) := by unfold litB; rw [wrap_i64] <;> omega
  have hB := kback (D.drawn []) hi hh 1 (by decide)
  refine CallG.pk (ktwo D C.lp (by omega)) ?_
  simp (maxSteps := 1000000) -implicitDefEqProofs only [go_sem, seval, -List.reduceReplicate, q1, q2, q3, q4, q5, q6, co, tmN]
  refine ⟨by omega, ?_⟩
  refine ⟨Fx.mixed, .inl ⟨[(0, false), (1, false), (2, false), (3, false), (4, false), (7, false), (9, false), (10, false), (11, false), (12, false), (13, false), (5, true), (6, false), (8, true), (14, true), (15, false), (16, false), (17, false), (18, false), (19, false)], [], by kernel_rfl, (fun k hk => by cases hk), ?_⟩⟩
  simp (maxSteps := 1000000) -implicitDefEqProofs only [go_sem, seval, -List.reduceReplicate, q1, q2, q3, q4, q5, q6, co, fd, x2]
  refine CallG.pk (ktwo (D.drawn []) C.lc (by omega)) ?_
  simp (maxSteps := 1000000) -implicitDefEqProofs only [go_sem, seval, -List.reduceReplicate, q1, q2, q3, q4, q5, q6, x1]
  refine CallG.pk hB ?_
  simp (maxSteps := 1000000) -implicitDefEqProofs only [go_sem, seval, -List.reduceReplicate, q1, q2, q3, q4, q5, q6]
  refine CallG.pk (ktwo (D.drawn []) (8 - C.lc) (by omega)) ?_
  simp (maxSteps := 1000000) -implicitDefEqProofs only [go_sem, seval, -List.reduceReplicate, q1, q2, q3, q4, q5, q6, tdN, x3, x4, x5, x6]
  exact ⟨by omega, finP D _⟩
end
theorem wb_bitI (v i : Nat) : ((v / 2 ^ i % 2 : Nat) : Int) = bitI (wb (v : Int) i) := by
  have e : ((v : Nat) : Int).fdiv (2 ^ i) % 2 = ((v / 2 ^ i % 2 : Nat) : Int) := by
    rw [show ((2 : Int) ^ i) = ((2 ^ i : Nat) : Int) by rw [Int.natCast_pow]; rfl]
    rw [Int.fdiv_eq_ediv_of_nonneg _ (Int.natCast_nonneg _)]
    rfl
  unfold wb bitI
  rw [e]
  have := Nat.mod_lt (v / 2 ^ i) (show 0 < 2 by decide)
  rcases (show v / 2 ^ i % 2 = 0 ∨ v / 2 ^ i % 2 = 1 by omega) with h | h <;> rw [h] <;> rfl
section
variable {wr : Nat → Bool} {m : Mem} {nx c a : Nat} {C : MC} {P : List (BitVec 16)} {s : RS} {ns : List Nat}
set_option maxHeartbeats 2000000 in
theorem ktree (D : Rdm wr m nx) (lt : ∀ p ∈ m, p.1 < nx) (h : KA c a C m (P, s) ns) (hw : ∀ k ∈ ns, wr k = true) (base k v : Nat) (hk : k ≤ 8) (hj : base + 2 ^ k ≤ szP C) (hz : szP C ≤ 100000000) (hb : rencB s k) (hv : v < 4294967296) :
    CallG false Try.prog 146 [.ptr c 0, .ptr a 0, .int .i64 (base : Nat), .int .i64 (k : Nat), .int .i64 (v : Nat)] wr m nx (OwK (KA c a C) (.tup []) (told rencM (cmds (treeP base (v : Int) k 1)).2 P s) ns m nx) := by
  refine fn_okG Try.func146 rfl (by show 5 ≤ _; decide) ?_
  have w1 : IntKind.i64.wrap ((k : Int) - 1) = (k : Int) - 1 := by rw [wrap_i64] <;> omega
  simp (maxSteps := 1000000) -implicitDefEqProofs only [go_sem, seval, -List.reduceReplicate, Try.results146, Try.ntmps146, w1]
  refine LoopOk.upX (fun i (x : Nat × (List (BitVec 16) × RS) × List Nat × Mem × Nat) => told rencM (cmds (treeP base (v : Int) (k - i) x.1)).2 x.2.1.1 x.2.1.2 = told rencM (cmds (treeP base (v : Int) k 1)).2 P s ∧ 2 ^ i ≤ x.1 ∧ x.1 < 2 ^ (i + 1) ∧ rencB x.2.1.2 (k - i) ∧ KA c a C x.2.2.2.1 x.2.1 x.2.2.1 ∧ Fr ns m nx x.2.2.2.1 x.2.2.2.2 ∧ ∀ j ∈ x.2.2.1, j ∈ ns ∨ nx ≤ j) k
    (fun i x => ([(11, .int .i64 ((k : Int) - 1 - i)), (10, .int .i64 (x.1 : Nat)), (0, .ptr c 0), (1, .ptr a 0), (2, .int .i64 (base : Nat)), (3, .int .i64 (k : Nat)), (4, .int .i64 (v : Nat))], x.2.2.2.1, x.2.2.2.2)) (1, (P, s), ns, m, nx) ⟨rfl, Nat.le_refl 1, (by show 1 < 2; decide), hb, h, .refl D.nd lt, fun j hj => .inl hj⟩ (D.leN (Nat.le_refl _) ⟨by simp [Eng.look], rfl, rfl, rfl, rfl, rfl, rfl, trivial⟩) ?_
  rintro i ⟨mm, ⟨P1, s1⟩, ns1, m1, nx1⟩ ⟨hi, a1, a2, a3, a4, a5, a6, a7⟩
  have a1 : told rencM (cmds (treeP base (v : Int) (k - i) mm)).2 P1 s1 = told rencM (cmds (treeP base (v : Int) k 1)).2 P s := a1
  have a2 : 2 ^ i ≤ mm := a2
  have a3 : mm < 2 ^ (i + 1) := a3
  have a4 : rencB s1 (k - i) := a4
  have a5 : KA c a C m1 (P1, s1) ns1 := a5
  have a6 : Fr ns m nx m1 nx1 := a6
  have a7 : ∀ j ∈ ns1, j ∈ ns ∨ nx ≤ j := a7
  have D3 := a6.rdm D hw
  have hw3 := wrT D hw a7
  have pw : 2 ^ (i + 1) ≤ 2 ^ 9 := Nat.pow_le_pow_right (by decide) (by omega)
  rcases Nat.lt_or_ge i k with h' | h'
  · have g2 : decide ((k : Int) - 1 - (i : Int) ≥ 0) = true := decide_eq_true (by omega)
    have wi : IntKind.i64.wrap ((k : Int) - 1 - (i : Int) - 1) = (k : Int) - 1 - ((i + 1 : Nat) : Int) := by rw [wrap_i64] <;> omega
    have hki : (k : Int) - 1 - (i : Int) = ((k - (i + 1) : Nat) : Int) := by omega
    have pk : 2 ^ (i + 1) ≤ 2 ^ k := Nat.pow_le_pow_right (by decide) (by omega)
    have wb0 := wb_bitI v (k - (i + 1))
    rw [hki] at g2 wi
    simp (maxSteps := 1000000) -implicitDefEqProofs only [go_sem, seval, -List.reduceReplicate, hki, g2]
    have hm : mm < 2 ^ k := by omega
    have hjm : base + mm < szP C := by omega
    have hp0 : 0 < 2 ^ (k - (i + 1)) := Nat.pow_pos (by decide)
    have hdv : v / 2 ^ (k - (i + 1)) ≤ v := Nat.div_le_self _ _
    have nn : (0 : Int) ≤ ((v / 2 ^ (k - (i + 1)) : Nat) : Int) := Int.natCast_nonneg _
    have x1 : IntKind.i64.wrap ((base : Int) + (mm : Int)) = ((base + mm : Nat) : Int) := by rw [wrap_i64] <;> omega
    have x2 : IntKind.i64.wrap ((v / 2 ^ (k - (i + 1)) : Nat) : Int) = ((v / 2 ^ (k - (i + 1)) : Nat) : Int) := by rw [wrap_i64] <;> omega
    have hb1 : rencB s1 1 := rencBud.less _ _ _ a4 (by omega)
    have hN := kbit D3 a6.lt a5 hw3 hb1 (base + mm) hjm (wb (v : Int) (k - (i + 1)))
    have hb5 := rencBud.bit s1 (P1.getD (base + mm) 0) (wb (v : Int) (k - (i + 1))) (k - (i + 1)) (by rw [show k - (i + 1) + 1 = k - i by omega]; exact a4)
    have a1' : told rencM (cmds (treeP base (v : Int) (k - (i + 1)) (2 * mm + (wb (v : Int) (k - (i + 1))).toNat))).2 (told rencM [.b (base + mm) (wb (v : Int) (k - (i + 1)))] P1 s1).1 (told rencM [.b (base + mm) (wb (v : Int) (k - (i + 1)))] P1 s1).2 = told rencM (cmds (treeP base (v : Int) k 1)).2 P s := by
      rw [← a1, show k - i = k - (i + 1) + 1 by omega]; rfl
    refine CallG.pk (ktwo D3 (k - (i + 1)) (by omega)) ?_
    simp (maxSteps := 1000000) -implicitDefEqProofs only [go_sem, seval, -List.reduceReplicate, tdN, x2, tm2, wb0, x1]
    refine ⟨by omega, ?_⟩
    refine CallG.weak hN ?_
    generalize wb (v : Int) (k - (i + 1)) = b at *
    have hs5 : (told rencM [.b (base + mm) b] P1 s1).2 = (rencM.bit s1 (P1.getD (base + mm) 0) b).2 := rfl
    rw [← hs5] at hb5
    generalize told rencM [.b (base + mm) b] P1 s1 = z at *
    rintro v4 m4 nx4 ⟨rfl, fr4, ns4, S4, hn4⟩
    have hb2 := bool_lt b
    have x3 : IntKind.i64.wrap (2 * (mm : Int)) = ((2 * mm : Nat) : Int) := by rw [wrap_i64] <;> omega
    have x4 : IntKind.i64.wrap (((2 * mm : Nat) : Int) + bitI b) = ((2 * mm + b.toNat : Nat) : Int) := by
      cases b <;> (show IntKind.i64.wrap (_ + _) = _; unfold bitI; rw [wrap_i64] <;> simp <;> omega)
    simp (maxSteps := 1000000) -implicitDefEqProofs only [go_sem, seval, -List.reduceReplicate, x3, x4, wi]
    have F4 : Fr ns m nx m4 nx4 := a6.trans fr4 lt a7
    exact UpX_normal h' (2 * mm + b.toNat, z, ns4, m4, nx4) ⟨a1', by show 2 ^ (i + 1) ≤ 2 * mm + b.toNat; rw [Nat.pow_succ]; omega, by show 2 * mm + b.toNat < 2 ^ (i + 1 + 1); rw [Nat.pow_succ] at a3 ⊢; omega, hb5, S4, F4, subT a7 hn4 a6.le⟩ ((fr4.rdm D3 hw3).leN F4.le ⟨rfl, rfl, rfl, rfl, rfl, rfl, rfl, trivial⟩)
  · have hik : i = k := by omega
    have g2 : decide ((k : Int) - 1 - (i : Int) ≥ 0) = false := decide_eq_false (by omega)
    simp (maxSteps := 1000000) -implicitDefEqProofs only [go_sem, seval, -List.reduceReplicate, g2]
    rw [hik, Nat.sub_self] at a1
    rw [← a1]
    exact Fr.fin (At := KA c a C) (s' := (P1, s1)) a6 D hw a5 a7
end
end Go.Proofs.Ytmdeoikpiiambaa
end
section
/- The document's model: turned trees and lengths. BRIEF -/
set_option linter.unusedVariables false
set_option linter.unusedSimpArgs false
set_option maxRecDepth 100000
namespace Go.Proofs.Ytmdeoikpiiambaa
open Go Go.Eng

section
variable {wr : Nat → Bool} {m : Mem} {nx c a : Nat} {C : MC} {P : List (BitVec 16)} {s : RS} {ns : List Nat}
set_option maxHeartbeats 2000000 in
theorem kturned (D : Rdm wr m nx) (lt : ∀ p ∈ m, p.1 < nx) (h : KA c a C m (P, s) ns) (hw : ∀ k ∈ ns, wr k = true) (base k v : Nat) (hk : k ≤ 8) (hj : base + 2 ^ k ≤ szP C) (hz : szP C ≤ 100000000) (hb : rencB s k) (hv : v < 4294967296) :
    CallG false Try.prog 150 [.ptr c 0, .ptr a 0, .int .i64 (base : Nat), .int .i64 (k : Nat), .int .i64 (v : Nat)] wr m nx (OwK (KA c a C) (.tup []) (told rencM (cmds (turnP base (v : Int) k 0 1 0)).2 P s) ns m nx) := by
  refine fn_okG Try.func150 rfl (by show 5 ≤ _; decide) ?_
  simp (maxSteps := 1000000) -implicitDefEqProofs only [go_sem, seval, -List.reduceReplicate, Try.results150, Try.ntmps150]
  refine LoopOk.upX (fun i (x : (Nat × Nat) × (List (BitVec 16) × RS) × List Nat × Mem × Nat) => told rencM (cmds (turnP base (v : Int) (k - i) i x.1.1 x.1.2)).2 x.2.1.1 x.2.1.2 = told rencM (cmds (turnP base (v : Int) k 0 1 0)).2 P s ∧ 2 ^ i ≤ x.1.1 ∧ x.1.1 < 2 ^ (i + 1) ∧ rencB x.2.1.2 (k - i) ∧ KA c a C x.2.2.2.1 x.2.1 x.2.2.1 ∧ Fr ns m nx x.2.2.2.1 x.2.2.2.2 ∧ ∀ j ∈ x.2.2.1, j ∈ ns ∨ nx ≤ j) k
    (fun i x => ([(11, .int .i64 (i : Nat)), (10, .int .i64 (x.1.1 : Nat)), (0, .ptr c 0), (1, .ptr a 0), (2, .int .i64 (base : Nat)), (3, .int .i64 (k : Nat)), (4, .int .i64 ((v / 2 ^ i : Nat) : Int))], x.2.2.2.1, x.2.2.2.2)) ((1, 0), (P, s), ns, m, nx) ⟨rfl, Nat.le_refl 1, (by show 1 < 2; decide), hb, h, .refl D.nd lt, fun j hj => .inl hj⟩ (D.leN (Nat.le_refl _) ⟨rfl, rfl, rfl, rfl, rfl, rfl, by rw [Nat.pow_zero, Nat.div_one]; rfl, trivial⟩) ?_
  rintro i ⟨⟨mm, oo⟩, ⟨P1, s1⟩, ns1, m1, nx1⟩ ⟨hi, a1, a2, a3, a4, a5, a6, a7⟩
  have a1 : told rencM (cmds (turnP base (v : Int) (k - i) i mm oo)).2 P1 s1 = told rencM (cmds (turnP base (v : Int) k 0 1 0)).2 P s := a1
  have a2 : 2 ^ i ≤ mm := a2
  have a3 : mm < 2 ^ (i + 1) := a3
  have a4 : rencB s1 (k - i) := a4
  have a5 : KA c a C m1 (P1, s1) ns1 := a5
  have a6 : Fr ns m nx m1 nx1 := a6
  have a7 : ∀ j ∈ ns1, j ∈ ns ∨ nx ≤ j := a7
  have D3 := a6.rdm D hw
  have hw3 := wrT D hw a7
  have pw : 2 ^ (i + 1) ≤ 2 ^ 9 := Nat.pow_le_pow_right (by decide) (by omega)
  have wi : IntKind.i64.wrap ((i : Int) + 1) = ((i + 1 : Nat) : Int) := by rw [wrap_i64] <;> omega
  rcases Nat.lt_or_ge i k with h' | h'
  · have g2 : decide ((i : Int) < (k : Int)) = true := decide_eq_true (by omega)
    have pk : 2 ^ (i + 1) ≤ 2 ^ k := Nat.pow_le_pow_right (by decide) (by omega)
    have wb0 := wb_bitI v i
    have hm : mm < 2 ^ k := by omega
    have hjm : base + mm < szP C := by omega
    have nn : (0 : Int) ≤ ((v / 2 ^ i : Nat) : Int) := Int.natCast_nonneg _
    have hdv : v / 2 ^ i ≤ v := Nat.div_le_self _ _
    have td2 : ((v / 2 ^ i : Nat) : Int).tdiv 2 = ((v / 2 ^ (i + 1) : Nat) : Int) := by
      rw [show ((v / 2 ^ i : Nat) : Int).tdiv 2 = ((v / 2 ^ i / 2 : Nat) : Int) from rfl, Nat.div_div_eq_div_mul, Nat.pow_succ]
    have nn2 : (0 : Int) ≤ ((v / 2 ^ (i + 1) : Nat) : Int) := Int.natCast_nonneg _
    have hdv2 : v / 2 ^ (i + 1) ≤ v := Nat.div_le_self _ _
    have x2 : IntKind.i64.wrap ((v / 2 ^ (i + 1) : Nat) : Int) = ((v / 2 ^ (i + 1) : Nat) : Int) := by
      generalize v / 2 ^ (i + 1) = z at *
      rw [wrap_i64] <;> omega
    have x1 : IntKind.i64.wrap ((base : Int) + (mm : Int)) = ((base + mm : Nat) : Int) := by rw [wrap_i64] <;> omega
    have hb1 : rencB s1 1 := rencBud.less _ _ _ a4 (by omega)
    have hN := kbit D3 a6.lt a5 hw3 hb1 (base + mm) hjm (wb (v : Int) i)
    have hb5 := rencBud.bit s1 (P1.getD (base + mm) 0) (wb (v : Int) i) (k - (i + 1)) (by rw [show k - (i + 1) + 1 = k - i by omega]; exact a4)
    have a1' : told rencM (cmds (turnP base (v : Int) (k - (i + 1)) (i + 1) (2 * mm + (wb (v : Int) i).toNat) (oo + (wb (v : Int) i).toNat * 2 ^ i))).2 (told rencM [.b (base + mm) (wb (v : Int) i)] P1 s1).1 (told rencM [.b (base + mm) (wb (v : Int) i)] P1 s1).2 = told rencM (cmds (turnP base (v : Int) k 0 1 0)).2 P s := by
      rw [← a1, show k - i = k - (i + 1) + 1 by omega]; rfl
    simp (maxSteps := 1000000) -implicitDefEqProofs only [go_sem, seval, -List.reduceReplicate, g2, tm2, wb0, td2, x2, x1]
    refine CallG.weak hN ?_
    generalize wb (v : Int) i = b at *
    have hs5 : (told rencM [.b (base + mm) b] P1 s1).2 = (rencM.bit s1 (P1.getD (base + mm) 0) b).2 := rfl
    rw [← hs5] at hb5
    generalize told rencM [.b (base + mm) b] P1 s1 = z at *
    rintro v4 m4 nx4 ⟨rfl, fr4, ns4, S4, hn4⟩
    have hb2 := bool_lt b
    have x3 : IntKind.i64.wrap (2 * (mm : Int)) = ((2 * mm : Nat) : Int) := by rw [wrap_i64] <;> omega
    have x4 : IntKind.i64.wrap (((2 * mm : Nat) : Int) + bitI b) = ((2 * mm + b.toNat : Nat) : Int) := by
      cases b <;> (show IntKind.i64.wrap (_ + _) = _; unfold bitI; rw [wrap_i64] <;> simp <;> omega)
    simp (maxSteps := 1000000) -implicitDefEqProofs only [go_sem, seval, -List.reduceReplicate, x3, x4, wi]
    have F4 : Fr ns m nx m4 nx4 := a6.trans fr4 lt a7
    exact UpX_normal h' ((2 * mm + b.toNat, oo + b.toNat * 2 ^ i), z, ns4, m4, nx4) ⟨a1', by show 2 ^ (i + 1) ≤ 2 * mm + b.toNat; rw [Nat.pow_succ]; omega, by show 2 * mm + b.toNat < 2 ^ (i + 1 + 1); rw [Nat.pow_succ] at a3 ⊢; omega, hb5, S4, F4, subT a7 hn4 a6.le⟩ ((fr4.rdm D3 hw3).leN F4.le ⟨rfl, rfl, rfl, rfl, rfl, rfl, rfl, trivial⟩)
  · have hik : i = k := by omega
    have g2 : decide ((i : Int) < (k : Int)) = false := decide_eq_false (by omega)
    simp (maxSteps := 1000000) -implicitDefEqProofs only [go_sem, seval, -List.reduceReplicate, g2]
    rw [hik, Nat.sub_self] at a1
    rw [← a1]
    exact Fr.fin (At := KA c a C) (s' := (P1, s1)) a6 D hw a5 a7
theorem told_b {σ : Type} (M : Mach σ) (j : Nat) (w : Bool) (r : List Cmd) (P : List (BitVec 16)) (s : σ) : told M (.b j w :: r) P s = told M r (told M [.b j w] P s).1 (told M [.b j w] P s).2 := rfl
theorem cmds_tree (base : Nat) (w : Int) (k a b : Nat) : (cmds ((treeP base w k 1).bind fun m => .ret (a + (m - b)))).2 = (cmds (treeP base w k 1)).2 := by
  rw [cmds_bind]; exact List.append_nil _
theorem len_c1 (base place n : Nat) (h : n < 10) (h2 : 2 ≤ n) : (cmds (lenP base place (n : Int))).2 = .b base false :: (cmds (treeP (base + 2 + 8 * place) ((n - 2 : Nat) : Int) 3 1)).2 := by
  have e : (n : Int) - 2 = ((n - 2 : Nat) : Int) := by omega
  rw [lenP, cmds, decide_eq_false (by omega), e]
  show _ :: (cmds ((treeP (base + 2 + 8 * place) ((n - 2 : Nat) : Int) 3 1).bind _)).2 = _
  rw [cmds_tree]
theorem len_c2 (base place n : Nat) (h : 10 ≤ n) (h2 : n < 18) : (cmds (lenP base place (n : Int))).2 = .b base true :: .b (base + 1) false :: (cmds (treeP (base + 130 + 8 * place) ((n - 10 : Nat) : Int) 3 1)).2 := by
  have e : (n : Int) - 2 - 8 = ((n - 10 : Nat) : Int) := by omega
  rw [lenP, cmds, decide_eq_true (by omega), if_pos rfl, cmds, decide_eq_false (by omega), e]
  show _ :: _ :: (cmds ((treeP (base + 130 + 8 * place) ((n - 10 : Nat) : Int) 3 1).bind _)).2 = _
  rw [cmds_tree]
theorem len_c3 (base place n : Nat) (h : 18 ≤ n) : (cmds (lenP base place (n : Int))).2 = .b base true :: .b (base + 1) true :: (cmds (treeP (base + 258) ((n - 18 : Nat) : Int) 8 1)).2 := by
  have e : (n : Int) - 2 - 16 = ((n - 18 : Nat) : Int) := by omega
  rw [lenP, cmds, decide_eq_true (by omega), if_pos rfl, cmds, decide_eq_true (by omega), e]
  show _ :: _ :: (cmds ((treeP (base + 258) ((n - 18 : Nat) : Int) 8 1).bind _)).2 = _
  rw [cmds_tree]
theorem rencB_told {P : List (BitVec 16)} {s : RS} {k j : Nat} {w : Bool} (h : rencB s (k + 1)) : rencB (told rencM [.b j w] P s).2 k := rencBud.bit s (P.getD j 0) w k h
set_option maxHeartbeats 2000000 in
theorem klength (D : Rdm wr m nx) (lt : ∀ p ∈ m, p.1 < nx) (h : KA c a C m (P, s) ns) (hw : ∀ k ∈ ns, wr k = true) (base place n : Nat) (hbs : base + 514 ≤ szP C) (hpl : place < 16) (hz : szP C ≤ 100000000) (hb : rencB s 10) (h2 : 2 ≤ n) (h3 : n ≤ 273) :
    CallG false Try.prog 101 [.ptr c 0, .ptr a 0, .int .i64 (base : Nat), .int .i64 (place : Nat), .int .i64 (n : Nat)] wr m nx (OwK (KA c a C) (.tup []) (told rencM (cmds (lenP base place (n : Int))).2 P s) ns m nx) := by
  refine fn_okG Try.func101 rfl (by show 5 ≤ _; decide) ?_
  have w1 : IntKind.i64.wrap ((n : Int) - 2) = ((n - 2 : Nat) : Int) := by rw [wrap_i64] <;> omega
  have w2 : IntKind.i64.wrap ((base : Int) + 2) = ((base + 2 : Nat) : Int) := by rw [wrap_i64] <;> omega
  have w3 : IntKind.i64.wrap (8 * (place : Int)) = ((8 * place : Nat) : Int) := by rw [wrap_i64] <;> omega
  have w4 : IntKind.i64.wrap (((base + 2 : Nat) : Int) + ((8 * place : Nat) : Int)) = ((base + 2 + 8 * place : Nat) : Int) := by rw [wrap_i64] <;> omega
  have w5 : IntKind.i64.wrap ((base : Int) + 1) = ((base + 1 : Nat) : Int) := by rw [wrap_i64] <;> omega
  have w6 : IntKind.i64.wrap ((base : Int) + 130) = ((base + 130 : Nat) : Int) := by rw [wrap_i64] <;> omega
  have w7 : IntKind.i64.wrap (((base + 130 : Nat) : Int) + ((8 * place : Nat) : Int)) = ((base + 130 + 8 * place : Nat) : Int) := by rw [wrap_i64] <;> omega
  have w8 : IntKind.i64.wrap ((base : Int) + 258) = ((base + 258 : Nat) : Int) := by rw [wrap_i64] <;> omega
  have g := fun w => kbit D lt h hw (rencBud.less _ _ 1 hb (by decide)) base (by omega) w
  rcases Nat.lt_or_ge n 10 with h10 | h10
  · have c1 : decide (((n - 2 : Nat) : Int) < 8) = true := decide_eq_true (by omega)
    rw [len_c1 base place n h10 h2, told_b]
    have hb9 : rencB (told rencM [.b base false] P s).2 9 := rencB_told hb
    have g := g false
    generalize told rencM [.b base false] P s = z at *
    obtain ⟨P1, s1⟩ := z
    simp (maxSteps := 1000000) -implicitDefEqProofs only [go_sem, seval, -List.reduceReplicate, Try.results101, Try.ntmps101, w1, c1]
    refine CallG.weak g ?_
    rintro v m1 nx1 ⟨rfl, fr1, ns1, k1, hn1⟩
    have D1 := fr1.rdm D hw
    have hw1 := wrT D hw hn1
    simp (maxSteps := 1000000) -implicitDefEqProofs only [go_sem, seval, -List.reduceReplicate, w2, w3, w4]
    refine CallG.weak (ktree D1 fr1.lt k1 hw1 (base + 2 + 8 * place) 3 (n - 2) (by decide) (by omega) hz (rencBud.less _ _ _ hb9 (by decide)) (by omega)) ?_
    rintro v m2 nx2 ⟨rfl, fr2, ns2, k2, hn2⟩
    simp (maxSteps := 1000000) -implicitDefEqProofs only [go_sem, seval, -List.reduceReplicate]
    exact Fr.fin (fr1.trans fr2 lt hn1) D hw k2 (subT hn1 hn2 fr1.le)
  have c1 : decide (((n - 2 : Nat) : Int) < 8) = false := decide_eq_false (by omega)
  have g := g true
  have hb9 : rencB (told rencM [.b base true] P s).2 9 := rencB_told hb
  rcases Nat.lt_or_ge n 18 with h18 | h18
  · have c2 : decide (((n - 2 : Nat) : Int) < 16) = true := decide_eq_true (by omega)
    have w9 : IntKind.i64.wrap (((n - 2 : Nat) : Int) - 8) = ((n - 10 : Nat) : Int) := by rw [wrap_i64] <;> omega
    rw [len_c2 base place n h10 h18, told_b]
    generalize told rencM [.b base true] P s = z at *
    obtain ⟨P1, s1⟩ := z
    simp (maxSteps := 1000000) -implicitDefEqProofs only [go_sem, seval, -List.reduceReplicate, Try.results101, Try.ntmps101, w1, c1]
    refine CallG.weak g ?_
    rintro v m1 nx1 ⟨rfl, fr1, ns1, k1, hn1⟩
    have D1 := fr1.rdm D hw
    have hw1 := wrT D hw hn1
    rw [told_b]
    have g2 := kbit D1 fr1.lt k1 hw1 (rencBud.less _ _ 1 hb9 (by decide)) (base + 1) (by omega) false
    have hb8 : rencB (told rencM [.b (base + 1) false] P1 s1).2 8 := rencB_told hb9
    generalize told rencM [.b (base + 1) false] P1 s1 = z at *
    obtain ⟨P2, s2⟩ := z
    simp (maxSteps := 1000000) -implicitDefEqProofs only [go_sem, seval, -List.reduceReplicate, c2, w5]
    refine CallG.weak g2 ?_
    rintro v m2 nx2 ⟨rfl, fr2, ns2, k2, hn2⟩
    have D2 := fr2.rdm D1 hw1
    have hw2 := wrT D1 hw1 hn2
    simp (maxSteps := 1000000) -implicitDefEqProofs only [go_sem, seval, -List.reduceReplicate, w6, w3, w7, w9]
    refine CallG.weak (ktree D2 fr2.lt k2 hw2 (base + 130 + 8 * place) 3 (n - 10) (by decide) (by omega) hz (rencBud.less _ _ _ hb8 (by decide)) (by omega)) ?_
    rintro v m3 nx3 ⟨rfl, fr3, ns3, k3, hn3⟩
    simp (maxSteps := 1000000) -implicitDefEqProofs only [go_sem, seval, -List.reduceReplicate]
    exact Fr.fin ((fr1.trans fr2 lt hn1).trans fr3 lt (subT hn1 hn2 fr1.le)) D hw k3 (subT (subT hn1 hn2 fr1.le) hn3 (Nat.le_trans fr1.le fr2.le))
  · have c2 : decide (((n - 2 : Nat) : Int) < 16) = false := decide_eq_false (by omega)
    have w9 : IntKind.i64.wrap (((n - 2 : Nat) : Int) - 16) = ((n - 18 : Nat) : Int) := by rw [wrap_i64] <;> omega
    rw [len_c3 base place n h18, told_b]
    generalize told rencM [.b base true] P s = z at *
    obtain ⟨P1, s1⟩ := z
    simp (maxSteps := 1000000) -implicitDefEqProofs only [go_sem, seval, -List.reduceReplicate, Try.results101, Try.ntmps101, w1, c1]
    refine CallG.weak g ?_
    rintro v m1 nx1 ⟨rfl, fr1, ns1, k1, hn1⟩
    have D1 := fr1.rdm D hw
    have hw1 := wrT D hw hn1
    rw [told_b]
    have g2 := kbit D1 fr1.lt k1 hw1 (rencBud.less _ _ 1 hb9 (by decide)) (base + 1) (by omega) true
    have hb8 : rencB (told rencM [.b (base + 1) true] P1 s1).2 8 := rencB_told hb9
    generalize told rencM [.b (base + 1) true] P1 s1 = z at *
    obtain ⟨P2, s2⟩ := z
    simp (maxSteps := 1000000) -implicitDefEqProofs only [go_sem, seval, -List.reduceReplicate, c2, w5]
    refine CallG.weak g2 ?_
    rintro v m2 nx2 ⟨rfl, fr2, ns2, k2, hn2⟩
    have D2 := fr2.rdm D1 hw1
    have hw2 := wrT D1 hw1 hn2
    simp (maxSteps := 1000000) -implicitDefEqProofs only [go_sem, seval, -List.reduceReplicate, w8, w9]
    refine CallG.weak (ktree D2 fr2.lt k2 hw2 (base + 258) 8 (n - 18) (by decide) (by omega) hz hb8 (by omega)) ?_
    rintro v m3 nx3 ⟨rfl, fr3, ns3, k3, hn3⟩
    simp (maxSteps := 1000000) -implicitDefEqProofs only [go_sem, seval, -List.reduceReplicate]
    exact Fr.fin ((fr1.trans fr2 lt hn1).trans fr3 lt (subT hn1 hn2 fr1.le)) D hw k3 (subT (subT hn1 hn2 fr1.le) hn3 (Nat.le_trans fr1.le fr2.le))
end
end Go.Proofs.Ytmdeoikpiiambaa
end
section
/- The document's model: slots and distances. BRIEF -/
set_option linter.unusedVariables false
set_option linter.unusedSimpArgs false
set_option maxRecDepth 100000
namespace Go.Proofs.Ytmdeoikpiiambaa
open Go Go.Eng

def nN (d : Nat) : Nat := lenN d - 2
def slotN (d : Nat) : Nat := if d < 4 then d else 2 * nN d + d / 2 ^ nN d
theorem lenN_bounds {d : Nat} (h : 4 ≤ d) : 3 ≤ lenN d ∧ 2 ^ (lenN d - 1) ≤ d ∧ d < 2 ^ lenN d := by
  have h0 : d ≠ 0 := by omega
  have e : lenN d = Nat.log2 d + 1 := by unfold lenN; rw [if_neg h0]
  have h1 := Nat.log2_self_le h0
  have h2 := Nat.lt_log2_self (n := d)
  have h3 : 2 ≤ Nat.log2 d := (Nat.le_log2 h0).2 (by show 2 ^ 2 ≤ d; omega)
  rw [e]
  exact ⟨by omega, by rw [Nat.add_sub_cancel]; exact h1, h2⟩
theorem nN_lt {d i : Nat} (h : 4 ≤ d) (hi : i < nN d) : 3 < d / 2 ^ i := by
  obtain ⟨h1, h2, h3⟩ := lenN_bounds h
  unfold nN at hi
  have hp : 0 < 2 ^ i := Nat.pow_pos (by decide)
  have : 4 ≤ d / 2 ^ i := by
    rw [Nat.le_div_iff_mul_le hp, show 4 = 2 ^ 2 from rfl, ← Nat.pow_add]
    exact Nat.le_trans (Nat.pow_le_pow_right (by decide) (by omega)) h2
  omega
theorem nN_end {d : Nat} (h : 4 ≤ d) : 2 ≤ d / 2 ^ nN d ∧ d / 2 ^ nN d < 4 := by
  obtain ⟨h1, h2, h3⟩ := lenN_bounds h
  unfold nN
  have hp : 0 < 2 ^ (lenN d - 2) := Nat.pow_pos (by decide)
  constructor
  · rw [Nat.le_div_iff_mul_le hp]
    have : 2 * 2 ^ (lenN d - 2) = 2 ^ (lenN d - 1) := by rw [Nat.mul_comm, ← Nat.pow_succ]; congr 1; omega
    omega
  · rw [Nat.div_lt_iff_lt_mul hp]
    have : 4 * 2 ^ (lenN d - 2) = 2 ^ lenN d := by rw [show 4 = 2 ^ 2 from rfl, ← Nat.pow_add]; congr 1; omega
    omega
theorem nN_small {d : Nat} (h : d < 4) : nN d = 0 := by
  have : d = 0 ∨ d = 1 ∨ d = 2 ∨ d = 3 := by omega
  rcases this with rfl | rfl | rfl | rfl <;> decide
theorem slotN_eq (d : Nat) : slotW (d : Int) = (slotN d : Int) := by
  have e0 : (max (d : Int) 0).toNat = d := by omega
  unfold slotW slotN
  rw [e0, Int.toNat_natCast]
  rcases Nat.lt_or_ge d 4 with h | h
  · rw [if_pos h, if_neg (by have := nN_small h; unfold nN at this; omega)]
  · obtain ⟨h1, h2, h3⟩ := lenN_bounds h
    obtain ⟨e1, e2⟩ := nN_end h
    rw [if_pos (show lenN d > 2 by omega), if_neg (show ¬ d < 4 by omega)]
    unfold nN at *
    generalize d / 2 ^ (lenN d - 2) = z at *
    omega
theorem nN_le {d : Nat} (h : d < 4294967296) : nN d ≤ 30 := by have := lenN_le h; unfold nN; omega
section
variable {wr : Nat → Bool} {m : Mem} {nx : Nat}
set_option maxHeartbeats 1000000 in
theorem kslot (D : Rdm wr m nx) (d : Nat) (hd : d < 4294967296) : CallG false Try.prog 148 [.int .i64 (d : Nat)] wr m nx (PK (.tup [.int .i64 (slotN d : Nat), .int .i64 (nN d : Nat)]) m nx) := by
  refine fn_okG Try.func148 rfl (by show 1 ≤ _; decide) ?_
  have hn := nN_le hd
  rcases Nat.lt_or_ge d 4 with h | h
  · have c1 : decide ((d : Int) < 4) = true := decide_eq_true (by omega)
    rw [nN_small h, show slotN d = d from if_pos h]
    simp (maxSteps := 1000000) -implicitDefEqProofs only [go_sem, seval, -List.reduceReplicate, Try.results148, Try.ntmps148, c1]
    exact finP D _
  have c1 : decide ((d : Int) < 4) = false := decide_eq_false (by omega)
  have es : slotN d = 2 * nN d + d / 2 ^ nN d := if_neg (by omega)
  obtain ⟨e1, e2⟩ := nN_end h
  simp (maxSteps := 1000000) -implicitDefEqProofs only [go_sem, seval, -List.reduceReplicate, Try.results148, Try.ntmps148, c1]
  refine LoopOk.upX (fun i (x : Unit) => True) (nN d) (fun i x => ([(5, .int .i64 ((d / 2 ^ i : Nat) : Int)), (4, .int .i64 (i : Nat)), (0, .int .i64 (d : Nat))], m, nx)) () trivial (D.leN (Nat.le_refl _) ⟨by rw [Nat.pow_zero, Nat.div_one]; rfl, rfl, rfl, trivial⟩) ?_
  rintro i ⟨⟩ ⟨hi, _⟩
  have wi : IntKind.i64.wrap ((i : Int) + 1) = ((i + 1 : Nat) : Int) := by rw [wrap_i64] <;> omega
  have td2 : ((d / 2 ^ i : Nat) : Int).tdiv 2 = ((d / 2 ^ (i + 1) : Nat) : Int) := by
    rw [show ((d / 2 ^ i : Nat) : Int).tdiv 2 = ((d / 2 ^ i / 2 : Nat) : Int) from rfl, Nat.div_div_eq_div_mul, Nat.pow_succ]
  have hdv2 : d / 2 ^ (i + 1) ≤ d := Nat.div_le_self _ _
  have x2 : IntKind.i64.wrap ((d / 2 ^ (i + 1) : Nat) : Int) = ((d / 2 ^ (i + 1) : Nat) : Int) := by
    generalize d / 2 ^ (i + 1) = z at *
    rw [wrap_i64] <;> omega
  rcases Nat.lt_or_ge i (nN d) with h' | h'
  · have hgt := nN_lt h h'
    have c2 : decide (((d / 2 ^ i : Nat) : Int) > 3) = true := decide_eq_true (by exact Int.ofNat_lt.2 hgt)
    simp (maxSteps := 1000000) -implicitDefEqProofs only [go_sem, seval, -List.reduceReplicate, c2, wi, td2, x2]
    exact UpX_normal h' () trivial (D.leN (Nat.le_refl _) ⟨rfl, rfl, rfl, trivial⟩)
  · have he : i = nN d := by omega
    have c2 : decide (((d / 2 ^ i : Nat) : Int) > 3) = false := decide_eq_false (fun hh => by rw [he] at hh; have := Int.ofNat_lt.1 hh; omega)
    have w3 : IntKind.i64.wrap (2 * (i : Int)) = ((2 * i : Nat) : Int) := by rw [wrap_i64] <;> omega
    have w4 : IntKind.i64.wrap ((d / 2 ^ i : Nat) : Int) = ((d / 2 ^ i : Nat) : Int) := by
      rw [he]; generalize d / 2 ^ nN d = z at *; rw [wrap_i64] <;> omega
    have w5 : IntKind.i64.wrap (((2 * i : Nat) : Int) + ((d / 2 ^ i : Nat) : Int)) = ((slotN d : Nat) : Int) := by
      rw [he, es]; generalize d / 2 ^ nN d = z at *; rw [wrap_i64] <;> omega
    simp (maxSteps := 1000000) -implicitDefEqProofs only [go_sem, seval, -List.reduceReplicate, c2]
    refine CallG.pk (ktwo D i (by omega)) ?_
    simp (maxSteps := 1000000) -implicitDefEqProofs only [go_sem, seval, -List.reduceReplicate, tdN, w3, w4, w5]
    have hp : 0 < 2 ^ nN d := Nat.pow_pos (by decide)
    rw [he]
    refine ⟨fun e => ?_, finP D _⟩
    rw [show ((2 ^ nN d : Nat) : Int) = ((2 ^ nN d : Nat) : Int) from rfl] at e
    have := Int.ofNat.inj e
    omega
end
theorem slotN_small {d : Nat} (h : d < 4) : slotN d = d := if_pos h
theorem slotN_big {d : Nat} (h : 4 ≤ d) : ∃ b, b < 2 ∧ slotN d = 2 * nN d + 2 + b ∧ 1 ≤ nN d ∧ d = (2 + b) * 2 ^ nN d + d % 2 ^ nN d := by
  obtain ⟨e1, e2⟩ := nN_end h
  obtain ⟨h1, h2, h3⟩ := lenN_bounds h
  have hd := Nat.div_add_mod d (2 ^ nN d)
  refine ⟨d / 2 ^ nN d - 2, by omega, ?_, by unfold nN; omega, ?_⟩
  · rw [slotN, if_neg (by omega)]
    generalize d / 2 ^ nN d = z at *
    omega
  · rw [show 2 + (d / 2 ^ nN d - 2) = d / 2 ^ nN d by omega, Nat.mul_comm]; exact hd.symm
theorem slotN_lt {d : Nat} (h : d < 4294967296) : slotN d < 64 := by
  rcases Nat.lt_or_ge d 4 with h4 | h4
  · rw [slotN_small h4]; omega
  · obtain ⟨b, hb, e, _, _⟩ := slotN_big h4
    have := nN_le h
    omega
def dtail (d : Nat) : List Cmd := if d < 4 then [] else if slotN d < 14 then (cmds (turnP (1716 + 32 * slotN d) ((d % 2 ^ nN d : Nat) : Int) (nN d) 0 1 0)).2 else .l (BitVec.ofNat 32 (d % 2 ^ nN d / 16)) (nN d - 4) :: (cmds (turnP 2164 ((d % 2 ^ nN d % 16 : Nat) : Int) 4 0 1 0)).2
theorem dist_cmds (n d : Nat) (h : d < 4294967296) : (cmds (distP n ((d + 1 : Nat) : Int))).2 = (cmds (treeP (1460 + 64 * min (n - 2) 3) ((slotN d : Nat) : Int) 6 1)).2 ++ dtail d := by
  have hs := slotN_lt h
  have e1 : ((d + 1 : Nat) : Int) - 1 = (d : Int) := by omega
  show (cmds ((treeP (1460 + 64 * min (n - 2) 3) (slotW (((d + 1 : Nat) : Int) - 1)) 6 1).bind (distK ((d + 1 : Nat) : Int)))).2 = _
  rw [cmds_bind, e1, slotN_eq, treeP_val, show 1 * 2 ^ 6 + slotN d % 2 ^ 6 = 64 + slotN d by omega]
  show _ ++ _ = _ ++ _
  congr 1
  unfold distK dtail
  rw [show 64 + slotN d - 64 = slotN d by omega, e1]
  rcases Nat.lt_or_ge d 4 with h4 | h4
  · rw [slotN_small h4, if_pos h4]
    simp only [if_pos h4]
    rfl
  · obtain ⟨b, hb, e, hn1, hd⟩ := slotN_big h4
    have hN : slotN d / 2 - 1 = nN d := by omega
    have hB : 2 + slotN d % 2 = 2 + b := by omega
    have hr : (d : Int) - (((2 + b) * 2 ^ nN d : Nat) : Int) = ((d % 2 ^ nN d : Nat) : Int) := by
      generalize (2 + b) * 2 ^ nN d = z at *
      generalize d % 2 ^ nN d = y at *
      omega
    rw [if_neg (show ¬ d < 4 by omega)]
    simp only [if_neg (show ¬ slotN d < 4 by omega), hN, hB, hr]
    by_cases h14 : slotN d < 14
    · rw [if_pos h14, if_pos h14, cmds_bind]
      exact List.append_nil _
    · rw [if_neg h14, if_neg h14, cmds]
      have hf : (((d % 2 ^ nN d : Nat) : Int).fdiv 16) = ((d % 2 ^ nN d / 16 : Nat) : Int) := (Int.ofNat_fdiv (d % 2 ^ nN d) 16).symm
      rw [hf, BitVec.ofInt_natCast]
      show _ :: _ = _ :: _
      congr 1
section
variable {wr : Nat → Bool} {m : Mem} {nx c a : Nat} {C : MC} {P : List (BitVec 16)} {s : RS} {ns : List Nat}
theorem kplain (D : Rdm wr m nx) (lt : ∀ p ∈ m, p.1 < nx) (h : KA c a C m (P, s) ns) (hw : ∀ k ∈ ns, wr k = true) (hb : rencB s 1) (v : BitVec 32) (n : Nat) (hn : n ≤ 32) :
    CallG false Try.prog 152 [.ptr a 0, .int .u32 (v.toNat : Int), .int .i64 (n : Nat)] wr m nx (OwK (KA c a C) (.tup []) (told rencM [.l v n] P s) ns m nx) := by
  obtain ⟨r, rc, q, qc, rs, qs, ne, rfl, hd, he, n1, n2, n3⟩ := h
  have hd : DoA c r rc q qc rs qs C P m := hd
  have he : RcAt a m s ne := he
  obtain ⟨b1, b2, b3⟩ := hb
  have cl := look_ltm lt hd.co
  have rl := look_ltm lt hd.re
  have ql := look_ltm lt hd.ch
  refine CallG.weak (rplOk D lt he (fun k hk => hw k (.tail _ (.tail _ (.tail _ hk)))) b1 n v (by omega)) ?_
  rintro v2 m2 nx2 ⟨rfl, fr2, ne2, h2, hn2⟩
  have q2 : ∀ k, k ∉ ne → k < nx → k ∉ ne2 := fun k h1 h2 hm => by
    rcases hn2 k hm with h | h
    · exact h1 h
    · omega
  exact ⟨rfl, fr2.wide fun k hk => .tail _ (.tail _ (.tail _ hk)), c :: r :: q :: ne2, ⟨r, rc, q, qc, rs, qs, ne2, rfl, hd.ext fun k hk o ho => fr2.kp k o (by rcases hk with rfl | rfl | rfl; exact n1; exact n2; exact n3) ho, h2, q2 c n1 cl, q2 r n2 rl, q2 q n3 ql⟩, fun k hk => by
    rcases List.mem_cons.1 hk with rfl | hk
    · exact .inl (.head _)
    rcases List.mem_cons.1 hk with rfl | hk
    · exact .inl (.tail _ (.head _))
    rcases List.mem_cons.1 hk with rfl | hk
    · exact .inl (.tail _ (.tail _ (.head _)))
    · exact (hn2 k hk).imp (fun h => .tail _ (.tail _ (.tail _ h))) id⟩
theorem told_a (a b : List Cmd) (P : List (BitVec 16)) (s : RS) : told rencM (a ++ b) P s = told rencM b (told rencM a P s).1 (told rencM a P s).2 := told_app rencM a b P s
theorem rencB_cmds {α : Type} {p : Pg α} {n k : Nat} {P : List (BitVec 16)} {s : RS} (hp : p.Le n) (h : rencB s (k + n)) : rencB (told rencM (cmds p).2 P s).2 k := by
  have := rencBud.run n k p P s hp h
  rw [run_enc rencE] at this
  exact this
set_option maxHeartbeats 4000000 in
theorem kdistance (D : Rdm wr m nx) (lt : ∀ p ∈ m, p.1 < nx) (h : KA c a C m (P, s) ns) (hw : ∀ k ∈ ns, wr k = true) (n d : Nat) (hz : szP C ≤ 100000000) (hb : rencB s 12) (h2 : 2 ≤ n) (h3 : n ≤ 273) (hd : d < 4294967295) :
    CallG false Try.prog 103 [.ptr c 0, .ptr a 0, .int .i64 (n : Nat), .int .i64 ((d + 1 : Nat) : Int)] wr m nx (OwK (KA c a C) (.tup []) (told rencM (cmds (distP n ((d + 1 : Nat) : Int))).2 P s) ns m nx) := by
  refine fn_okG Try.func103 rfl (by show 4 ≤ _; decide) ?_
  have w1 : IntKind.i64.wrap (((d + 1 : Nat) : Int) - 1) = (d : Int) := by rw [wrap_i64] <;> omega
  have sz := szP_le C
  have hs := slotN_lt (d := d) (by omega)
  have hN := nN_le (d := d) (by omega)
  have hm3 : min (n - 2) 3 ≤ 3 := Nat.min_le_right _ _
  rw [dist_cmds n d (by omega), told_a]
  have ht := ktree D lt h hw (1460 + 64 * min (n - 2) 3) 6 (slotN d) (by decide) (by omega) hz (rencBud.less _ _ _ hb (by decide)) (by omega)
  have hb6 := rencB_cmds (P := P) (treeP_le (1460 + 64 * min (n - 2) 3) ((slotN d : Nat) : Int) 6 1) (k := 6) hb
  generalize told rencM (cmds (treeP (1460 + 64 * min (n - 2) 3) ((slotN d : Nat) : Int) 6 1)).2 P s = z at *
  obtain ⟨P1, s1⟩ := z
  simp (maxSteps := 1000000) -implicitDefEqProofs only [go_sem, seval, -List.reduceReplicate, Try.results103, Try.ntmps103, w1]
  refine CallG.pk (kslot D d (by omega)) ?_
  simp (maxSteps := 1000000) -implicitDefEqProofs only [go_sem, seval, -List.reduceReplicate]
  refine CallG.pk (kslots D n h2 h3) ?_
  simp (maxSteps := 1000000) -implicitDefEqProofs only [go_sem, seval, -List.reduceReplicate]
  refine CallG.weak ht ?_
  rintro v m1 nx1 ⟨rfl, fr1, ns1, k1, hn1⟩
  have D1 := fr1.rdm D hw
  have hw1 := wrT D hw hn1
  rcases Nat.lt_or_ge d 4 with h4 | h4
  · have g0 : (((nN d : Nat) : Int) == 0) = true := by rw [nN_small h4]; rfl
    simp (maxSteps := 1000000) -implicitDefEqProofs only [go_sem, seval, -List.reduceReplicate, g0]
    rw [show dtail d = [] from if_pos h4]
    exact Fr.fin (At := KA c a C) (s' := (P1, s1)) fr1 D hw k1 hn1
  obtain ⟨b, hb2, es, hn0, hdd⟩ := slotN_big h4
  have g0 : (((nN d : Nat) : Int) == 0) = false := by rw [beq_eq_false_iff_ne]; omega
  have hp0 : 0 < 2 ^ nN d := Nat.pow_pos (by decide)
  have hmod : d % 2 ^ nN d < 2 ^ nN d := Nat.mod_lt _ hp0
  have hmd : d % 2 ^ nN d ≤ d := Nat.mod_le _ _
  simp (maxSteps := 1000000) -implicitDefEqProofs only [go_sem, seval, -List.reduceReplicate, g0]
  refine CallG.pk (ktwo D1 (nN d) (by omega)) ?_
  obtain ⟨R, hR⟩ : ∃ R, R = d % 2 ^ nN d := ⟨_, rfl⟩
  have hRd : R ≤ d := by omega
  have p0 : ¬ ((2 ^ nN d : Nat) : Int) = 0 := fun e => by have := Int.ofNat.inj e; omega
  by_cases h14 : slotN d < 14
  · have c2 : decide (((slotN d : Nat) : Int) < 14) = true := decide_eq_true (by omega)
    rw [show dtail d = (cmds (turnP (1716 + 32 * slotN d) ((R : Nat) : Int) (nN d) 0 1 0)).2 by unfold dtail; rw [if_neg (by omega), if_pos h14, hR]]
    have hN5 : nN d ≤ 5 := by omega
    have hp5 : 2 ^ nN d ≤ 2 ^ 5 := Nat.pow_le_pow_right (by decide) hN5
    simp (maxSteps := 1000000) -implicitDefEqProofs only [go_sem, seval, -List.reduceReplicate, tmN, p0, c2, ← hR]
    refine CallG.pk (klow D1 (slotN d) (by omega)) ?_
    simp (maxSteps := 1000000) -implicitDefEqProofs only [go_sem, seval, -List.reduceReplicate]
    refine CallG.weak (kturned D1 fr1.lt k1 hw1 (1716 + 32 * slotN d) (nN d) R (by omega) (by omega) hz (rencBud.less _ _ _ hb6 (by omega)) (by omega)) ?_
    rintro v m2 nx2 ⟨rfl, fr2, ns2, k2, hn2⟩
    simp (maxSteps := 1000000) -implicitDefEqProofs only [go_sem, seval, -List.reduceReplicate]
    exact Fr.fin (fr1.trans fr2 lt hn1) D hw k2 (subT hn1 hn2 fr1.le)
  · have c2 : decide (((slotN d : Nat) : Int) < 14) = false := decide_eq_false (by omega)
    have hR1 : R / 16 ≤ R := Nat.div_le_self _ _
    have x1 : IntKind.i64.wrap ((R / 16 : Nat) : Int) = ((R / 16 : Nat) : Int) := by rw [wrap_i64] <;> omega
    have td : ((R : Nat) : Int).tdiv 16 = ((R / 16 : Nat) : Int) := rfl
    have tm : ((R : Nat) : Int).tmod 16 = ((R % 16 : Nat) : Int) := rfl
    have x2 : IntKind.u32.wrap ((R / 16 : Nat) : Int) = (((BitVec.ofNat 32 (R / 16)).toNat : Nat) : Int) := by
      rw [BitVec.toNat_ofNat]
      show ((R / 16 : Nat) : Int) % 4294967296 = _
      omega
    have x3 : IntKind.i64.wrap (((nN d : Nat) : Int) - 4) = ((nN d - 4 : Nat) : Int) := by rw [wrap_i64] <;> omega
    rw [show dtail d = [.l (BitVec.ofNat 32 (R / 16)) (nN d - 4)] ++ (cmds (turnP 2164 ((R % 16 : Nat) : Int) 4 0 1 0)).2 by unfold dtail; rw [if_neg (by omega), if_neg h14, hR]; rfl, told_a]
    have hpl := kplain D1 fr1.lt k1 hw1 (rencBud.less _ _ _ hb6 (by decide)) (BitVec.ofNat 32 (R / 16)) (nN d - 4) (by omega)
    have hb5 : rencB (told rencM [.l (BitVec.ofNat 32 (R / 16)) (nN d - 4)] P1 s1).2 5 := rencBud.plain s1 (BitVec.ofNat 32 (R / 16)) (nN d - 4) 5 (by omega) hb6
    generalize told rencM [.l (BitVec.ofNat 32 (R / 16)) (nN d - 4)] P1 s1 = z at *
    obtain ⟨P2, s2⟩ := z
    simp (maxSteps := 1000000) -implicitDefEqProofs only [go_sem, seval, -List.reduceReplicate, tmN, p0, c2, ← hR, td, x1, x2, x3]
    refine CallG.weak hpl ?_
    rintro v m2 nx2 ⟨rfl, fr2, ns2, k2, hn2⟩
    have D2 := fr2.rdm D1 hw1
    have hw2 := wrT D1 hw1 hn2
    simp (maxSteps := 1000000) -implicitDefEqProofs only [go_sem, seval, -List.reduceReplicate]
    refine CallG.pk (kalign D2) ?_
    simp (maxSteps := 1000000) -implicitDefEqProofs only [go_sem, seval, -List.reduceReplicate, tm]
    refine CallG.weak (kturned D2 fr2.lt k2 hw2 2164 4 (R % 16) (by decide) (by omega) hz (rencBud.less _ _ _ hb5 (by decide)) (by omega)) ?_
    rintro v m3 nx3 ⟨rfl, fr3, ns3, k3, hn3⟩
    simp (maxSteps := 1000000) -implicitDefEqProofs only [go_sem, seval, -List.reduceReplicate]
    exact Fr.fin ((fr1.trans fr2 lt hn1).trans fr3 lt (subT hn1 hn2 fr1.le)) D hw k3 (subT (subT hn1 hn2 fr1.le) hn3 (Nat.le_trans fr1.le fr2.le))
end
end Go.Proofs.Ytmdeoikpiiambaa
end
section
/- The document's model: literals. BRIEF -/
set_option linter.unusedVariables false
set_option linter.unusedSimpArgs false
set_option maxRecDepth 100000
namespace Go.Proofs.Ytmdeoikpiiambaa
open Go Go.Eng

theorem litB_le {C : MC} (hC : MCok C) (h : List (BitVec 8)) : litB C h + 768 ≤ szP C := by
  have lcp := hC.lc
  have hkl : h.length % 2 ^ C.lp < 2 ^ C.lp := Nat.mod_lt _ (Nat.pow_pos (by decide))
  have hbl := backN_lt h 1
  have hbd : backN h 1 / 2 ^ (8 - C.lc) < 2 ^ C.lc := by
    rw [Nat.div_lt_iff_lt_mul (Nat.pow_pos (by decide)), ← Nat.pow_add, show C.lc + (8 - C.lc) = 8 by omega]; exact hbl
  have hsum : h.length % 2 ^ C.lp * 2 ^ C.lc + backN h 1 / 2 ^ (8 - C.lc) < 2 ^ C.lp * 2 ^ C.lc := by
    have : (h.length % 2 ^ C.lp + 1) * 2 ^ C.lc ≤ 2 ^ C.lp * 2 ^ C.lc := Nat.mul_le_mul_right _ hkl
    rw [Nat.add_mul, Nat.one_mul] at this
    omega
  have e : 2 ^ (C.lc + C.lp) = 2 ^ C.lp * 2 ^ C.lc := by rw [Nat.add_comm, Nat.pow_add]
  unfold litB szP
  rw [e]
  generalize h.length % 2 ^ C.lp * 2 ^ C.lc + backN h 1 / 2 ^ (8 - C.lc) = y at *
  generalize 2 ^ C.lp * 2 ^ C.lc = z at *
  omega
theorem half_eq (a b i : Nat) : (a / 2 ^ i = b / 2 ^ i) ↔ (a / 2 ^ (i + 1) = b / 2 ^ (i + 1) ∧ a / 2 ^ i % 2 = b / 2 ^ i % 2) := by
  rw [Nat.pow_succ, ← Nat.div_div_eq_div_mul, ← Nat.div_div_eq_div_mul]
  omega
theorem lit_c (C : MC) (h : List (BitVec 8)) (w : Nat) : (cmds (litP C h (w : Int))).2 = if C.st < 7 then (cmds (treeP (litB C h) (w : Int) 8 1)).2 else (cmds (mlitP (litB C h) (backN h C.r0) (w : Int) 8 1 true)).2 := by
  unfold litP
  split
  · rw [cmds_bind]; exact List.append_nil _
  · rw [cmds_bind]; exact List.append_nil _
section
variable {wr : Nat → Bool} {m : Mem} {nx c a : Nat} {C : MC} {P : List (BitVec 16)} {s : RS} {ns : List Nat}
set_option maxHeartbeats 4000000 in
theorem kliteral (D : Rdm wr m nx) (lt : ∀ p ∈ m, p.1 < nx) (H : KA c a C m (P, s) ns) (hw : ∀ k ∈ ns, wr k = true) {hv : AV} {h : List (BitVec 8)} {hs : List Nat} (hi : ByAt 5 m hv h hs) (hh : h.length ≤ 100000000) (hC : MCok C) (hz : szP C ≤ 100000000) (hb : rencB s 8) (b : Nat) (hb8 : b < 256) :
    CallG false Try.prog 99 [.ptr c 0, .ptr a 0, hv, .int .i64 (b : Nat)] wr m nx (OwK (KA c a C) (.tup []) (told rencM (cmds (litP C h (b : Int))).2 P s) ns m nx) := by
  refine fn_okG Try.func99 rfl (by show 4 ≤ _; decide) ?_
  have H0 := H
  obtain ⟨r, rc, q, qc, rs, qs, ne, hns, hd, he, n1, n2, n3⟩ := H0
  have hd : DoA c r rc q qc rs qs C P m := hd
  have co := hd.co
  have re := hd.re
  unfold rpL at re
  obtain ⟨q1, q2, q3, q4, q5⟩ := hi.facts
  have hB := litB_le hC h
  have r1 := hC.r0.1
  rw [lit_c]
  by_cases h7 : C.st < 7
  · have c1 : decide (((C.st : Nat) : Int) < 7) = true := decide_eq_true (by omega)
    rw [if_pos h7]
    simp (maxSteps := 1000000) -implicitDefEqProofs only [go_sem, seval, -List.reduceReplicate, Try.results99, Try.ntmps99, q1, q2, q3, q4, q5, co]
    refine CallG.pk (ktable D hi hh hC co lt) ?_
    simp (maxSteps := 1000000) -implicitDefEqProofs only [go_sem, seval, -List.reduceReplicate, q1, q2, q3, q4, q5, co, c1]
    refine CallG.weak (ktree D lt H hw (litB C h) 8 b (by decide) (by omega) hz hb (by omega)) ?_
    rintro v m1 nx1 ⟨rfl, fr1, ns1, k1, hn1⟩
    simp (maxSteps := 1000000) -implicitDefEqProofs only [go_sem, seval, -List.reduceReplicate]
    exact Fr.fin fr1 D hw k1 hn1
  have c1 : decide (((C.st : Nat) : Int) < 7) = false := decide_eq_false (by omega)
  rw [if_neg h7]
  simp (maxSteps := 1000000) -implicitDefEqProofs only [go_sem, seval, -List.reduceReplicate, Try.results99, Try.ntmps99, q1, q2, q3, q4, q5, co]
  refine CallG.pk (ktable D hi hh hC co lt) ?_
  simp (maxSteps := 1000000) -implicitDefEqProofs only [go_sem, seval, -List.reduceReplicate, q1, q2, q3, q4, q5, co, re, c1]
  refine ⟨by omega, ?_⟩
  refine CallG.pk (kback D hi hh C.r0 r1) ?_
  simp (maxSteps := 1000000) -implicitDefEqProofs only [go_sem, seval, -List.reduceReplicate, q1, q2, q3, q4, q5]
  obtain ⟨K, hK⟩ : ∃ K, K = backN h C.r0 := ⟨_, rfl⟩
  have hKl : K < 256 := by rw [hK]; exact backN_lt _ _
  rw [← hK]
  obtain ⟨T, hT⟩ : ∃ T, T = litB C h := ⟨_, rfl⟩
  rw [← hT] at hB ⊢
  refine LoopOk.upX (fun i (x : Nat × (List (BitVec 16) × RS) × List Nat × Mem × Nat) => told rencM (cmds (mlitP T K (b : Int) (8 - i) x.1 (decide (b / 2 ^ (8 - i) = K / 2 ^ (8 - i))))).2 x.2.1.1 x.2.1.2 = told rencM (cmds (mlitP T K (b : Int) 8 1 true)).2 P s ∧ 2 ^ i ≤ x.1 ∧ x.1 < 2 ^ (i + 1) ∧ rencB x.2.1.2 (8 - i) ∧ KA c a C x.2.2.2.1 x.2.1 x.2.2.1 ∧ Fr ns m nx x.2.2.2.1 x.2.2.2.2 ∧ ∀ j ∈ x.2.2.1, j ∈ ns ∨ nx ≤ j) 8
    (fun i x => ([(11, .int .i64 (7 - (i : Int))), (10, .int .i64 (x.1 : Nat)), (9, .int .i64 (K : Nat)), (8, .int .i64 (T : Nat)), (0, .ptr c 0), (1, .ptr a 0), (3, .int .i64 (b : Nat))], x.2.2.2.1, x.2.2.2.2)) (1, (P, s), ns, m, nx) ⟨by rw [show decide (b / 2 ^ (8 - 0) = K / 2 ^ (8 - 0)) = true from decide_eq_true (by show b / 256 = K / 256; omega)], Nat.le_refl 1, (by show 1 < 2; decide), hb, H, .refl D.nd lt, fun j hj => .inl hj⟩ (D.leN (Nat.le_refl _) ⟨rfl, rfl, rfl, rfl, rfl, rfl, rfl, trivial⟩) ?_
  rintro i ⟨mm, ⟨P1, s1⟩, ns1, m1, nx1⟩ ⟨hi8, a1, a2, a3, a4, a5, a6, a7⟩
  have a1 : told rencM (cmds (mlitP T K (b : Int) (8 - i) mm (decide (b / 2 ^ (8 - i) = K / 2 ^ (8 - i))))).2 P1 s1 = told rencM (cmds (mlitP T K (b : Int) 8 1 true)).2 P s := a1
  have a2 : 2 ^ i ≤ mm := a2
  have a3 : mm < 2 ^ (i + 1) := a3
  have a4 : rencB s1 (8 - i) := a4
  have a5 : KA c a C m1 (P1, s1) ns1 := a5
  have a6 : Fr ns m nx m1 nx1 := a6
  have a7 : ∀ j ∈ ns1, j ∈ ns ∨ nx ≤ j := a7
  have D3 := a6.rdm D hw
  have hw3 := wrT D hw a7
  rcases Nat.lt_or_ge i 8 with h' | h'
  · have g2 : decide ((7 : Int) - (i : Int) ≥ 0) = true := decide_eq_true (by omega)
    have hki : (7 : Int) - (i : Int) = ((7 - i : Nat) : Int) := by omega
    have wi : IntKind.i64.wrap (((7 - i : Nat) : Int) - 1) = 7 - ((i + 1 : Nat) : Int) := by rw [wrap_i64] <;> omega
    have pk : 2 ^ (i + 1) ≤ 2 ^ 8 := Nat.pow_le_pow_right (by decide) (by omega)
    have wb0 := wb_bitI b (7 - i)
    have h8 : 8 - i = (7 - i) + 1 := by omega
    have wi1 : IntKind.i64.wrap (((7 - i : Nat) : Int) + 1) = ((8 - i : Nat) : Int) := by rw [wrap_i64] <;> omega
    rw [hki] at g2
    have p0 : ¬ ((2 ^ (7 - i) : Nat) : Int) = 0 := fun e => by have := Int.ofNat.inj e; have : 0 < 2 ^ (7 - i) := Nat.pow_pos (by decide); omega
    have p1 : ¬ ((2 ^ (8 - i) : Nat) : Int) = 0 := fun e => by have := Int.ofNat.inj e; have : 0 < 2 ^ (8 - i) := Nat.pow_pos (by decide); omega
    have wq : ∀ x y : Nat, x < 256 → IntKind.i64.wrap ((x / y : Nat) : Int) = ((x / y : Nat) : Int) := fun x y hx => by
      have := Nat.div_le_self x y
      generalize x / y = z at *
      rw [wrap_i64] <;> omega
    have u1 := wq b (2 ^ (7 - i)) hb8
    have u2 := wq b (2 ^ (8 - i)) hb8
    have u3 := wq K (2 ^ (8 - i)) hKl
    have u4 := wq K (2 ^ (7 - i)) hKl
    simp (maxSteps := 1000000) -implicitDefEqProofs only [go_sem, seval, -List.reduceReplicate, hki, g2]
    refine CallG.pk (ktwo D3 (7 - i) (by omega)) ?_
    simp (maxSteps := 1000000) -implicitDefEqProofs only [go_sem, seval, -List.reduceReplicate, tdN, p0, u1, tm2, wb0]
    refine ⟨Fx.mixed, .inl ⟨[(0, false), (1, false), (2, false), (5, false), (6, false), (7, false), (3, true), (4, false), (8, true), (9, false), (10, false)], [], by kernel_rfl, (fun k hk => by cases hk), ?_⟩⟩
    simp (maxSteps := 1000000) -implicitDefEqProofs only [go_sem, seval, -List.reduceReplicate, wi1]
    refine CallG.pk (ktwo (D3.drawn []) (8 - i) (by omega)) ?_
    simp (maxSteps := 1000000) -implicitDefEqProofs only [go_sem, seval, -List.reduceReplicate, tdN, p1, u2]
    refine CallG.pk (ktwo (D3.drawn []) (8 - i) (by omega)) ?_
    simp (maxSteps := 1000000) -implicitDefEqProofs only [go_sem, seval, -List.reduceReplicate, tdN, p1, u3]
    have hse : decide (b / 2 ^ (8 - (i + 1)) = K / 2 ^ (8 - (i + 1))) = (decide (b / 2 ^ (8 - i) = K / 2 ^ (8 - i)) && (wb (b : Int) (7 - i)).toNat == K / 2 ^ (7 - i) % 2) := by
      rw [show 8 - (i + 1) = 7 - i by omega, h8, wb_nat]
      rw [show decide (b / 2 ^ (7 - i) = K / 2 ^ (7 - i)) = decide (b / 2 ^ (7 - i + 1) = K / 2 ^ (7 - i + 1) ∧ b / 2 ^ (7 - i) % 2 = K / 2 ^ (7 - i) % 2) from decide_eq_decide.2 (half_eq b K (7 - i)), Bool.decide_and]
      rfl
    obtain ⟨sm, hsm⟩ : ∃ sm, sm = decide (b / 2 ^ (8 - i) = K / 2 ^ (8 - i)) := ⟨_, rfl⟩
    obtain ⟨J, hJ⟩ : ∃ J, J = T + (if sm then 256 + K / 2 ^ (7 - i) % 2 * 256 else 0) + mm := ⟨_, rfl⟩
    rw [← hsm] at a1 hse
    have hk2 := Nat.mod_lt (K / 2 ^ (7 - i)) (show 0 < 2 by decide)
    have hJl : J < szP C := by rw [hJ]; split <;> omega
    have hb1 : rencB s1 1 := rencBud.less _ _ _ a4 (by omega)
    have hN := kbit D3 a6.lt a5 hw3 hb1 J hJl (wb (b : Int) (7 - i))
    have hb5 := rencBud.bit s1 (P1.getD J 0) (wb (b : Int) (7 - i)) (8 - (i + 1)) (by rw [show 8 - (i + 1) + 1 = 8 - i by omega]; exact a4)
    have a1' : told rencM (cmds (mlitP T K (b : Int) (8 - (i + 1)) (2 * mm + (wb (b : Int) (7 - i)).toNat) (decide (b / 2 ^ (8 - (i + 1)) = K / 2 ^ (8 - (i + 1)))))).2 (told rencM [.b J (wb (b : Int) (7 - i))] P1 s1).1 (told rencM [.b J (wb (b : Int) (7 - i))] P1 s1).2 = told rencM (cmds (mlitP T K (b : Int) 8 1 true)).2 P s := by
      rw [← a1, hse, show 8 - (i + 1) = 7 - i by omega, h8, hJ]; rfl
    have x3 : IntKind.i64.wrap (2 * (mm : Int)) = ((2 * mm : Nat) : Int) := by rw [wrap_i64] <;> omega
    have fin : ∀ (bt : Bool), bt = wb (b : Int) (7 - i) → IntKind.i64.wrap (((2 * mm : Nat) : Int) + bitI bt) = ((2 * mm + bt.toNat : Nat) : Int) := fun bt _ => by
      cases bt <;> (show IntKind.i64.wrap (_ + _) = _; unfold bitI; rw [wrap_i64] <;> simp <;> omega)
    have x4 := fin _ rfl
    cases sm with
    | true =>
      have ce : (((b / 2 ^ (8 - i) : Nat) : Int) == ((K / 2 ^ (8 - i) : Nat) : Int)) = true := by
        rw [beq_iff_eq]; exact congrArg _ (of_decide_eq_true hsm.symm)
      have hJ : J = T + 256 + 256 * (K / 2 ^ (7 - i) % 2) + mm := by rw [hJ, if_pos rfl]; omega
      have y1 : IntKind.i64.wrap ((T : Int) + 256) = ((T + 256 : Nat) : Int) := by rw [wrap_i64] <;> omega
      have y2 : IntKind.i64.wrap (256 * ((K / 2 ^ (7 - i) % 2 : Nat) : Int)) = ((256 * (K / 2 ^ (7 - i) % 2) : Nat) : Int) := by
        generalize K / 2 ^ (7 - i) % 2 = z at *
        rw [wrap_i64] <;> omega
      have y3 : IntKind.i64.wrap (((T + 256 : Nat) : Int) + ((256 * (K / 2 ^ (7 - i) % 2) : Nat) : Int)) = ((T + 256 + 256 * (K / 2 ^ (7 - i) % 2) : Nat) : Int) := by
        generalize K / 2 ^ (7 - i) % 2 = z at *
        rw [wrap_i64] <;> omega
      have y4 : IntKind.i64.wrap (((T + 256 + 256 * (K / 2 ^ (7 - i) % 2) : Nat) : Int) + (mm : Int)) = (J : Int) := by
        rw [hJ]
        generalize K / 2 ^ (7 - i) % 2 = z at *
        rw [wrap_i64] <;> omega
      simp (maxSteps := 1000000) -implicitDefEqProofs only [go_sem, seval, -List.reduceReplicate, ce]
      refine CallG.pk (ktwo D3 (7 - i) (by omega)) ?_
      simp (maxSteps := 1000000) -implicitDefEqProofs only [go_sem, seval, -List.reduceReplicate, tdN, p0, u4, tm2, y1, y2, y3, y4]
      refine CallG.weak hN ?_
      rintro v4 m4 nx4 ⟨rfl, fr4, ns4, S4, hn4⟩
      simp (maxSteps := 1000000) -implicitDefEqProofs only [go_sem, seval, -List.reduceReplicate, x3, x4, wi]
      exact UpX_normal h' (2 * mm + (wb (b : Int) (7 - i)).toNat, told rencM [.b J (wb (b : Int) (7 - i))] P1 s1, ns4, m4, nx4) ⟨a1', by show 2 ^ (i + 1) ≤ 2 * mm + _; rw [Nat.pow_succ]; omega, by have := bool_lt (wb (b : Int) (7 - i)); show 2 * mm + _ < 2 ^ (i + 1 + 1); rw [Nat.pow_succ] at a3 ⊢; omega, hb5, S4, a6.trans fr4 lt a7, subT a7 hn4 a6.le⟩ ((fr4.rdm D3 hw3).leN (a6.trans fr4 lt a7).le ⟨rfl, rfl, rfl, rfl, rfl, rfl, rfl, trivial⟩)
    | false =>
      have ce : (((b / 2 ^ (8 - i) : Nat) : Int) == ((K / 2 ^ (8 - i) : Nat) : Int)) = false := by
        rw [beq_eq_false_iff_ne]; exact fun e => (of_decide_eq_false hsm.symm) (Int.ofNat.inj e)
      have hJ : J = T + mm := by rw [hJ, if_neg (by decide)]; omega
      have y4 : IntKind.i64.wrap ((T : Int) + (mm : Int)) = (J : Int) := by rw [hJ, wrap_i64] <;> omega
      simp (maxSteps := 1000000) -implicitDefEqProofs only [go_sem, seval, -List.reduceReplicate, ce, y4]
      refine CallG.weak hN ?_
      rintro v4 m4 nx4 ⟨rfl, fr4, ns4, S4, hn4⟩
      simp (maxSteps := 1000000) -implicitDefEqProofs only [go_sem, seval, -List.reduceReplicate, x3, x4, wi]
      exact UpX_normal h' (2 * mm + (wb (b : Int) (7 - i)).toNat, told rencM [.b J (wb (b : Int) (7 - i))] P1 s1, ns4, m4, nx4) ⟨a1', by show 2 ^ (i + 1) ≤ 2 * mm + _; rw [Nat.pow_succ]; omega, by have := bool_lt (wb (b : Int) (7 - i)); show 2 * mm + _ < 2 ^ (i + 1 + 1); rw [Nat.pow_succ] at a3 ⊢; omega, hb5, S4, a6.trans fr4 lt a7, subT a7 hn4 a6.le⟩ ((fr4.rdm D3 hw3).leN (a6.trans fr4 lt a7).le ⟨rfl, rfl, rfl, rfl, rfl, rfl, rfl, trivial⟩)
  · have hik : i = 8 := by omega
    have g2 : decide ((7 : Int) - (i : Int) ≥ 0) = false := decide_eq_false (by omega)
    simp (maxSteps := 1000000) -implicitDefEqProofs only [go_sem, seval, -List.reduceReplicate, g2]
    subst hik
    rw [← a1]
    exact Fr.fin (At := KA c a C) (s' := (P1, s1)) a6 D hw a5 a7
end
end Go.Proofs.Ytmdeoikpiiambaa
end
section
/- The document's model: May, Dist, Plain. BRIEF -/
set_option linter.unusedVariables false
set_option linter.unusedSimpArgs false
set_option maxRecDepth 100000
namespace Go.Proofs.Ytmdeoikpiiambaa
open Go Go.Eng

section
variable {wr : Nat → Bool} {m : Mem} {nx : Nat}
set_option maxHeartbeats 2000000 in
theorem kmay (D : Rdm wr m nx) (lc lp pb : Int) : CallG false Try.prog 39 [.int .i64 lc, .int .i64 lp, .int .i64 pb] wr m nx (PK (.bool (mayB lc lp pb)) m nx) := by
  refine fn_okG Try.func39 rfl (by show 3 ≤ _; decide) ?_
  have no : mayB lc lp pb = false → Eng.Fin nx wr m nx (PK (.bool (mayB lc lp pb)) m nx) (.bool false) := fun e => by rw [e]; exact finP D _
  by_cases h0 : lc ≥ 0
  case neg =>
    have c0 : decide (lc ≥ 0) = false := decide_eq_false h0
    simp (maxSteps := 1000000) -implicitDefEqProofs only [go_sem, seval, -List.reduceReplicate, Try.results39, Try.ntmps39, c0]
    exact no (by
      cases hm : mayB lc lp pb with
      | false => rfl
      | true => exfalso; unfold mayB at hm; simp only [Bool.and_eq_true, decide_eq_true_eq] at hm; omega)
  have c0 : decide (lc ≥ 0) = true := decide_eq_true h0
  by_cases h1 : lc ≤ 4
  case neg =>
    have c1 : decide (lc ≤ 4) = false := decide_eq_false h1
    simp (maxSteps := 1000000) -implicitDefEqProofs only [go_sem, seval, -List.reduceReplicate, Try.results39, Try.ntmps39, c0, c1]
    exact no (by
      cases hm : mayB lc lp pb with
      | false => rfl
      | true => exfalso; unfold mayB at hm; simp only [Bool.and_eq_true, decide_eq_true_eq] at hm; omega)
  have c1 : decide (lc ≤ 4) = true := decide_eq_true h1
  by_cases h2 : lp ≥ 0
  case neg =>
    have c2 : decide (lp ≥ 0) = false := decide_eq_false h2
    simp (maxSteps := 1000000) -implicitDefEqProofs only [go_sem, seval, -List.reduceReplicate, Try.results39, Try.ntmps39, c0, c1, c2]
    exact no (by
      cases hm : mayB lc lp pb with
      | false => rfl
      | true => exfalso; unfold mayB at hm; simp only [Bool.and_eq_true, decide_eq_true_eq] at hm; omega)
  have c2 : decide (lp ≥ 0) = true := decide_eq_true h2
  by_cases h3 : lp ≤ 4
  case neg =>
    have c3 : decide (lp ≤ 4) = false := decide_eq_false h3
    simp (maxSteps := 1000000) -implicitDefEqProofs only [go_sem, seval, -List.reduceReplicate, Try.results39, Try.ntmps39, c0, c1, c2, c3]
    exact no (by
      cases hm : mayB lc lp pb with
      | false => rfl
      | true => exfalso; unfold mayB at hm; simp only [Bool.and_eq_true, decide_eq_true_eq] at hm; omega)
  have c3 : decide (lp ≤ 4) = true := decide_eq_true h3
  by_cases h4 : IntKind.i64.wrap (lc + lp) ≤ 4
  case neg =>
    have c4 : decide (IntKind.i64.wrap (lc + lp) ≤ 4) = false := decide_eq_false h4
    simp (maxSteps := 1000000) -implicitDefEqProofs only [go_sem, seval, -List.reduceReplicate, Try.results39, Try.ntmps39, c0, c1, c2, c3, c4]
    have wa : IntKind.i64.wrap (lc + lp) = lc + lp := by rw [wrap_i64] <;> omega
    rw [wa] at h4
    exact no (by
      cases hm : mayB lc lp pb with
      | false => rfl
      | true => exfalso; unfold mayB at hm; simp only [Bool.and_eq_true, decide_eq_true_eq] at hm; omega)
  have c4 : decide (IntKind.i64.wrap (lc + lp) ≤ 4) = true := decide_eq_true h4
  by_cases h5 : pb ≥ 0
  case neg =>
    have c5 : decide (pb ≥ 0) = false := decide_eq_false h5
    simp (maxSteps := 1000000) -implicitDefEqProofs only [go_sem, seval, -List.reduceReplicate, Try.results39, Try.ntmps39, c0, c1, c2, c3, c4, c5]
    exact no (by
      cases hm : mayB lc lp pb with
      | false => rfl
      | true => exfalso; unfold mayB at hm; simp only [Bool.and_eq_true, decide_eq_true_eq] at hm; omega)
  have c5 : decide (pb ≥ 0) = true := decide_eq_true h5
  have wa : IntKind.i64.wrap (lc + lp) = lc + lp := by rw [wrap_i64] <;> omega
  have h4' := h4
  rw [wa] at h4'
  have e : mayB lc lp pb = decide (pb ≤ 4) := by
    unfold mayB
    rw [decide_eq_true (show 0 ≤ lc by omega), decide_eq_true (show lc ≤ 4 by omega), decide_eq_true (show 0 ≤ lp by omega), decide_eq_true (show lp ≤ 4 by omega), decide_eq_true (show lc + lp ≤ 4 by omega), decide_eq_true (show 0 ≤ pb by omega)]
    rfl
  rw [e]
  simp (maxSteps := 1000000) -implicitDefEqProofs only [go_sem, seval, -List.reduceReplicate, Try.results39, Try.ntmps39, c0, c1, c2, c3, c4, c5]
  exact finP D _
def distS (C : MC) (y : Sy) : Int := if y.k = 1 then y.d else if y.k = 2 then (repOf C y.r.toNat : Int) else 0
set_option maxHeartbeats 2000000 in
theorem kdist (D : Rdm wr m nx) (lt : ∀ p ∈ m, p.1 < nx) {c r rc q qc : Nat} {rs qs : List Value} {C : MC} {P : List (BitVec 16)} (hd : DoA c r rc q qc rs qs C P m) (y : Sy) (hy : y.k = 2 → 0 ≤ y.r ∧ y.r < 4) :
    CallG false Try.prog 45 [.ptr c 0, .agg (syL y)] wr m nx (fun v m' nx' => v = .int .i64 (distS C y) ∧ Gr m nx m' nx') := by
  refine fn_okG Try.func45 rfl (by show 2 ≤ _; decide) ?_
  have g1 := Gr.cons D.nd lt (syO y)
  have D1 := g1.rdm D
  have t5 : ∀ a b d e f : AV, List.take 5 [a, b, d, e, f] = [a, b, d, e, f] := fun _ _ _ _ _ => rfl
  have fin : ∀ V, V = distS C y → Eng.Fin nx wr ((nx, syO y) :: m) (nx + 1) (fun v m' nx' => v = .int .i64 (distS C y) ∧ Gr m nx m' nx') (.int .i64 V) := fun V e => Fin.keepW (m0 := (nx, syO y) :: m) (Nat.le_succ _) (memSame_slf g1.nd) g1.nd D1.kp ⟨by rw [e], g1⟩
  have co := hd.co
  have re := hd.re
  have cl := look_ltm lt co
  have rl := look_ltm lt re
  have fc : (nx = c) = False := eq_false (by omega)
  have fr : (nx = r) = False := eq_false (by omega)
  have f0 : decide (nx + 1 ≤ nx) = false := decide_eq_false (by omega)
  have f1 : decide (nx + 1 ≤ c) = false := decide_eq_false (by omega)
  have f2 : decide (nx + 1 ≤ r) = false := decide_eq_false (by omega)
  by_cases k1 : y.k = 1
  · have e1 : (y.k == 1) = true := by simp [k1]
    simp (maxSteps := 1000000) -implicitDefEqProofs only [go_sem, seval, -List.reduceReplicate, Try.results45, Try.ntmps45, syL, t5, e1]
    exact fin _ (by unfold distS; rw [if_pos k1])
  have e1 : (y.k == 1) = false := by simp [k1]
  by_cases k2 : y.k = 2
  · have e2 : (y.k == 2) = true := by simp [k2]
    obtain ⟨y1, y2⟩ := hy k2
    obtain ⟨w, hrw⟩ : ∃ w : Nat, y.r = (w : Int) := ⟨y.r.toNat, by omega⟩
    have hw4 : w < 4 := by omega
    have hrp : (rpL C ++ rs.map AV.val).getD w (.int .i64 0) = .int .i64 (repOf C w : Nat) := by
      rcases (show w = 0 ∨ w = 1 ∨ w = 2 ∨ w = 3 by omega) with rfl | rfl | rfl | rfl <;> rfl
    have hl : (rpL C ++ rs.map AV.val).length = rs.length + 4 := by rw [List.length_append, List.length_map, Nat.add_comm]; rfl
    have fin := fun (_ : True = True) => fin ((repOf C w : Nat) : Int) (by unfold distS; rw [if_neg k1, if_pos k2, hrw, Int.toNat_natCast])
    unfold syO syL at fin
    rw [hrw] at fin
    generalize rpL C ++ rs.map AV.val = Lr at *
    simp (maxSteps := 1000000) -implicitDefEqProofs only [go_sem, seval, -List.reduceReplicate, Try.results45, Try.ntmps45, syL, t5, e1, e2, hrw]
    refine ⟨Fx.mixed, .inl ⟨[(0, false), (1, false), (2, false), (3, false), (4, false), (5, false), (6, false), (7, false), (8, false)], [], by kernel_rfl, (fun j hj => by cases hj), ?_⟩⟩
    simp (maxSteps := 1000000) -implicitDefEqProofs only [go_sem, seval, -List.reduceReplicate, t5, e1, e2, hrw, co, re, fc, fr, f0, f1, f2, hrp, hl]
    exact ⟨by omega, by omega, fin rfl⟩
  · have e2 : (y.k == 2) = false := by simp [k2]
    simp (maxSteps := 1000000) -implicitDefEqProofs only [go_sem, seval, -List.reduceReplicate, Try.results45, Try.ntmps45, syL, t5, e1, e2]
    exact fin _ (by unfold distS; rw [if_neg k1, if_neg k2])
set_option maxHeartbeats 2000000 in
theorem kplainS (D : Rdm wr m nx) (lt : ∀ p ∈ m, p.1 < nx) (y : Sy) :
    CallG false Try.prog 54 [.agg (syL y)] wr m nx (fun v m' nx' => v = .agg (syL (plainS y)) ∧ Gr m nx m' nx') := by
  refine fn_okG Try.func54 rfl (by show 1 ≤ _; decide) ?_
  have g1 := Gr.cons D.nd lt (syO y)
  have g2 := g1.trans (Gr.cons g1.nd g1.lt (syO (plainS y)))
  have D2 := g2.rdm D
  have t5 : ∀ a b d e f : AV, List.take 5 [a, b, d, e, f] = [a, b, d, e, f] := fun _ _ _ _ _ => rfl
  have sp5 : ∀ a b d e f : AV, spl [AV.int .i64 0, AV.int .u8 0, AV.int .i64 0, AV.int .i64 0, AV.int .i64 0] 0 [a, b, d, e, f] = [a, b, d, e, f] := fun _ _ _ _ _ => rfl
  have ww : wr (nx + 1) = true := D.wn _ (by omega)
  have fe : (nx + 1 = nx) = False := eq_false (by omega)
  have fin : ∀ z, z = plainS y → Eng.Fin nx wr ((nx + 1, syO z) :: (nx, syO y) :: m) (nx + 1 + 1) (fun v m' nx' => v = .agg (syL (plainS y)) ∧ Gr m nx m' nx') (.agg (syL z)) := fun z e => by rw [e]; exact Fin.keepW (m0 := (nx + 1, syO (plainS y)) :: (nx, syO y) :: m) g2.le (memSame_slf g2.nd) g2.nd D2.kp ⟨rfl, g2⟩
  by_cases k0 : y.k = 0
  · have e0 : (y.k == 0) = true := by simp [k0]
    simp (maxSteps := 1000000) -implicitDefEqProofs only [go_sem, seval, -List.reduceReplicate, Try.results54, Try.ntmps54, syL, t5, e0, ww, fe, sp5]
    exact fin ⟨0, y.b, 0, 0, 0⟩ (by unfold plainS; rw [if_pos k0])
  have e0 : (y.k == 0) = false := by simp [k0]
  by_cases k1 : y.k = 1
  · have e1 : (y.k == 1) = true := by simp [k1]
    simp (maxSteps := 1000000) -implicitDefEqProofs only [go_sem, seval, -List.reduceReplicate, Try.results54, Try.ntmps54, syL, t5, e0, e1, ww, fe, sp5]
    exact fin ⟨1, 0, y.l, y.d, 0⟩ (by unfold plainS; rw [if_neg k0, if_pos k1])
  · have e1 : (y.k == 1) = false := by simp [k1]
    simp (maxSteps := 1000000) -implicitDefEqProofs only [go_sem, seval, -List.reduceReplicate, Try.results54, Try.ntmps54, syL, t5, e0, e1, ww, fe, sp5]
    exact fin ⟨2, 0, y.l, 0, y.r⟩ (by unfold plainS; rw [if_neg k0, if_neg k1])
end
end Go.Proofs.Ytmdeoikpiiambaa
end
section
/- The document's model: Fits. BRIEF -/
set_option linter.unusedVariables false
set_option linter.unusedSimpArgs false
set_option maxRecDepth 100000
namespace Go.Proofs.Ytmdeoikpiiambaa
open Go Go.Eng

section
variable {wr : Nat → Bool} {m : Mem} {nx : Nat}
set_option maxHeartbeats 8000000 in
theorem kfits (D : Rdm wr m nx) (lt : ∀ p ∈ m, p.1 < nx) {c r rc q qc : Nat} {rs qs : List Value} {C : MC} {P : List (BitVec 16)} (hd : DoA c r rc q qc rs qs C P m) {hv : AV} {h : List (BitVec 8)} {hs : List Nat} (hi : ByAt 5 m hv h hs) (hh : h.length ≤ 100000000) (y : Sy) :
    CallG false Try.prog 44 [.ptr c 0, hv, .agg (syL y)] wr m nx (fun v m' nx' => v = .bool (fitsB C h.length y) ∧ Gr m nx m' nx') := by
  refine fn_okG Try.func44 rfl (by show 3 ≤ _; decide) ?_
  have g1 := Gr.cons D.nd lt (syO y)
  have D1 := g1.rdm D
  obtain ⟨q1, q2, q3, q4, q5⟩ := hi.facts
  have q6 := hi.len Try.prog 22
  have t5 : ∀ a b d e f : AV, List.take 5 [a, b, d, e, f] = [a, b, d, e, f] := fun _ _ _ _ _ => rfl
  have fin : ∀ V, V = fitsB C h.length y → Eng.Fin nx wr ((nx, syO y) :: m) (nx + 1) (fun v m' nx' => v = .bool (fitsB C h.length y) ∧ Gr m nx m' nx') (.bool V) := fun V e => Fin.keepW (m0 := (nx, syO y) :: m) (Nat.le_succ _) (memSame_slf g1.nd) g1.nd D1.kp ⟨by rw [e], g1⟩
  have co := hd.co
  have re := hd.re
  have cl := look_ltm lt co
  have rl := look_ltm lt re
  have fc : (nx = c) = False := eq_false (by omega)
  have fr : (nx = r) = False := eq_false (by omega)
  have f0 : decide (nx + 1 ≤ nx) = false := decide_eq_false (by omega)
  have f1 : decide (nx + 1 ≤ c) = false := decide_eq_false (by omega)
  have f2 : decide (nx + 1 ≤ r) = false := decide_eq_false (by omega)
  by_cases k1 : y.k = 1
  · have e1 : (y.k == 1) = true := by simp [k1]
    have k0 : ¬ y.k = 0 := by omega
    have e : fitsB C h.length y = (decide (y.l ≥ 2) && decide (y.l ≤ 273) && decide (y.d ≥ 1) && decide (y.d ≤ (h.length : Int)) && decide (y.d ≤ 4294967295)) := by unfold fitsB; rw [if_neg k0, if_pos k1]
    cases l2 : decide (y.l ≥ 2) with
    | false =>
      rw [l2] at e
      simp (maxSteps := 1000000) -implicitDefEqProofs only [go_sem, seval, -List.reduceReplicate, Try.results44, Try.ntmps44, syL, q1, q2, q3, q4, q5, q6, t5, e1, l2]
      exact fin _ (by rw [e]; rfl)
    | true =>
      cases l3 : decide (y.l ≤ 273) with
      | false =>
        rw [l2, l3] at e
        simp (maxSteps := 1000000) -implicitDefEqProofs only [go_sem, seval, -List.reduceReplicate, Try.results44, Try.ntmps44, syL, q1, q2, q3, q4, q5, q6, t5, e1, l2, l3]
        exact fin _ (by rw [e]; rfl)
      | true =>
        cases l4 : decide (y.d ≥ 1) with
        | false =>
          rw [l2, l3, l4] at e
          simp (maxSteps := 1000000) -implicitDefEqProofs only [go_sem, seval, -List.reduceReplicate, Try.results44, Try.ntmps44, syL, q1, q2, q3, q4, q5, q6, t5, e1, l2, l3, l4]
          exact fin _ (by rw [e]; rfl)
        | true =>
          cases l5 : decide (y.d ≤ (h.length : Int)) with
          | false =>
            rw [l2, l3, l4, l5] at e
            simp (maxSteps := 1000000) -implicitDefEqProofs only [go_sem, seval, -List.reduceReplicate, Try.results44, Try.ntmps44, syL, q1, q2, q3, q4, q5, q6, t5, e1, l2, l3, l4, l5]
            exact fin _ (by rw [e]; rfl)
          | true =>
            rw [l2, l3, l4, l5] at e
            simp (maxSteps := 1000000) -implicitDefEqProofs only [go_sem, seval, -List.reduceReplicate, Try.results44, Try.ntmps44, syL, q1, q2, q3, q4, q5, q6, t5, e1, l2, l3, l4, l5]
            exact fin _ (by rw [e]; rfl)
  have e1 : (y.k == 1) = false := by simp [k1]
  by_cases k2 : y.k = 2
  · have e2 : (y.k == 2) = true := by simp [k2]
    have k0 : ¬ y.k = 0 := by omega
    have e : fitsB C h.length y = (decide (y.r ≥ 0) && decide (y.r ≤ 3) && ((decide (y.l ≥ 2) && decide (y.l ≤ 273)) || (decide (y.l = 1) && decide (y.r = 0))) && decide ((repOf C y.r.toNat : Int) ≤ (h.length : Int))) := by
      unfold fitsB; rw [if_neg k0, if_neg k1, if_pos k2]
    rcases Int.lt_or_le y.r 0 with r0 | r0
    · have l5 : decide (y.r < 0) = true := decide_eq_true r0
      have e' : fitsB C h.length y = false := by rw [e, decide_eq_false (show ¬ y.r ≥ 0 by omega)]; rfl
      cases l2 : decide (y.l ≥ 2) <;>
      · simp (maxSteps := 1000000) -implicitDefEqProofs only [go_sem, seval, -List.reduceReplicate, Try.results44, Try.ntmps44, syL, q1, q2, q3, q4, q5, q6, t5, e1, e2, l2, l5]
        exact fin _ (by rw [e'])
    have l5 : decide (y.r < 0) = false := decide_eq_false (by omega)
    rcases Int.lt_or_le 3 y.r with r4 | r4
    · have l6 : decide (y.r > 3) = true := decide_eq_true r4
      have e' : fitsB C h.length y = false := by rw [e, decide_eq_false (show ¬ y.r ≤ 3 by omega), Bool.and_false]; rfl
      cases l2 : decide (y.l ≥ 2) <;>
      · simp (maxSteps := 1000000) -implicitDefEqProofs only [go_sem, seval, -List.reduceReplicate, Try.results44, Try.ntmps44, syL, q1, q2, q3, q4, q5, q6, t5, e1, e2, l2, l5, l6]
        exact fin _ (by rw [e'])
    have l6 : decide (y.r > 3) = false := decide_eq_false (by omega)
    obtain ⟨w, hrw⟩ : ∃ w : Nat, y.r = (w : Int) := ⟨y.r.toNat, by omega⟩
    have hw4 : w < 4 := by omega
    have hrp : (rpL C ++ rs.map AV.val).getD w (.int .i64 0) = .int .i64 (repOf C w : Nat) := by
      rcases (show w = 0 ∨ w = 1 ∨ w = 2 ∨ w = 3 by omega) with rfl | rfl | rfl | rfl <;> rfl
    have hl : (rpL C ++ rs.map AV.val).length = rs.length + 4 := by rw [List.length_append, List.length_map, Nat.add_comm]; rfl
    have hwt : y.r.toNat = w := by omega
    rw [decide_eq_true (show y.r ≥ 0 by omega), decide_eq_true (show y.r ≤ 3 by omega), hwt] at e
    rw [hrw] at l5 l6 e
    unfold syO syL at fin
    rw [hrw] at fin
    generalize rpL C ++ rs.map AV.val = Lr at *
    cases l8 : decide ((repOf C w : Int) ≤ (h.length : Int)) with
    | false =>
      have e' : fitsB C h.length y = false := by rw [e, l8, Bool.and_false]
      cases l2 : decide (y.l ≥ 2) <;>
      · simp (maxSteps := 1000000) -implicitDefEqProofs only [go_sem, seval, -List.reduceReplicate, Try.results44, Try.ntmps44, syL, q1, q2, q3, q4, q5, q6, t5, e1, e2, hrw, l2, l5, l6, l8]
        refine ⟨Fx.mixed, .inl ⟨[(0, false), (1, false), (2, false), (3, false), (4, false), (5, false), (6, false), (7, false), (8, false), (9, false), (10, false), (11, false), (12, false), (13, false), (14, false), (15, false), (16, false), (17, false), (18, false), (19, false), (20, false), (21, false), (22, false), (23, false), (24, false)], [], by kernel_rfl, (fun j hj => by cases hj), ?_⟩⟩
        simp (maxSteps := 1000000) -implicitDefEqProofs only [go_sem, seval, -List.reduceReplicate, q1, q2, q3, q4, q5, q6, t5, co, re, fc, fr, f0, f1, f2, hrp, hl, e1, e2, hrw, l2, l5, l6, l8]
        exact ⟨by omega, by omega, fin _ (by rw [e'])⟩
    | true =>
      rw [l8] at e
      cases l2 : decide (y.l ≥ 2) with
      | true =>
        have hne : ¬ y.l = 1 := by have := of_decide_eq_true l2; omega
        have l7 : (y.l == 1) = false := by simp [hne]
        rw [l2, decide_eq_false hne] at e
        cases l3 : decide (y.l ≤ 273) with
        | true =>
          rw [l3] at e
          simp (maxSteps := 1000000) -implicitDefEqProofs only [go_sem, seval, -List.reduceReplicate, Try.results44, Try.ntmps44, syL, q1, q2, q3, q4, q5, q6, t5, e1, e2, hrw, l2, l3, l5, l6, l8]
          refine ⟨Fx.mixed, .inl ⟨[(0, false), (1, false), (2, false), (3, false), (4, false), (5, false), (6, false), (7, false), (8, false), (9, false), (10, false), (11, false), (12, false), (13, false), (14, false), (15, false), (16, false), (17, false), (18, false), (19, false), (20, false), (21, false), (22, false), (23, false), (24, false)], [], by kernel_rfl, (fun j hj => by cases hj), ?_⟩⟩
          simp (maxSteps := 1000000) -implicitDefEqProofs only [go_sem, seval, -List.reduceReplicate, q1, q2, q3, q4, q5, q6, t5, co, re, fc, fr, f0, f1, f2, hrp, hl, e1, e2, hrw, l2, l3, l5, l6, l8]
          exact ⟨by omega, by omega, fin _ (by rw [e]; rfl)⟩
        | false =>
          rw [l3] at e
          simp (maxSteps := 1000000) -implicitDefEqProofs only [go_sem, seval, -List.reduceReplicate, Try.results44, Try.ntmps44, syL, q1, q2, q3, q4, q5, q6, t5, e1, e2, hrw, l2, l3, l5, l6, l7, l8]
          refine ⟨Fx.mixed, .inl ⟨[(0, false), (1, false), (2, false), (3, false), (4, false), (5, false), (6, false), (7, false), (8, false), (9, false), (10, false), (11, false), (12, false), (13, false), (14, false), (15, false), (16, false), (17, false), (18, false), (19, false), (20, false), (21, false), (22, false), (23, false), (24, false)], [], by kernel_rfl, (fun j hj => by cases hj), ?_⟩⟩
          simp (maxSteps := 1000000) -implicitDefEqProofs only [go_sem, seval, -List.reduceReplicate, q1, q2, q3, q4, q5, q6, t5, co, re, fc, fr, f0, f1, f2, hrp, hl, e1, e2, hrw, l2, l3, l5, l6, l7, l8]
          exact ⟨by omega, by omega, fin _ (by rw [e]; rfl)⟩
      | false =>
        rw [l2] at e
        by_cases hl1 : y.l = 1
        · have l7 : (y.l == 1) = true := by simp [hl1]
          rw [decide_eq_true hl1] at e
          by_cases hr0 : ((w : Nat) : Int) = 0
          · have l9 : (((w : Nat) : Int) == 0) = true := by rw [hr0]; rfl
            rw [decide_eq_true hr0] at e
            simp (maxSteps := 1000000) -implicitDefEqProofs only [go_sem, seval, -List.reduceReplicate, Try.results44, Try.ntmps44, syL, q1, q2, q3, q4, q5, q6, t5, e1, e2, hrw, l2, l5, l6, l7, l8, l9]
            refine ⟨Fx.mixed, .inl ⟨[(0, false), (1, false), (2, false), (3, false), (4, false), (5, false), (6, false), (7, false), (8, false), (9, false), (10, false), (11, false), (12, false), (13, false), (14, false), (15, false), (16, false), (17, false), (18, false), (19, false), (20, false), (21, false), (22, false), (23, false), (24, false)], [], by kernel_rfl, (fun j hj => by cases hj), ?_⟩⟩
            simp (maxSteps := 1000000) -implicitDefEqProofs only [go_sem, seval, -List.reduceReplicate, q1, q2, q3, q4, q5, q6, t5, co, re, fc, fr, f0, f1, f2, hrp, hl, e1, e2, hrw, l2, l5, l6, l7, l8, l9]
            exact ⟨by omega, by omega, fin _ (by rw [e]; rfl)⟩
          · have l9 : (((w : Nat) : Int) == 0) = false := by rw [beq_eq_false_iff_ne]; exact hr0
            rw [decide_eq_false hr0] at e
            simp (maxSteps := 1000000) -implicitDefEqProofs only [go_sem, seval, -List.reduceReplicate, Try.results44, Try.ntmps44, syL, q1, q2, q3, q4, q5, q6, t5, e1, e2, hrw, l2, l5, l6, l7, l8, l9]
            refine ⟨Fx.mixed, .inl ⟨[(0, false), (1, false), (2, false), (3, false), (4, false), (5, false), (6, false), (7, false), (8, false), (9, false), (10, false), (11, false), (12, false), (13, false), (14, false), (15, false), (16, false), (17, false), (18, false), (19, false), (20, false), (21, false), (22, false), (23, false), (24, false)], [], by kernel_rfl, (fun j hj => by cases hj), ?_⟩⟩
            simp (maxSteps := 1000000) -implicitDefEqProofs only [go_sem, seval, -List.reduceReplicate, q1, q2, q3, q4, q5, q6, t5, co, re, fc, fr, f0, f1, f2, hrp, hl, e1, e2, hrw, l2, l5, l6, l7, l8, l9]
            exact ⟨by omega, by omega, fin _ (by rw [e]; rfl)⟩
        · have l7 : (y.l == 1) = false := by simp [hl1]
          rw [decide_eq_false hl1] at e
          simp (maxSteps := 1000000) -implicitDefEqProofs only [go_sem, seval, -List.reduceReplicate, Try.results44, Try.ntmps44, syL, q1, q2, q3, q4, q5, q6, t5, e1, e2, hrw, l2, l5, l6, l7, l8]
          refine ⟨Fx.mixed, .inl ⟨[(0, false), (1, false), (2, false), (3, false), (4, false), (5, false), (6, false), (7, false), (8, false), (9, false), (10, false), (11, false), (12, false), (13, false), (14, false), (15, false), (16, false), (17, false), (18, false), (19, false), (20, false), (21, false), (22, false), (23, false), (24, false)], [], by kernel_rfl, (fun j hj => by cases hj), ?_⟩⟩
          simp (maxSteps := 1000000) -implicitDefEqProofs only [go_sem, seval, -List.reduceReplicate, q1, q2, q3, q4, q5, q6, t5, co, re, fc, fr, f0, f1, f2, hrp, hl, e1, e2, hrw, l2, l5, l6, l7, l8]
          exact ⟨by omega, by omega, fin _ (by rw [e]; rfl)⟩
  have e2 : (y.k == 2) = false := by simp [k2]
  have e : fitsB C h.length y = (y.k == 0) := by
    unfold fitsB
    by_cases k0 : y.k = 0
    · rw [if_pos k0]; simp [k0]
    · rw [if_neg k0, if_neg k1, if_neg k2]; simp [k0]
  cases l2 : decide (y.l ≥ 2) <;>
  · simp (maxSteps := 1000000) -implicitDefEqProofs only [go_sem, seval, -List.reduceReplicate, Try.results44, Try.ntmps44, syL, q1, q2, q3, q4, q5, q6, t5, e1, e2, l2]
    exact fin _ e.symm
end
end Go.Proofs.Ytmdeoikpiiambaa
end
section
/- The document's model: what a coder becomes. BRIEF -/
set_option linter.unusedVariables false
set_option linter.unusedSimpArgs false
set_option maxRecDepth 100000
namespace Go.Proofs.Ytmdeoikpiiambaa
open Go Go.Eng

/-- what lies beside a coder of the document -/
structure Rid where
  At : Mem → List Nat → Prop
  ext : ∀ {m m' : Mem} {ns : List Nat}, At m ns → (∀ k ∈ ns, ∀ o, Eng.look m k = some o → Eng.look m' k = some o) → At m' ns
  live : ∀ {m : Mem} {ns : List Nat}, At m ns → ∀ k ∈ ns, ∃ o, Eng.look m k = some o
def encR (a : Nat) (s : RS) : Rid := ⟨fun m ns => RcAt a m s ns, fun h hk => h.ext hk, fun h => h.live⟩
def noR : Rid := ⟨fun _ ns => ns = [], fun h _ => h, fun h k hk => by cases h; cases hk⟩
def KD (Z : Rid) (c : Nat) (C : MC) (m : Mem) (P : List (BitVec 16)) (ns : List Nat) : Prop := ∃ r rc q qc rs qs ne, ns = c :: r :: q :: ne ∧ DoA c r rc q qc rs qs C P m ∧ Z.At m ne ∧ c ∉ ne ∧ r ∉ ne ∧ q ∉ ne
def dcL (C : MC) (R Q : AV) : List AV := [.int .i64 (C.lc : Nat), .int .i64 (C.lp : Nat), .int .i64 (C.pb : Nat), .int .i64 (C.st : Nat), R, Q]
section
variable {Z : Rid} {wr : Nat → Bool} {m : Mem} {nx c : Nat} {C : MC} {P : List (BitVec 16)} {r rc q qc : Nat} {rs qs : List Value} {ne : List Nat}
theorem kaEnd (D : Rdm wr m nx) (lt : ∀ p ∈ m, p.1 < nx) (hw : ∀ k ∈ c :: r :: q :: ne, wr k = true) (hd : DoA c r rc q qc rs qs C P m) (he : Z.At m ne) (n1 : c ∉ ne) (n2 : r ∉ ne) (n3 : q ∉ ne) {M : Mem} {nxM r' rc' : Nat} {rs' : List Value} {C' : MC}
    (F : Fr (c :: r :: q :: ne) m nx M nxM) (hc : Eng.look M c = some (.cells (dcL C' (.sl r' 0 4 rc') (.sl q 0 P.length qc)) 80)) (hr : Eng.look M r' = some (.cells (rpL C' ++ rs'.map AV.val) 3)) (hk : ∀ k ∈ q :: ne, ∀ o, Eng.look m k = some o → Eng.look M k = some o) (hr' : r' = r ∨ nx ≤ r') (kin : Kin C C') (l1 : 4 + rs'.length = rc') (l2 : rc' ≤ maxI) :
    Eng.Fin nx wr M nxM (OwK (KD Z c C') (.tup []) P (c :: r :: q :: ne) m nx) (.tup []) := by
  have cl := look_ltm lt hd.co
  have ql := look_ltm lt hd.ch
  have nel : ∀ k ∈ ne, k < nx := fun k hk => by obtain ⟨o, ho⟩ := Z.live he k hk; exact look_ltm lt ho
  refine Fr.fin (At := KD Z c C') (s' := P) F D hw ⟨r', rc', q, qc, rs', qs, ne, rfl, ⟨hc, hr, hk q (.head _) _ hd.ch, ?_, hd.cq, ?_, l1, l2, hd.ql, hd.qm, by rw [hd.len, szP, szP, kin.1, kin.2.1]⟩, Z.ext he fun k hkn o ho => hk k (.tail _ hkn) o ho, n1, ?_, n3⟩ fun k hk => ?_
  · rcases hr' with rfl | h
    · exact hd.cr
    · omega
  · rcases hr' with rfl | h
    · exact hd.rq
    · omega
  · rcases hr' with rfl | h
    · exact n2
    · exact fun hm => by have := nel r' hm; omega
  · rcases List.mem_cons.1 hk with rfl | hk
    · exact .inl (.head _)
    rcases List.mem_cons.1 hk with rfl | hk
    · exact hr'.imp (fun e => by rw [e]; exact .tail _ (.head _)) id
    · exact .inl (.tail _ (.tail _ hk))
set_option maxHeartbeats 4000000 in
theorem kbec0 (D : Rdm wr m nx) (lt : ∀ p ∈ m, p.1 < nx) (hw : ∀ k ∈ c :: r :: q :: ne, wr k = true) (hd : DoA c r rc q qc rs qs C P m) (he : Z.At m ne) (n1 : c ∉ ne) (n2 : r ∉ ne) (n3 : q ∉ ne) (hst : C.st < 12) (y : Sy) (hk0 : y.k = 0) :
    CallG false Try.prog 53 [.ptr c 0, .agg (syL y)] wr m nx (OwK (KD Z c (becC C y)) (.tup []) P (c :: r :: q :: ne) m nx) := by
  refine fn_okG Try.func53 rfl (by show 2 ≤ _; decide) ?_
  have t5 : ∀ a b d e f : AV, List.take 5 [a, b, d, e, f] = [a, b, d, e, f] := fun _ _ _ _ _ => rfl
  have co := hd.co
  have cl := look_ltm lt co
  have rl := look_ltm lt hd.re
  have ql := look_ltm lt hd.ch
  have nel : ∀ k ∈ ne, k < nx := fun k hk => by obtain ⟨o, ho⟩ := Z.live he k hk; exact look_ltm lt ho
  have fc : (nx = c) = False := eq_false (by omega)
  have bc : (nx == c) = false := by rw [beq_eq_false_iff_ne]; omega
  have wc : wr c = true := hw c (.head _)
  have e0 : (y.k == 0) = true := by simp [hk0]
  have eb : becC C y = litGo C := by unfold becC; rw [if_pos hk0]
  rw [eb]
  have fin : ∀ v : Nat, v = (litGo C).st → Eng.Fin nx wr ((nx, syO y) :: Eng.upd m c (.cells (dcL { C with st := v } (.sl r 0 4 rc) (.sl q 0 P.length qc)) 80)) (nx + 1) (OwK (KD Z c (litGo C)) (.tup []) P (c :: r :: q :: ne) m nx) (.tup []) := fun v hv => by
    have F1 := Fr.upd (ns := c :: r :: q :: ne) D lt (.head _) (.cells (dcL { C with st := v } (.sl r 0 4 rc) (.sl q 0 P.length qc)) 80)
    refine kaEnd D lt hw hd he n1 n2 n3 (r' := r) (rc' := rc) (rs' := rs) (F1.trans (Fr.gr (ns := []) (Gr.cons F1.nd F1.lt (syO y))) lt fun k hk => by cases hk) ?_ ?_ ?_ (.inl rfl) ⟨rfl, rfl, rfl⟩ hd.rl hd.rm
    · rw [look_cons, if_neg (by omega), look_upd_same _ co, hv]; rfl
    · rw [look_cons, if_neg (by omega), look_upd_other _ hd.cr]; exact hd.re
    · intro k hk o ho
      have : k < nx := look_ltm lt ho
      have hck : c ≠ k := fun e => by
        rcases List.mem_cons.1 hk with h | h
        · exact hd.cq (by rw [e, h])
        · exact n1 (by rw [e]; exact h)
      rw [look_cons, if_neg (by omega), look_upd_other _ hck]; exact ho
  by_cases h4 : C.st < 4
  · have c1 : decide (((C.st : Nat) : Int) < 4) = true := decide_eq_true (by omega)
    simp (maxSteps := 1000000) -implicitDefEqProofs only [go_sem, seval, -List.reduceReplicate, Try.results53, Try.ntmps53, syL, t5, e0, co, fc, c1, wc]
    exact fin 0 (by unfold litGo; rw [if_pos h4])
  have c1 : decide (((C.st : Nat) : Int) < 4) = false := decide_eq_false (by omega)
  by_cases h10 : C.st < 10
  · have c2 : decide (((C.st : Nat) : Int) < 10) = true := decide_eq_true (by omega)
    have w3 : IntKind.i64.wrap (((C.st : Nat) : Int) - 3) = ((C.st - 3 : Nat) : Int) := by rw [wrap_i64] <;> omega
    simp (maxSteps := 1000000) -implicitDefEqProofs only [go_sem, seval, -List.reduceReplicate, Try.results53, Try.ntmps53, syL, t5, e0, co, fc, c1, c2, w3, wc]
    exact fin (C.st - 3) (by unfold litGo; rw [if_neg h4, if_pos h10])
  · have c2 : decide (((C.st : Nat) : Int) < 10) = false := decide_eq_false (by omega)
    have w3 : IntKind.i64.wrap (((C.st : Nat) : Int) - 6) = ((C.st - 6 : Nat) : Int) := by rw [wrap_i64] <;> omega
    simp (maxSteps := 1000000) -implicitDefEqProofs only [go_sem, seval, -List.reduceReplicate, Try.results53, Try.ntmps53, syL, t5, e0, co, fc, c1, c2, w3, wc]
    exact fin (C.st - 6) (by unfold litGo; rw [if_neg h4, if_neg h10])
set_option maxHeartbeats 4000000 in
theorem kbec1 (D : Rdm wr m nx) (lt : ∀ p ∈ m, p.1 < nx) (hw : ∀ k ∈ c :: r :: q :: ne, wr k = true) (hd : DoA c r rc q qc rs qs C P m) (he : Z.At m ne) (n1 : c ∉ ne) (n2 : r ∉ ne) (n3 : q ∉ ne) (hst : C.st < 12) (y : Sy) (hk1 : y.k = 1) (hd0 : 0 ≤ y.d) :
    CallG false Try.prog 53 [.ptr c 0, .agg (syL y)] wr m nx (OwK (KD Z c (becC C y)) (.tup []) P (c :: r :: q :: ne) m nx) := by
  refine fn_okG Try.func53 rfl (by show 2 ≤ _; decide) ?_
  have t5 : ∀ a b d e f : AV, List.take 5 [a, b, d, e, f] = [a, b, d, e, f] := fun _ _ _ _ _ => rfl
  have co := hd.co
  have re := hd.re
  have cl := look_ltm lt co
  have rl := look_ltm lt hd.re
  have ql := look_ltm lt hd.ch
  have nel : ∀ k ∈ ne, k < nx := fun k hk => by obtain ⟨o, ho⟩ := Z.live he k hk; exact look_ltm lt ho
  have fc : (nx = c) = False := eq_false (by omega)
  have fr : (nx = r) = False := eq_false (by omega)
  have fc2 : (nx + 1 = c) = False := eq_false (by omega)
  have bc : (c == nx) = false := by rw [beq_eq_false_iff_ne]; omega
  have bcr : (r == c) = false := by rw [beq_eq_false_iff_ne]; exact fun e => hd.cr e.symm
  have bnc : (nx == c) = false := by rw [beq_eq_false_iff_ne]; omega
  have g0 : decide (nx + 1 ≤ nx) = false := decide_eq_false (by omega)
  have g1 : decide (nx + 1 ≤ c) = false := decide_eq_false (by omega)
  have g2 : decide (nx + 1 ≤ r) = false := decide_eq_false (by omega)
  have wc : wr c = true := hw c (.head _)
  have e0 : (y.k == 0) = false := by simp [hk1]
  have e1 : (y.k == 1) = true := by simp [hk1]
  obtain ⟨d, hyd⟩ : ∃ d : Nat, y.d = (d : Int) := ⟨y.d.toNat, by omega⟩
  have eb : becC C y = go1 (front C 3 d) 7 10 := by unfold becC; rw [if_neg (by omega), if_pos hk1, hyd, Int.toNat_natCast]
  rw [eb]
  have fin : ∀ (v : Nat) (O1 : AObj), v = (go1 (front C 3 d) 7 10).st → Eng.Fin nx wr ((nx + 1, .cells [.int .i64 (d : Nat), .int .i64 (C.r0 : Nat), .int .i64 (C.r1 : Nat), .int .i64 (C.r2 : Nat)] 3) :: (nx, O1) :: Eng.upd m c (.cells (dcL { C with st := v } (.sl (nx + 1) 0 4 4) (.sl q 0 P.length qc)) 80)) (nx + 1 + 1) (OwK (KD Z c (go1 (front C 3 d) 7 10)) (.tup []) P (c :: r :: q :: ne) m nx) (.tup []) := fun v O1 hv => by
    have F1 := Fr.upd (ns := c :: r :: q :: ne) D lt (.head _) (.cells (dcL { C with st := v } (.sl (nx + 1) 0 4 4) (.sl q 0 P.length qc)) 80)
    have G1 := Gr.cons F1.nd F1.lt O1
    have G2 := G1.trans (Gr.cons G1.nd G1.lt (.cells [.int .i64 (d : Nat), .int .i64 (C.r0 : Nat), .int .i64 (C.r1 : Nat), .int .i64 (C.r2 : Nat)] 3))
    refine kaEnd D lt hw hd he n1 n2 n3 (r' := nx + 1) (rc' := 4) (rs' := []) (F1.trans (Fr.gr (ns := []) G2) lt fun k hk => by cases hk) ?_ ?_ ?_ (.inr (by omega)) ⟨rfl, rfl, rfl⟩ rfl (by decide)
    · rw [look_cons, if_neg (by omega), look_cons, if_neg (by omega), look_upd_same _ co, hv]; rfl
    · rw [look_cons, if_pos rfl]; rfl
    · intro k hk o ho
      have : k < nx := look_ltm lt ho
      have hck : c ≠ k := fun e => by
        rcases List.mem_cons.1 hk with h | h
        · exact hd.cq (by rw [e, h])
        · exact n1 (by rw [e]; exact h)
      rw [look_cons, if_neg (by omega), look_cons, if_neg (by omega), look_upd_other _ hck]; exact ho
  unfold rpL at re
  by_cases h7 : C.st ≥ 7
  · have c1 : decide (((C.st : Nat) : Int) ≥ 7) = true := decide_eq_true (by omega)
    simp (maxSteps := 1000000) -implicitDefEqProofs only [go_sem, seval, -List.reduceReplicate, Try.results53, Try.ntmps53, syL, t5, e0, e1, hyd, co, fc, c1, wc]
    refine ⟨Fx.mixed, .inr (.inl ⟨[(0, false), (1, false), (2, false), (3, false), (4, false), (5, false), (6, false), (7, false), (8, false), (9, false), (10, false), (11, false), (12, false), (13, false), (14, false), (15, false), (16, false), (17, false), (18, false), (19, false), (20, false), (21, true), (22, false), (23, false), (24, true)], [c], [24], [6, 12, 18], by kernel_rfl, by kernel_rfl, (fun j hj => by cases List.mem_singleton.1 hj; exact ⟨wc, by rw [look_cons, if_neg (by omega), co]; rfl⟩), ?_⟩)⟩
    simp (maxSteps := 1000000) -implicitDefEqProofs only [go_sem, seval, -List.reduceReplicate, t5, hyd, co, re, fc, fr, fc2, bc, bcr, bnc, g0, g1, g2, wc, look_upd_s, look_upd_o, upd_upd, Option.isSome_some, beq_self_eq_true]
    exact ⟨by omega, by omega, by omega, .inr trivial, fin 10 _ (by show _ = (if C.st < 7 then 7 else 10); rw [if_neg (by omega)])⟩
  · have c1 : decide (((C.st : Nat) : Int) ≥ 7) = false := decide_eq_false (by omega)
    simp (maxSteps := 1000000) -implicitDefEqProofs only [go_sem, seval, -List.reduceReplicate, Try.results53, Try.ntmps53, syL, t5, e0, e1, hyd, co, fc, c1, wc]
    refine ⟨Fx.mixed, .inr (.inl ⟨[(0, false), (1, false), (2, false), (3, false), (4, false), (5, false), (6, false), (7, false), (8, false), (9, false), (10, false), (11, false), (12, false), (13, false), (14, false), (15, false), (16, false), (17, false), (18, false), (19, false), (20, false), (21, true), (22, false), (23, false), (24, true)], [c], [24], [6, 12, 18], by kernel_rfl, by kernel_rfl, (fun j hj => by cases List.mem_singleton.1 hj; exact ⟨wc, by rw [look_cons, if_neg (by omega), co]; rfl⟩), ?_⟩)⟩
    simp (maxSteps := 1000000) -implicitDefEqProofs only [go_sem, seval, -List.reduceReplicate, t5, hyd, co, re, fc, fr, fc2, bc, bcr, bnc, g0, g1, g2, wc, look_upd_s, look_upd_o, upd_upd, Option.isSome_some, beq_self_eq_true]
    exact ⟨by omega, by omega, by omega, .inr trivial, fin 7 _ (by show _ = (if C.st < 7 then 7 else 10); rw [if_pos (by omega)])⟩
end
end Go.Proofs.Ytmdeoikpiiambaa
end
section
/- The document's model: what a coder becomes behind a repeat. BRIEF -/
set_option linter.unusedVariables false
set_option linter.unusedSimpArgs false
set_option maxRecDepth 100000
namespace Go.Proofs.Ytmdeoikpiiambaa
open Go Go.Eng

theorem del_sub : ∀ (m : Mem) (n : Nat), (del m n).Sublist m
  | [], n => List.Sublist.slnil
  | (k, o) :: r, n => by
    show (if k = n then del r n else (k, o) :: del r n).Sublist _
    split
    · exact (del_sub r n).cons _
    · exact (del_sub r n).cons_cons _
theorem Gr.del {m M : Mem} {nx nxM k : Nat} (lt : ∀ p ∈ m, p.1 < nx) (g : Gr m nx M nxM) (hk : nx ≤ k) : Gr m nx (Eng.del M k) nxM :=
  ⟨g.le, List.Sublist.nodup ((del_sub M k).map _) g.nd, fun p hp => g.lt p ((del_sub M k).subset hp), fun n o ho => by rw [look_del_other (by have := look_ltm lt ho; omega)]; exact g.kp n o ho⟩
/-- the repeats, the one first, as they are put together -/
def lstW (C : MC) (w i : Nat) : List Nat := repOf C w :: ((List.range i).filter fun j => j != w).map (repOf C)
def lstB (C : MC) (w i : Nat) : List (BitVec 64) := (lstW C w i).map (BitVec.ofNat 64)
theorem lstB_same (C : MC) (w : Nat) : lstB C w (w + 1) = lstB C w w := by
  unfold lstB lstW
  rw [List.range_succ, List.filter_append]
  simp
theorem lstB_next (C : MC) (w i : Nat) (h : i ≠ w) : lstB C w (i + 1) = lstB C w i ++ [BitVec.ofNat 64 (repOf C i)] := by
  unfold lstB lstW
  rw [List.range_succ, List.filter_append]
  simp [h]
theorem lstB_len (C : MC) (w i : Nat) : (lstB C w i).length ≤ i + 1 := by
  unfold lstB lstW
  rw [List.length_map, List.length_cons, List.length_map]
  have := List.length_filter_le (fun j => j != w) (List.range i)
  rw [List.length_range] at this
  omega
theorem lstB_end {C : MC} (hC : MCok C) (w : Nat) (hw : w < 4) : bvs .i64 (lstB C w 4) = rpL (front C w (repOf C w)) := by
  have h : ∀ n : Nat, n < 1099511627776 → (((BitVec.ofNat 64 n).toNat : Nat) : Int) = (n : Int) := fun n hn => by
    rw [BitVec.toNat_ofNat, Nat.mod_eq_of_lt (by omega)]
  obtain ⟨_, a0⟩ := hC.r0
  obtain ⟨_, a1⟩ := hC.r1
  obtain ⟨_, a2⟩ := hC.r2
  obtain ⟨_, a3⟩ := hC.r3
  have b0 := h _ a0
  have b1 := h _ a1
  have b2 := h _ a2
  have b3 := h _ a3
  rcases (show w = 0 ∨ w = 1 ∨ w = 2 ∨ w = 3 by omega) with rfl | rfl | rfl | rfl
  · show [AV.int .i64 _, AV.int .i64 _, AV.int .i64 _, AV.int .i64 _] = [AV.int .i64 _, AV.int .i64 _, AV.int .i64 _, AV.int .i64 _]
    show [AV.int .i64 (((BitVec.ofNat 64 C.r0).toNat : Nat) : Int), AV.int .i64 (((BitVec.ofNat 64 C.r1).toNat : Nat) : Int), AV.int .i64 (((BitVec.ofNat 64 C.r2).toNat : Nat) : Int), AV.int .i64 (((BitVec.ofNat 64 C.r3).toNat : Nat) : Int)] = _
    rw [b0, b1, b2, b3]; rfl
  · show [AV.int .i64 (((BitVec.ofNat 64 C.r1).toNat : Nat) : Int), AV.int .i64 (((BitVec.ofNat 64 C.r0).toNat : Nat) : Int), AV.int .i64 (((BitVec.ofNat 64 C.r2).toNat : Nat) : Int), AV.int .i64 (((BitVec.ofNat 64 C.r3).toNat : Nat) : Int)] = _
    rw [b0, b1, b2, b3]; rfl
  · show [AV.int .i64 (((BitVec.ofNat 64 C.r2).toNat : Nat) : Int), AV.int .i64 (((BitVec.ofNat 64 C.r0).toNat : Nat) : Int), AV.int .i64 (((BitVec.ofNat 64 C.r1).toNat : Nat) : Int), AV.int .i64 (((BitVec.ofNat 64 C.r3).toNat : Nat) : Int)] = _
    rw [b0, b1, b2, b3]; rfl
  · show [AV.int .i64 (((BitVec.ofNat 64 C.r3).toNat : Nat) : Int), AV.int .i64 (((BitVec.ofNat 64 C.r0).toNat : Nat) : Int), AV.int .i64 (((BitVec.ofNat 64 C.r1).toNat : Nat) : Int), AV.int .i64 (((BitVec.ofNat 64 C.r2).toNat : Nat) : Int)] = _
    rw [b0, b1, b2, b3]; rfl
section
variable {Z : Rid} {wr : Nat → Bool} {m : Mem} {nx c : Nat} {C : MC} {P : List (BitVec 16)} {r rc q qc : Nat} {rs qs : List Value} {ne : List Nat}
set_option maxHeartbeats 4000000 in
theorem kbec2 (D : Rdm wr m nx) (lt : ∀ p ∈ m, p.1 < nx) (hw : ∀ k ∈ c :: r :: q :: ne, wr k = true) (hd : DoA c r rc q qc rs qs C P m) (he : Z.At m ne) (n1 : c ∉ ne) (n2 : r ∉ ne) (n3 : q ∉ ne) (hC : MCok C) (y : Sy) (hk2 : y.k = 2) (hy : 0 ≤ y.r ∧ y.r < 4) :
    CallG false Try.prog 53 [.ptr c 0, .agg (syL y)] wr m nx (OwK (KD Z c (becC C y)) (.tup []) P (c :: r :: q :: ne) m nx) := by
  refine fn_okG Try.func53 rfl (by show 2 ≤ _; decide) ?_
  have t5 : ∀ a b d e f : AV, List.take 5 [a, b, d, e, f] = [a, b, d, e, f] := fun _ _ _ _ _ => rfl
  have co := hd.co
  have re := hd.re
  have cl := look_ltm lt co
  have rl := look_ltm lt hd.re
  have ql := look_ltm lt hd.ch
  have fc : (nx = c) = False := eq_false (by omega)
  have fr : (nx = r) = False := eq_false (by omega)
  have g0 : decide (nx + 1 ≤ nx) = false := decide_eq_false (by omega)
  have g1 : decide (nx + 1 ≤ c) = false := decide_eq_false (by omega)
  have g2 : decide (nx + 1 ≤ r) = false := decide_eq_false (by omega)
  have e0 : (y.k == 0) = false := by simp [hk2]
  have e1 : (y.k == 1) = false := by simp [hk2]
  have e2 : (y.k == 2) = true := by simp [hk2]
  obtain ⟨w, hyr⟩ : ∃ w : Nat, y.r = (w : Int) := ⟨y.r.toNat, by omega⟩
  have hw4 : w < 4 := by omega
  have hrp : ∀ i, i < 4 → (rpL C ++ rs.map AV.val).getD i (.int .i64 0) = .int .i64 (repOf C i : Nat) := fun i h => by
    rcases (show i = 0 ∨ i = 1 ∨ i = 2 ∨ i = 3 by omega) with rfl | rfl | rfl | rfl <;> rfl
  have hl : (rpL C ++ rs.map AV.val).length = rs.length + 4 := by rw [List.length_append, List.length_map, Nat.add_comm]; rfl
  have hrw := hrp w hw4
  obtain ⟨sv, hsv⟩ : ∃ sv, sv = decide (((C.st : Nat) : Int) ≥ 7) := ⟨_, rfl⟩
  simp (maxSteps := 1000000) -implicitDefEqProofs only [go_sem, seval, -List.reduceReplicate, Try.results53, Try.ntmps53, syL, t5, e0, e1, e2, hyr, co, fc, ← hsv]
  refine ⟨Fx.mixed, .inl ⟨[(0, false), (1, false), (2, false), (3, false), (4, false), (5, false), (6, false), (7, false), (8, true), (9, false)], [], by kernel_rfl, (fun j hj => by cases hj), ?_⟩⟩
  simp (maxSteps := 1000000) -implicitDefEqProofs only [go_sem, seval, -List.reduceReplicate, t5, hyr, co, re, fc, fr, g0, g1, g2, hrw, hl]
  refine ⟨by omega, by omega, .inr trivial, ?_⟩
  have rb : ∀ j, repOf C j < 1099511627776 := fun j => (repOf_ok hC j).2
  have one : ∀ j, (List.replicate 1 (AV.int .i64 0)).set 0 (AV.int .i64 (repOf C j : Nat)) = bvs .i64 [BitVec.ofNat 64 (repOf C j)] := fun j => by
    show [AV.int .i64 ((repOf C j : Nat) : Int)] = [AV.int .i64 (((BitVec.ofNat 64 (repOf C j)).toNat : Nat) : Int)]
    rw [BitVec.toNat_ofNat, Nat.mod_eq_of_lt (by have := rb j; omega)]
  have tk1 : ∀ j, List.take 1 ((List.replicate 1 (AV.int .i64 0)).set 0 (AV.int .i64 (repOf C j : Nat))) = bvs .i64 [BitVec.ofNat 64 (repOf C j)] := fun j => by rw [one]; rfl
  have G1 := Gr.cons D.nd lt (.cells [.int .i64 y.k, .int .u8 ((y.b.toNat : Nat) : Int), .int .i64 y.l, .int .i64 y.d, .int .i64 (w : Nat)] 71)
  have GA := G1.trans (Gr.cons G1.nd G1.lt (.cells ((List.replicate 1 (AV.int .i64 0)).set 0 (AV.int .i64 (repOf C w : Nat))) 3))
  refine LoopOk.upX (fun i (x : Nat × Nat × List Value × Mem × Nat) => Gr m nx x.2.2.2.1 x.2.2.2.2 ∧ Eng.look x.2.2.2.1 x.1 = some (.cells (bvs .i64 (lstB C w i) ++ x.2.2.1.map AV.val) 3) ∧ nx + 1 ≤ x.1 ∧ x.1 < x.2.2.2.2 ∧ (lstB C w i).length + x.2.2.1.length = x.2.1 ∧ x.2.1 ≤ maxI ∧ Eng.look x.2.2.2.1 nx = some (.cells [.int .i64 y.k, .int .u8 ((y.b.toNat : Nat) : Int), .int .i64 y.l, .int .i64 y.d, .int .i64 (w : Nat)] 71)) 4
    (fun i x => ([(6, .int .i64 (i : Nat)), (5, .sl x.1 0 (lstB C w i).length x.2.1), (4, .bool sv), (3, .ptr nx 0), (0, .ptr c 0)], x.2.2.2.1, x.2.2.2.2)) (nx + 1, 1, [], _, nx + 1 + 1) ⟨GA, by rw [look_cons, if_pos rfl, one]; rfl, Nat.le_refl _, Nat.lt_succ_self _, rfl, (by show 1 ≤ maxI; decide), by rw [look_cons, if_neg (by omega), look_cons, if_pos rfl]⟩ ((GA.rdm D).leN (by omega) ⟨rfl, rfl, rfl, rfl, rfl, trivial⟩) ?_
  rintro i ⟨n, cap, sp, M, nxM⟩ ⟨hi4, a1, a2, a3, a4, a5, a6, a7⟩
  have a1 : Gr m nx M nxM := a1
  have a2 : Eng.look M n = some (.cells (bvs .i64 (lstB C w i) ++ sp.map AV.val) 3) := a2
  have a3 : nx + 1 ≤ n := a3
  have a4 : n < nxM := a4
  have a5 : (lstB C w i).length + sp.length = cap := a5
  have a6 : cap ≤ maxI := a6
  have a7 : Eng.look M nx = some (.cells [.int .i64 y.k, .int .u8 ((y.b.toNat : Nat) : Int), .int .i64 y.l, .int .i64 y.d, .int .i64 (w : Nat)] 71) := a7
  have wi : IntKind.i64.wrap ((i : Int) + 1) = ((i + 1 : Nat) : Int) := by rw [wrap_i64] <;> omega
  have coM := a1.kp c _ co
  have reM := a1.kp r _ re
  rcases Nat.lt_or_ge i 4 with h' | h'
  · have c1 : decide ((i : Int) < 4) = true := decide_eq_true (by omega)
    have hri := hrp i h'
    by_cases hiw : i = w
    · have c2 : (((i : Nat) : Int) != ((w : Nat) : Int)) = false := by rw [hiw]; simp
      simp (maxSteps := 1000000) -implicitDefEqProofs only [go_sem, seval, -List.reduceReplicate, t5, hyr, c1, c2, a7, wi]
      have hlw : lstB C w (i + 1) = lstB C w i := by rw [hiw]; exact lstB_same C w
      refine UpX_normal h' (n, cap, sp, M, nxM) ⟨a1, by show Eng.look M n = some (.cells (bvs .i64 (lstB C w (i + 1)) ++ sp.map AV.val) 3); rw [hlw]; exact a2, a3, a4, by show (lstB C w (i + 1)).length + sp.length = cap; rw [hlw]; exact a5, a6, a7⟩ ?_
      dsimp only
      rw [hlw]
      exact (a1.rdm D).leN a1.le ⟨rfl, rfl, rfl, rfl, rfl, trivial⟩
    · have c2 : (((i : Nat) : Int) != ((w : Nat) : Int)) = true := by simp; omega
      have fcM : (nxM = c) = False := eq_false (by have := a1.le; omega)
      simp (maxSteps := 1000000) -implicitDefEqProofs only [go_sem, seval, -List.reduceReplicate, t5, hyr, c1, c2, a7, coM, reM, hri, hl]
      have hlb := lstB_len C w i
      refine ⟨by omega, by omega, .inr trivial, rfl, rfl, ?_⟩
      rw [tk1 i]
      refine appk_bvs (k := .i64) (x := lstB C w i) (y := [BitVec.ofNat 64 (repOf C i)]) (sp := sp) (by rw [look_cons, if_neg (by omega)]; exact a2) (D.wn n (by omega)) a5 a6 (by decide) (by rw [List.length_singleton]; omega) ?_
      intro cap2 sp2 d1 d2
      have hdn : ∀ O : AObj, Eng.del ((nxM, O) :: M) n = (nxM, O) :: Eng.del M n := fun O => by
        show (if nxM = n then _ else _) = _
        rw [if_neg (by omega)]
      rw [hdn]
      have b1 := Gr.del lt a1 (show nx ≤ n by omega)
      have b2 := b1.trans (Gr.cons b1.nd b1.lt (.cells ((List.replicate 1 (AV.int .i64 0)).set 0 (AV.int .i64 (repOf C i : Nat))) 3))
      have b3 := b2.trans (Gr.cons b2.nd b2.lt (.cells (bvs .i64 (lstB C w i ++ [BitVec.ofNat 64 (repOf C i)]) ++ sp2.map AV.val) 3))
      have hln := lstB_next C w i hiw
      simp (maxSteps := 1000000) -implicitDefEqProofs only [go_sem, seval, -List.reduceReplicate, wi]
      refine UpX_normal h' (nxM + 1, cap2, sp2, _, nxM + 1 + 1) ⟨b3, by rw [look_cons, if_pos rfl, hln], by show nx + 1 ≤ nxM + 1; omega, by show nxM + 1 < nxM + 1 + 1; omega, by show (lstB C w (i + 1)).length + sp2.length = cap2; rw [hln]; exact d1, d2, by show Eng.look ((nxM + 1, _) :: (nxM, _) :: Eng.del M n) nx = _; rw [look_cons, if_neg (by omega), look_cons, if_neg (by omega), look_del_other (by omega)]; exact a7⟩ ?_
      dsimp only
      rw [hln, List.length_append, List.length_singleton]
      exact (b3.rdm D).leN b3.le ⟨rfl, rfl, rfl, rfl, rfl, trivial⟩
  · have hi4' : i = 4 := by omega
    have c1 : decide ((i : Int) < 4) = false := decide_eq_false (by omega)
    have hend := lstB_end hC w hw4
    rw [hi4'] at a2 a5
    have hlen : (lstB C w 4).length = 4 := by rw [← bvs_length .i64, hend]; rfl
    rw [hend] at a2
    rw [hlen] at a5
    have hlen' : (lstB C w i).length = 4 := by rw [hi4']; exact hlen
    have wc : wr c = true := hw c (.head _)
    have bcn : (c == nx) = false := by rw [beq_eq_false_iff_ne]; omega
    have bcc : (nx == c) = false := by rw [beq_eq_false_iff_ne]; omega
    have fin : ∀ v : Nat, v = (becC C y).st → Eng.Fin nx wr (Eng.upd M c (.cells (dcL { C with st := v } (.sl n 0 4 cap) (.sl q 0 P.length qc)) 80)) nxM (OwK (KD Z c (becC C y)) (.tup []) P (c :: r :: q :: ne) m nx) (.tup []) := fun v hv => by
      have kf := front_kinds C w (repOf C w)
      have hk : Kin C (becC C y) ∧ rpL (becC C y) = rpL (front C w (repOf C w)) ∧ (becC C y).pb = C.pb := by
        unfold becC
        rw [if_neg (by omega), if_neg (by omega), hyr, Int.toNat_natCast]
        split <;> exact ⟨⟨kf.1, kf.2.1, kf.2.2.1⟩, rfl, kf.2.2.1⟩
      have F1 : Fr (c :: r :: q :: ne) m nx M nxM := Fr.gr a1
      have F2 := F1.trans (Fr.upd (ns := c :: r :: q :: ne) (a1.rdm D) a1.lt (.head _) (.cells (dcL { C with st := v } (.sl n 0 4 cap) (.sl q 0 P.length qc)) 80)) lt fun k hk => .inl hk
      refine kaEnd D lt hw hd he n1 n2 n3 (r' := n) (rc' := cap) (rs' := sp) F2 ?_ ?_ ?_ (.inr (by omega)) hk.1 a5 a6
      · rw [look_upd_same _ coM, hv]
        unfold dcL
        rw [hk.1.1, hk.1.2.1, hk.2.2]
      · rw [look_upd_other _ (by omega), hk.2.1]; exact a2
      · intro k hkk o ho
        have hck : c ≠ k := fun e => by
          rcases List.mem_cons.1 hkk with h | h
          · exact hd.cq (by rw [e, h])
          · exact n1 (by rw [e]; exact h)
        rw [look_upd_other _ hck]; exact a1.kp k o ho
    have est : (becC C y).st = if y.l = 1 then (if C.st < 7 then 9 else 11) else (if C.st < 7 then 8 else 11) := by
      unfold becC
      rw [if_neg (by omega), if_neg (by omega), hyr, Int.toNat_natCast]
      have kf := (front_kinds C w (repOf C w)).2.2.2
      split <;> (unfold go1; rw [kf])
    by_cases h7 : C.st ≥ 7
    · have hs7 : sv = true := by rw [hsv]; exact decide_eq_true (by omega)
      have fin := fin 11 (by rw [est]; split <;> rw [if_neg (by omega)])
      by_cases hl1 : y.l = 1
      · have l1 : (y.l == 1) = true := by simp [hl1]
        simp (maxSteps := 1000000) -implicitDefEqProofs only [go_sem, seval, -List.reduceReplicate, t5, c1, coM, a7, wc, hlen', l1, hs7, bcn, bcc, look_upd_s, look_upd_o, upd_upd, Option.isSome_some]
        exact fin
      · have l1 : (y.l == 1) = false := by simp [hl1]
        simp (maxSteps := 1000000) -implicitDefEqProofs only [go_sem, seval, -List.reduceReplicate, t5, c1, coM, a7, wc, hlen', l1, hs7, bcn, bcc, look_upd_s, look_upd_o, upd_upd, Option.isSome_some]
        exact fin
    · have hs7 : sv = false := by rw [hsv]; exact decide_eq_false (by omega)
      by_cases hl1 : y.l = 1
      · have l1 : (y.l == 1) = true := by simp [hl1]
        have fin := fin 9 (by rw [est, if_pos hl1, if_pos (by omega)])
        simp (maxSteps := 1000000) -implicitDefEqProofs only [go_sem, seval, -List.reduceReplicate, t5, c1, coM, a7, wc, hlen', l1, hs7, bcn, bcc, look_upd_s, look_upd_o, upd_upd, Option.isSome_some]
        exact fin
      · have l1 : (y.l == 1) = false := by simp [hl1]
        have fin := fin 8 (by rw [est, if_neg hl1, if_pos (by omega)])
        simp (maxSteps := 1000000) -implicitDefEqProofs only [go_sem, seval, -List.reduceReplicate, t5, c1, coM, a7, wc, hlen', l1, hs7, bcn, bcc, look_upd_s, look_upd_o, upd_upd, Option.isSome_some]
        exact fin
end
end Go.Proofs.Ytmdeoikpiiambaa
end
section
/- The document's model: what a coder becomes, all kinds. BRIEF -/
set_option linter.unusedVariables false
set_option linter.unusedSimpArgs false
set_option maxRecDepth 100000
namespace Go.Proofs.Ytmdeoikpiiambaa
open Go Go.Eng

theorem fitsB_kind {C : MC} {n : Nat} {y : Sy} (h : fitsB C n y = true) : y.k = 0 ∨ (y.k = 1 ∧ 1 ≤ y.d) ∨ (y.k = 2 ∧ 0 ≤ y.r ∧ y.r < 4) := by
  unfold fitsB at h
  by_cases h0 : y.k = 0
  · exact .inl h0
  rw [if_neg h0] at h
  by_cases h1 : y.k = 1
  · rw [if_pos h1] at h
    simp only [Bool.and_eq_true, decide_eq_true_eq] at h
    exact .inr (.inl ⟨h1, by omega⟩)
  rw [if_neg h1] at h
  by_cases h2 : y.k = 2
  · rw [if_pos h2] at h
    simp only [Bool.and_eq_true, Bool.or_eq_true, decide_eq_true_eq] at h
    exact .inr (.inr ⟨h2, by omega, by omega⟩)
  · rw [if_neg h2] at h; cases h
theorem kbecD {Z : Rid} {wr : Nat → Bool} {m : Mem} {nx c : Nat} {C : MC} {P : List (BitVec 16)} {ns : List Nat} (D : Rdm wr m nx) (lt : ∀ p ∈ m, p.1 < nx) (H : KD Z c C m P ns) (hw : ∀ k ∈ ns, wr k = true) (hC : MCok C) (y : Sy) {n : Nat} (hf : fitsB C n y = true) :
    CallG false Try.prog 53 [.ptr c 0, .agg (syL y)] wr m nx (OwK (KD Z c (becC C y)) (.tup []) P ns m nx) := by
  obtain ⟨r, rc, q, qc, rs, qs, ne, rfl, hd, he, n1, n2, n3⟩ := H
  rcases fitsB_kind hf with h | ⟨h, h1⟩ | ⟨h, h1⟩
  · exact kbec0 D lt hw hd he n1 n2 n3 hC.st y h
  · exact kbec1 D lt hw hd he n1 n2 n3 hC.st y h (by omega)
  · exact kbec2 D lt hw hd he n1 n2 n3 hC y h h1
theorem kbecomes {wr : Nat → Bool} {m : Mem} {nx c a : Nat} {C : MC} {P : List (BitVec 16)} {s : RS} {ns : List Nat} (D : Rdm wr m nx) (lt : ∀ p ∈ m, p.1 < nx) (H : KA c a C m (P, s) ns) (hw : ∀ k ∈ ns, wr k = true) (hC : MCok C) (y : Sy) {n : Nat} (hf : fitsB C n y = true) :
    CallG false Try.prog 53 [.ptr c 0, .agg (syL y)] wr m nx (OwK (KA c a (becC C y)) (.tup []) (P, s) ns m nx) :=
  kbecD (Z := encR a s) D lt H hw hC y hf
end Go.Proofs.Ytmdeoikpiiambaa
end
section
/- The document's model: a symbol is put (literals). BRIEF -/
set_option linter.unusedVariables false
set_option linter.unusedSimpArgs false
set_option maxRecDepth 100000
namespace Go.Proofs.Ytmdeoikpiiambaa
open Go Go.Eng

theorem KA.co {c a : Nat} {C : MC} {m : Mem} {x : List (BitVec 16) × RS} {ns : List Nat} (H : KA c a C m x ns) : ∃ R Q, Eng.look m c = some (.cells [.int .i64 (C.lc : Nat), .int .i64 (C.lp : Nat), .int .i64 (C.pb : Nat), .int .i64 (C.st : Nat), R, Q] 80) ∧ c ∈ ns := by
  obtain ⟨r, rc, q, qc, rs, qs, ne, rfl, hd, _⟩ := H
  exact ⟨_, _, hd.co, .head _⟩
theorem KA.gr {c a : Nat} {C : MC} {m m' : Mem} {nx nx' : Nat} {x : List (BitVec 16) × RS} {ns : List Nat} (H : KA c a C m x ns) (g : Gr m nx m' nx') : KA c a C m' x ns := by
  obtain ⟨r, rc, q, qc, rs, qs, ne, rfl, hd, he, h⟩ := H
  exact ⟨r, rc, q, qc, rs, qs, ne, rfl, hd.ext fun k _ o ho => g.kp k o ho, he.ext fun k _ o ho => g.kp k o ho, h⟩
theorem sym_c0 {C : MC} {h : List (BitVec 8)} {y : Sy} (hk : y.k = 0) : (cmds (symP C h y)).2 = .b (16 * C.st + h.length % 2 ^ C.pb) false :: (cmds (litP C h ((y.b.toNat : Nat) : Int))).2 := by
  unfold symP
  dsimp only
  rw [cmds, decide_eq_false (by simp [hk]), if_neg (by decide), cmds_bind]
  show _ :: (_ ++ []) = _
  rw [List.append_nil]
section
variable {wr : Nat → Bool} {m : Mem} {nx c a : Nat} {C : MC} {P : List (BitVec 16)} {s : RS} {ns : List Nat}
set_option maxHeartbeats 4000000 in
theorem kput0 (D : Rdm wr m nx) (lt : ∀ p ∈ m, p.1 < nx) (H : KA c a C m (P, s) ns) (hw : ∀ k ∈ ns, wr k = true) {hv : AV} {h : List (BitVec 8)} {hs : List Nat} (hi : ByAt 5 m hv h hs) (hh : h.length ≤ 100000000) (hsn : ∀ k ∈ hs, k ∉ ns) (hC : MCok C) (hz : szP C ≤ 100000000) (hb : rencB s 24) (y : Sy) {n : Nat} (hf : fitsB C n y = true) (hk0 : y.k = 0) :
    CallG false Try.prog 46 [.ptr c 0, .ptr a 0, hv, .agg (syL y)] wr m nx (OwK (KA c a (becC C y)) (.tup []) (told rencM (cmds (symP C h y)).2 P s) ns m nx) := by
  refine fn_okG Try.func46 rfl (by show 4 ≤ _; decide) ?_
  have t5 : ∀ a b d e f : AV, List.take 5 [a, b, d, e, f] = [a, b, d, e, f] := fun _ _ _ _ _ => rfl
  obtain ⟨q1, q2, q3, q4, q5⟩ := hi.facts
  have q6 := hi.len Try.prog 22
  have G0 := Gr.cons D.nd lt (syO y)
  have D0 := G0.rdm D
  have H0 := H.gr G0
  obtain ⟨R, Q, co, cn⟩ := H0.co
  have cl : c < nx := by obtain ⟨R, Q, co, cn⟩ := H.co; exact look_ltm lt co
  have fc : (nx = c) = False := eq_false (by omega)
  have co1 : Eng.look m c = some (.cells [.int .i64 (C.lc : Nat), .int .i64 (C.lp : Nat), .int .i64 (C.pb : Nat), .int .i64 (C.st : Nat), R, Q] 80) := by rw [look_cons, if_neg (by omega)] at co; exact co
  have hpb := hC.pb
  have p0 : ¬ ((2 ^ C.pb : Nat) : Int) = 0 := fun e => by have := Int.ofNat.inj e; have : 0 < 2 ^ C.pb := Nat.pow_pos (by decide); omega
  have pl16 : h.length % 2 ^ C.pb < 16 := by
    have := Nat.mod_lt h.length (show 0 < 2 ^ C.pb from Nat.pow_pos (by decide))
    have : 2 ^ C.pb ≤ 2 ^ 4 := Nat.pow_le_pow_right (by decide) hpb
    omega
  have e0 : (y.k == 0) = true := by simp [hk0]
  have sz := szP_le C
  have hst := hC.st
  have wB : IntKind.i64.wrap ((y.b.toNat : Nat) : Int) = ((y.b.toNat : Nat) : Int) := by have := y.b.isLt; rw [wrap_i64] <;> omega
  rw [sym_c0 hk0, told_b]
  obtain ⟨p, hp⟩ : ∃ p, p = h.length % 2 ^ C.pb := ⟨_, rfl⟩
  rw [← hp] at pl16 ⊢
  have hbit := kbit D0 G0.lt H0 hw (rencBud.less _ _ 1 hb (by decide)) (16 * C.st + p) (by omega) false
  have hb23 : rencB (told rencM [.b (16 * C.st + p) false] P s).2 23 := rencB_told hb
  generalize told rencM [.b (16 * C.st + p) false] P s = z at *
  obtain ⟨P1, s1⟩ := z
  simp (maxSteps := 1000000) -implicitDefEqProofs only [go_sem, seval, -List.reduceReplicate, Try.results46, Try.ntmps46, syL, t5, q1, q2, q3, q4, q5, q6, co1, fc]
  refine CallG.pk (ktwo D0 C.pb (by omega)) ?_
  simp (maxSteps := 1000000) -implicitDefEqProofs only [go_sem, seval, -List.reduceReplicate, t5, q1, q2, q3, q4, q5, q6, tmN, p0, e0, ← hp]
  refine CallG.pk (kmatch D0 co hst p pl16) ?_
  simp (maxSteps := 1000000) -implicitDefEqProofs only [go_sem, seval, -List.reduceReplicate, t5, q1, q2, q3, q4, q5]
  refine CallG.weak hbit ?_
  rintro v m1 nx1 ⟨rfl, fr1, ns1, k1, hn1⟩
  have D1 := fr1.rdm D0 hw
  have hw1 := wrT D0 hw hn1
  have nns : nx ∉ ns := (fun hm => by have := hw; obtain ⟨r, rc, q, qc, rs, qs, ne, rfl, hd, he, _⟩ := H; rcases List.mem_cons.1 hm with h | hm; omega; rcases List.mem_cons.1 hm with h | hm; (have := look_ltm lt hd.re; omega); rcases List.mem_cons.1 hm with h | hm; (have := look_ltm lt hd.ch; omega); (obtain ⟨o, ho⟩ := he.live nx hm; have := look_ltm lt ho; omega))
  have hbx := fr1.kp nx _ nns (look_c0 _ _ _)
  unfold syO syL at hbx
  have hi1 : ByAt 5 m1 hv h hs := (hi.grow G0).ext fun k hk o ho => fr1.kp k o (hsn k hk) ho
  simp (maxSteps := 1000000) -implicitDefEqProofs only [go_sem, seval, -List.reduceReplicate, t5, q1, q2, q3, q4, q5, hbx, wB]
  refine CallG.weak (kliteral D1 fr1.lt k1 hw1 hi1 hh hC hz (rencBud.less _ _ _ hb23 (by decide)) y.b.toNat y.b.isLt) ?_
  rintro v m2 nx2 ⟨rfl, fr2, ns2, k2, hn2⟩
  have nns1 : nx ∉ ns1 := fun hm => by
    rcases hn1 nx hm with h | h
    · exact nns h
    · omega
  have hbx2 := fr2.kp nx _ nns1 hbx
  have D2 := fr2.rdm D1 hw1
  have hw2 := wrT D1 hw1 hn2
  simp (maxSteps := 1000000) -implicitDefEqProofs only [go_sem, seval, -List.reduceReplicate, t5, hbx2]
  refine CallG.weak (kbecomes D2 fr2.lt k2 hw2 hC y hf) ?_
  rintro v m3 nx3 ⟨rfl, fr3, ns3, k3, hn3⟩
  simp (maxSteps := 1000000) -implicitDefEqProofs only [go_sem, seval, -List.reduceReplicate]
  have F1 : Fr ns m nx m1 nx1 := (Fr.gr G0).trans fr1 lt fun k hk => .inl hk
  have hn1' : ∀ k ∈ ns1, k ∈ ns ∨ nx ≤ k := fun k hk => (hn1 k hk).imp id fun h => by omega
  exact Fr.fin ((F1.trans fr2 lt hn1').trans fr3 lt (subT hn1' hn2 F1.le)) D hw k3 (subT (subT hn1' hn2 F1.le) hn3 (Nat.le_trans F1.le fr2.le))
end
end Go.Proofs.Ytmdeoikpiiambaa
end
section
/- The document's model: a symbol is put (matches). BRIEF -/
set_option linter.unusedVariables false
set_option linter.unusedSimpArgs false
set_option maxRecDepth 100000
namespace Go.Proofs.Ytmdeoikpiiambaa
open Go Go.Eng

theorem sym_c1 {C : MC} {h : List (BitVec 8)} {y : Sy} (hk : y.k = 1) (l : Nat) (hyl : y.l = (l : Int)) (hl1 : 2 ≤ l) (hl2 : l ≤ 273) : (cmds (symP C h y)).2 = .b (16 * C.st + h.length % 2 ^ C.pb) true :: .b (192 + C.st) false :: ((cmds (lenP 432 (h.length % 2 ^ C.pb) (l : Int))).2 ++ (cmds (distP l y.d)).2) := by
  unfold symP
  dsimp only
  rw [cmds, decide_eq_true (by omega), if_pos rfl, cmds, decide_eq_false (by omega), if_neg (by decide), cmds_bind, hyl, lenP_val _ _ _ hl1 hl2, cmds_bind]
  show _ :: _ :: (_ ++ (_ ++ [])) = _
  rw [List.append_nil]
section
variable {wr : Nat → Bool} {m : Mem} {nx c a : Nat} {C : MC} {P : List (BitVec 16)} {s : RS} {ns : List Nat}
set_option maxHeartbeats 4000000 in
theorem kput1 (D : Rdm wr m nx) (lt : ∀ p ∈ m, p.1 < nx) (H : KA c a C m (P, s) ns) (hw : ∀ k ∈ ns, wr k = true) {hv : AV} {h : List (BitVec 8)} {hs : List Nat} (hi : ByAt 5 m hv h hs) (hh : h.length ≤ 100000000) (hsn : ∀ k ∈ hs, k ∉ ns) (hC : MCok C) (hz : szP C ≤ 100000000) (hb : rencB s 24) (y : Sy) {n : Nat} (hf : fitsB C n y = true) (hk1 : y.k = 1) (l d : Nat) (hyl : y.l = (l : Int)) (hyd : y.d = ((d + 1 : Nat) : Int)) (hl1 : 2 ≤ l) (hl2 : l ≤ 273) (hd : d < 4294967295) :
    CallG false Try.prog 46 [.ptr c 0, .ptr a 0, hv, .agg (syL y)] wr m nx (OwK (KA c a (becC C y)) (.tup []) (told rencM (cmds (symP C h y)).2 P s) ns m nx) := by
  refine fn_okG Try.func46 rfl (by show 4 ≤ _; decide) ?_
  have t5 : ∀ a b d e f : AV, List.take 5 [a, b, d, e, f] = [a, b, d, e, f] := fun _ _ _ _ _ => rfl
  obtain ⟨q1, q2, q3, q4, q5⟩ := hi.facts
  have q6 := hi.len Try.prog 22
  have G0 := Gr.cons D.nd lt (syO y)
  have D0 := G0.rdm D
  have H0 := H.gr G0
  obtain ⟨R, Q, co, cn⟩ := H0.co
  have cl : c < nx := by obtain ⟨R, Q, co, cn⟩ := H.co; exact look_ltm lt co
  have fc : (nx = c) = False := eq_false (by omega)
  have co1 : Eng.look m c = some (.cells [.int .i64 (C.lc : Nat), .int .i64 (C.lp : Nat), .int .i64 (C.pb : Nat), .int .i64 (C.st : Nat), R, Q] 80) := by rw [look_cons, if_neg (by omega)] at co; exact co
  have hpb := hC.pb
  have p0 : ¬ ((2 ^ C.pb : Nat) : Int) = 0 := fun e => by have := Int.ofNat.inj e; have : 0 < 2 ^ C.pb := Nat.pow_pos (by decide); omega
  have pl16 : h.length % 2 ^ C.pb < 16 := by
    have := Nat.mod_lt h.length (show 0 < 2 ^ C.pb from Nat.pow_pos (by decide))
    have : 2 ^ C.pb ≤ 2 ^ 4 := Nat.pow_le_pow_right (by decide) hpb
    omega
  have e0 : (y.k == 0) = false := by simp [hk1]
  have e1 : (y.k == 1) = true := by simp [hk1]
  have sz := szP_le C
  have hst := hC.st
  rw [sym_c1 hk1 l hyl hl1 hl2, hyd, told_b]
  obtain ⟨p, hp⟩ : ∃ p, p = h.length % 2 ^ C.pb := ⟨_, rfl⟩
  rw [← hp] at pl16 ⊢
  have hbit := kbit D0 G0.lt H0 hw (rencBud.less _ _ 1 hb (by decide)) (16 * C.st + p) (by omega) true
  have hb23 : rencB (told rencM [.b (16 * C.st + p) true] P s).2 23 := rencB_told hb
  generalize told rencM [.b (16 * C.st + p) true] P s = z at *
  obtain ⟨P1, s1⟩ := z
  simp (maxSteps := 1000000) -implicitDefEqProofs only [go_sem, seval, -List.reduceReplicate, Try.results46, Try.ntmps46, syL, t5, q1, q2, q3, q4, q5, q6, co1, fc]
  refine CallG.pk (ktwo D0 C.pb (by omega)) ?_
  simp (maxSteps := 1000000) -implicitDefEqProofs only [go_sem, seval, -List.reduceReplicate, t5, q1, q2, q3, q4, q5, q6, tmN, p0, e0, e1, ← hp]
  refine CallG.pk (kmatch D0 co hst p pl16) ?_
  simp (maxSteps := 1000000) -implicitDefEqProofs only [go_sem, seval, -List.reduceReplicate, t5, q1, q2, q3, q4, q5]
  refine CallG.weak hbit ?_
  rintro v m1 nx1 ⟨rfl, fr1, ns1, k1, hn1⟩
  have D1 := fr1.rdm D0 hw
  have hw1 := wrT D0 hw hn1
  have nns : nx ∉ ns := (fun hm => by have := hw; obtain ⟨r, rc, q, qc, rs, qs, ne, rfl, hd, he, _⟩ := H; rcases List.mem_cons.1 hm with h | hm; omega; rcases List.mem_cons.1 hm with h | hm; (have := look_ltm lt hd.re; omega); rcases List.mem_cons.1 hm with h | hm; (have := look_ltm lt hd.ch; omega); (obtain ⟨o, ho⟩ := he.live nx hm; have := look_ltm lt ho; omega))
  have hbx := fr1.kp nx _ nns (look_c0 _ _ _)
  unfold syO syL at hbx
  have nns1 : nx ∉ ns1 := fun hm => by
    rcases hn1 nx hm with h | h
    · exact nns h
    · omega
  rw [told_b]
  have hbit2 := kbit D1 fr1.lt k1 hw1 (rencBud.less _ _ 1 hb23 (by decide)) (192 + C.st) (by omega) false
  have hb22 : rencB (told rencM [.b (192 + C.st) false] P1 s1).2 22 := rencB_told hb23
  generalize told rencM [.b (192 + C.st) false] P1 s1 = z at *
  obtain ⟨P2, s2⟩ := z
  obtain ⟨R1, Q1, co2, cn1⟩ := k1.co
  simp (maxSteps := 1000000) -implicitDefEqProofs only [go_sem, seval, -List.reduceReplicate, t5, q1, q2, q3, q4, q5]
  refine CallG.pk (krep D1 co2 hst) ?_
  simp (maxSteps := 1000000) -implicitDefEqProofs only [go_sem, seval, -List.reduceReplicate, t5, q1, q2, q3, q4, q5]
  refine CallG.weak hbit2 ?_
  rintro v m2 nx2 ⟨rfl, fr2, ns2, k2, hn2⟩
  have D2 := fr2.rdm D1 hw1
  have hw2 := wrT D1 hw1 hn2
  have hbx2 := fr2.kp nx _ nns1 hbx
  have nns2 : nx ∉ ns2 := fun hm => by
    rcases hn2 nx hm with h | h
    · exact nns1 h
    · have := fr1.le; omega
  rw [told_a]
  have hlen := klength (D2.drawn ns2) fr2.lt k2 (fun j hj => wrMem hj) 432 p l (by omega) pl16 hz (rencBud.less _ _ _ hb22 (by decide)) hl1 hl2
  have hb12 := rencB_cmds (P := P2) (lenP_le 432 p (l : Int)) (k := 12) hb22
  generalize told rencM (cmds (lenP 432 p (l : Int))).2 P2 s2 = z at *
  obtain ⟨P3, s3⟩ := z
  simp (maxSteps := 1000000) -implicitDefEqProofs only [go_sem, seval, -List.reduceReplicate, t5, q1, q2, q3, q4, q5]
  have l2 : ∀ j ∈ ns2, ∃ o, Eng.look m2 j = some o := fun j hj => by
    obtain ⟨r, rc, q, qc, rs, qs, ne, rfl, hd, he, _⟩ := k2
    rcases List.mem_cons.1 hj with rfl | hj
    · exact ⟨_, hd.co⟩
    rcases List.mem_cons.1 hj with rfl | hj
    · exact ⟨_, hd.re⟩
    rcases List.mem_cons.1 hj with rfl | hj
    · exact ⟨_, hd.ch⟩
    · exact he.live j hj
  have f1 : decide (nx2 ≤ nx) = false := decide_eq_false (by have := fr1.le; have := fr2.le; omega)
  have f2 := ncont nns2
  refine ⟨Fx.mixed, .inl ⟨[(0, false), (1, false), (3, false), (4, false), (5, false), (2, true), (6, true)], ns2, by kernel_rfl, (fun j hj => ⟨hw2 j hj, by obtain ⟨o, ho⟩ := l2 j hj; rw [ho]; rfl⟩), ?_⟩⟩
  simp (maxSteps := 1000000) -implicitDefEqProofs only [go_sem, seval, -List.reduceReplicate, t5, q1, q2, q3, q4, q5, hbx2, f1, f2, hyl]
  refine CallG.pk (klens (D2.drawn ns2) false) ?_
  simp (maxSteps := 1000000) -implicitDefEqProofs only [go_sem, seval, -List.reduceReplicate, t5, q1, q2, q3, q4, q5]
  refine CallG.weak hlen ?_
  rintro v m3 nx3 ⟨rfl, fr3, ns3, k3, hn3⟩
  have D3 := fr3.rdm D2 hw2
  have hw3 := wrT D2 hw2 hn3
  have hbx3 := fr3.kp nx _ nns2 hbx2
  have nns3 : nx ∉ ns3 := fun hm => by
    rcases hn3 nx hm with h | h
    · exact nns2 h
    · have := fr1.le; have := fr2.le; omega
  simp (maxSteps := 1000000) -implicitDefEqProofs only [go_sem, seval, -List.reduceReplicate, t5, q1, q2, q3, q4, q5, hbx3, hyl, hyd]
  have hdist := kdistance D3 fr3.lt k3 hw3 l d hz hb12 hl1 hl2 hd
  generalize told rencM (cmds (distP l ((d + 1 : Nat) : Int))).2 P3 s3 = z at *
  obtain ⟨P4, s4⟩ := z
  refine CallG.weak hdist ?_
  rintro v m4 nx4 ⟨rfl, fr4, ns4, k4, hn4⟩
  have D4 := fr4.rdm D3 hw3
  have hw4 := wrT D3 hw3 hn4
  have hbx4 := fr4.kp nx _ nns3 hbx3
  simp (maxSteps := 1000000) -implicitDefEqProofs only [go_sem, seval, -List.reduceReplicate, t5, hbx4]
  rw [← hyd]
  refine CallG.weak (kbecomes D4 fr4.lt k4 hw4 hC y hf) ?_
  rintro v m5 nx5 ⟨rfl, fr5, ns5, k5, hn5⟩
  simp (maxSteps := 1000000) -implicitDefEqProofs only [go_sem, seval, -List.reduceReplicate]
  have F1 : Fr ns m nx m1 nx1 := (Fr.gr G0).trans fr1 lt fun k hk => .inl hk
  have h1 : ∀ k ∈ ns1, k ∈ ns ∨ nx ≤ k := fun k hk => (hn1 k hk).imp id fun h => by omega
  have F2 := F1.trans fr2 lt h1
  have h2 := subT h1 hn2 F1.le
  have F3 := F2.trans fr3 lt h2
  have h3 := subT h2 hn3 F2.le
  have F4 := F3.trans fr4 lt h3
  have h4 := subT h3 hn4 F3.le
  exact Fr.fin (F4.trans fr5 lt h4) D hw k5 (subT h4 hn5 F4.le)
end
end Go.Proofs.Ytmdeoikpiiambaa
end
section
/- The document's model: a symbol is put (repeats). Printed by gen_mpm.py. BRIEF -/
set_option linter.unusedVariables false
set_option linter.unusedSimpArgs false
set_option maxRecDepth 100000
namespace Go.Proofs.Ytmdeoikpiiambaa
open Go Go.Eng

theorem KA.live {c a : Nat} {C : MC} {m : Mem} {x : List (BitVec 16) × RS} {ns : List Nat} (H : KA c a C m x ns) : ∀ j ∈ ns, ∃ o, Eng.look m j = some o := fun j hj => by
  obtain ⟨r, rc, q, qc, rs, qs, ne, rfl, hd, he, _⟩ := H
  rcases List.mem_cons.1 hj with rfl | hj
  · exact ⟨_, hd.co⟩
  rcases List.mem_cons.1 hj with rfl | hj
  · exact ⟨_, hd.re⟩
  rcases List.mem_cons.1 hj with rfl | hj
  · exact ⟨_, hd.ch⟩
  · exact he.live j hj
/-- on the way: a coder, and an object beside it -/
structure KS (wr : Nat → Bool) (ns : List Nat) (M0 : Mem) (n0 c a b : Nat) (O : AObj) (C : MC) (x : List (BitVec 16) × RS) (ns1 : List Nat) (m1 : Mem) (nx1 : Nat) : Prop where
  fr : Fr ns M0 n0 m1 nx1
  sub : ∀ k ∈ ns1, k ∈ ns ∨ n0 ≤ k
  ka : KA c a C m1 x ns1
  rd : Rdm wr m1 nx1
  w : ∀ k ∈ ns1, wr k = true
  bx : Eng.look m1 b = some O
  nb : b ∉ ns1
theorem KS.nxt {wr : Nat → Bool} {ns : List Nat} {M0 : Mem} {n0 c a b : Nat} {O : AObj} {C C' : MC} {x x' : List (BitVec 16) × RS} {ns1 ns2 : List Nat} {m1 m2 : Mem} {nx1 nx2 : Nat} (K : KS wr ns M0 n0 c a b O C x ns1 m1 nx1) (lt : ∀ p ∈ M0, p.1 < n0) (hb : b < n0) (fr : Fr ns1 m1 nx1 m2 nx2) (k2 : KA c a C' m2 x' ns2) (hn : ∀ k ∈ ns2, k ∈ ns1 ∨ nx1 ≤ k) : KS wr ns M0 n0 c a b O C' x' ns2 m2 nx2 :=
  ⟨K.fr.trans fr lt K.sub, subT K.sub hn K.fr.le, k2, fr.rdm K.rd K.w, wrT K.rd K.w hn, fr.kp b _ K.nb K.bx, fun hm => by
    rcases hn b hm with h | h
    · exact K.nb h
    · have := K.fr.le; omega⟩
theorem KS.fin {wr : Nat → Bool} {ns : List Nat} {m M0 : Mem} {nx n0 c a b : Nat} {O : AObj} {C : MC} {x : List (BitVec 16) × RS} {ns1 : List Nat} {m1 : Mem} {nx1 : Nat} (K : KS wr ns M0 n0 c a b O C x ns1 m1 nx1) (g : Gr m nx M0 n0) (lt : ∀ p ∈ m, p.1 < nx) (D : Rdm wr m nx) (hw : ∀ k ∈ ns, wr k = true) : Eng.Fin nx wr m1 nx1 (OwK (KA c a C) (.tup []) x ns m nx) (.tup []) :=
  Fr.fin ((Fr.gr g).trans K.fr lt fun k hk => .inl hk) D hw K.ka fun k hk => (K.sub k hk).imp id fun h => by have := g.le; omega
def wpre (st : Nat) : Nat → List Cmd
  | 0 => []
  | n + 1 => wpre st n ++ [.b (204 + 12 * n + st) true]
def rtail (st place w : Nat) (l : Int) : List Cmd := (if w < 3 then [.b (204 + 12 * w + st) false] else []) ++ if w = 0 then [.b (240 + 16 * st + place) (decide (l > 1))] else []
theorem rep_c (st place w : Nat) (l : Int) (hw : w < 4) : (cmds (repP st place (w : Int) l)).2 = wpre st w ++ rtail st place w l := by
  rcases (show w = 0 ∨ w = 1 ∨ w = 2 ∨ w = 3 by omega) with rfl | rfl | rfl | rfl <;> rfl
theorem sym_c2 {C : MC} {h : List (BitVec 8)} {y : Sy} (hk : y.k = 2) (w l : Nat) (hyr : y.r = (w : Int)) (hw : w < 4) (hyl : y.l = (l : Int)) (hl1 : 1 ≤ l) (hl0 : w ≠ 0 → l ≠ 1) : (cmds (symP C h y)).2 = .b (16 * C.st + h.length % 2 ^ C.pb) true :: .b (192 + C.st) true :: (wpre C.st w ++ (rtail C.st (h.length % 2 ^ C.pb) w (l : Int) ++ if l = 1 then [] else (cmds (lenP 946 (h.length % 2 ^ C.pb) (l : Int))).2)) := by
  unfold symP
  dsimp only
  rw [cmds, decide_eq_true (by omega), if_pos rfl, cmds, decide_eq_true hk, if_pos rfl, cmds_bind, hyl, hyr, rep_c _ _ _ _ hw, repP_val _ _ _ _ hw (fun h e => hl0 h (by omega)) (by omega)]
  dsimp only
  rw [List.append_assoc]
  by_cases h1 : l = 1
  · rw [decide_eq_true (by omega), if_pos rfl, if_pos h1]; rfl
  · rw [decide_eq_false (by omega), if_neg (by decide), if_neg h1, cmds_bind]
    show _ :: _ :: (_ ++ (_ ++ (_ ++ []))) = _
    rw [List.append_nil]
section
variable {wr : Nat → Bool} {m : Mem} {nx c a : Nat} {C : MC} {P : List (BitVec 16)} {s : RS} {ns : List Nat}
set_option maxHeartbeats 4000000 in
theorem kput2 (D : Rdm wr m nx) (lt : ∀ p ∈ m, p.1 < nx) (H : KA c a C m (P, s) ns) (hw : ∀ k ∈ ns, wr k = true) {hv : AV} {h : List (BitVec 8)} {hs : List Nat} (hi : ByAt 5 m hv h hs) (hh : h.length ≤ 100000000) (hsn : ∀ k ∈ hs, k ∉ ns) (hC : MCok C) (hz : szP C ≤ 100000000) (hb : rencB s 24) (y : Sy) {n : Nat} (hf : fitsB C n y = true) (hk2 : y.k = 2) (w l : Nat) (hyr : y.r = (w : Int)) (hw4 : w < 4) (hyl : y.l = (l : Int)) (hl1 : 1 ≤ l) (hl2 : l ≤ 273) (hl0 : w ≠ 0 → l ≠ 1) :
    CallG false Try.prog 46 [.ptr c 0, .ptr a 0, hv, .agg (syL y)] wr m nx (OwK (KA c a (becC C y)) (.tup []) (told rencM (cmds (symP C h y)).2 P s) ns m nx) := by
  refine fn_okG Try.func46 rfl (by show 4 ≤ _; decide) ?_
  have t5 : ∀ a b d e f : AV, List.take 5 [a, b, d, e, f] = [a, b, d, e, f] := fun _ _ _ _ _ => rfl
  obtain ⟨q1, q2, q3, q4, q5⟩ := hi.facts
  have q6 := hi.len Try.prog 22
  have G0 := Gr.cons D.nd lt (syO y)
  have D0 := G0.rdm D
  have H0 := H.gr G0
  obtain ⟨R, Q, co, cn⟩ := H0.co
  have cl : c < nx := by obtain ⟨R, Q, co, cn⟩ := H.co; exact look_ltm lt co
  have fc : (nx = c) = False := eq_false (by omega)
  have co1 : Eng.look m c = some (.cells [.int .i64 (C.lc : Nat), .int .i64 (C.lp : Nat), .int .i64 (C.pb : Nat), .int .i64 (C.st : Nat), R, Q] 80) := by rw [look_cons, if_neg (by omega)] at co; exact co
  have hpb := hC.pb
  have p0 : ¬ ((2 ^ C.pb : Nat) : Int) = 0 := fun e => by have := Int.ofNat.inj e; have : 0 < 2 ^ C.pb := Nat.pow_pos (by decide); omega
  have pl16 : h.length % 2 ^ C.pb < 16 := by
    have := Nat.mod_lt h.length (show 0 < 2 ^ C.pb from Nat.pow_pos (by decide))
    have : 2 ^ C.pb ≤ 2 ^ 4 := Nat.pow_le_pow_right (by decide) hpb
    omega
  have e0 : (y.k == 0) = false := by simp [hk2]
  have e1 : (y.k == 1) = false := by simp [hk2]
  have e2 : (y.k == 2) = true := by simp [hk2]
  have sz := szP_le C
  have hst := hC.st
  rw [sym_c2 hk2 w l hyr hw4 hyl hl1 hl0, told_b]
  obtain ⟨p, hp⟩ : ∃ p, p = h.length % 2 ^ C.pb := ⟨_, rfl⟩
  rw [← hp] at pl16 ⊢
  have nns : nx ∉ ns := fun hm => by obtain ⟨o, ho⟩ := H.live nx hm; have := look_ltm lt ho; omega
  have K : KS wr ns ((nx, syO y) :: m) (nx + 1) c a nx (syO y) C (P, s) ns ((nx, syO y) :: m) (nx + 1) := ⟨.refl G0.nd G0.lt, fun k hk => .inl hk, H0, D0, hw, look_c0 _ _ _, nns⟩
  have hbit := kbit K.rd K.fr.lt K.ka K.w (rencBud.less _ _ 1 hb (by decide)) (16 * C.st + p) (by omega) true
  have hb23 : rencB (told rencM [.b (16 * C.st + p) true] P s).2 23 := rencB_told (rencBud.less _ _ (23 + 1) hb (by decide))
  generalize told rencM [.b (16 * C.st + p) true] P s = z at *
  obtain ⟨P1, s1⟩ := z
  simp (maxSteps := 1000000) -implicitDefEqProofs only [go_sem, seval, -List.reduceReplicate, Try.results46, Try.ntmps46, syL, t5, q1, q2, q3, q4, q5, q6, co1, fc]
  refine CallG.pk (ktwo D0 C.pb (by omega)) ?_
  simp (maxSteps := 1000000) -implicitDefEqProofs only [go_sem, seval, -List.reduceReplicate, t5, q1, q2, q3, q4, q5, q6, tmN, p0, e0, e1, ← hp]
  refine CallG.pk (kmatch D0 co hst p pl16) ?_
  simp (maxSteps := 1000000) -implicitDefEqProofs only [go_sem, seval, -List.reduceReplicate, t5, q1, q2, q3, q4, q5]
  unfold syO syL at K
  refine CallG.weak hbit ?_
  rintro v m1 nx1 ⟨rfl, fr1, ns1, k1, hn1⟩
  have K := K.nxt G0.lt (Nat.lt_succ_self nx) fr1 k1 hn1
  obtain ⟨R1, Q1, co1, cn1⟩ := K.ka.co
  rw [told_b]
  have hbit := kbit K.rd K.fr.lt K.ka K.w (rencBud.less _ _ 1 hb23 (by decide)) (192 + C.st) (by omega) true
  have hb22 : rencB (told rencM [.b (192 + C.st) true] P1 s1).2 22 := rencB_told (rencBud.less _ _ (22 + 1) hb23 (by decide))
  generalize told rencM [.b (192 + C.st) true] P1 s1 = z at *
  obtain ⟨P2, s2⟩ := z
  simp (maxSteps := 1000000) -implicitDefEqProofs only [go_sem, seval, -List.reduceReplicate, t5, q1, q2, q3, q4, q5, e2]
  refine CallG.pk (krep K.rd co1 hst) ?_
  simp (maxSteps := 1000000) -implicitDefEqProofs only [go_sem, seval, -List.reduceReplicate, t5, q1, q2, q3, q4, q5]
  refine CallG.weak hbit ?_
  rintro v m2 nx2 ⟨rfl, fr2, ns2, k2, hn2⟩
  have K := K.nxt G0.lt (Nat.lt_succ_self nx) fr2 k2 hn2
  obtain ⟨R2, Q2, co2, cn2⟩ := K.ka.co
  rw [told_a]
  simp (maxSteps := 1000000) -implicitDefEqProofs only [go_sem, seval, -List.reduceReplicate, t5, q1, q2, q3, q4, q5]
  refine LoopOk.upX (fun i (x : (List (BitVec 16) × RS) × List Nat × Mem × Nat) => x.1 = told rencM (wpre C.st i) P2 s2 ∧ rencB x.1.2 (22 - i) ∧ KS wr ns ((nx, .cells (syL y) 71) :: m) (nx + 1) c a nx (.cells (syL y) 71) C x.1 x.2.1 x.2.2.1 x.2.2.2) w
    (fun i x => ([(9, .int .i64 (i : Nat)), (8, .int .i64 (p : Nat)), (7, .ptr nx 0), (0, .ptr c 0), (1, .ptr a 0)], x.2.2.1, x.2.2.2)) ((P2, s2), ns2, m2, nx2) ⟨rfl, hb22, K⟩ (K.rd.leN (by have := K.fr.le; omega) ⟨rfl, rfl, rfl, rfl, rfl, trivial⟩) ?_
  rintro i ⟨⟨P3, s3⟩, ns3, m3, nx3⟩ ⟨hi4, a1, a2, K⟩
  have a1 : (P3, s3) = told rencM (wpre C.st i) P2 s2 := a1
  have a2 : rencB s3 (22 - i) := a2
  have K : KS wr ns ((nx, .cells (syL y) 71) :: m) (nx + 1) c a nx (.cells (syL y) 71) C (P3, s3) ns3 m3 nx3 := K
  obtain ⟨R3, Q3, co3, cn3⟩ := K.ka.co
  have bx := K.bx
  unfold syL at bx
  have wi : IntKind.i64.wrap ((i : Int) + 1) = ((i + 1 : Nat) : Int) := by rw [wrap_i64] <;> omega
  rcases Nat.lt_or_ge i w with h' | h'
  · have c1 : decide ((i : Int) < 3) = true := decide_eq_true (by omega)
    have c2 : decide ((i : Int) < (w : Int)) = true := decide_eq_true (by omega)
    have hbit := kbit K.rd K.fr.lt K.ka K.w (rencBud.less _ _ 1 a2 (by omega)) (204 + 12 * i + C.st) (by omega) true
    have b2 : rencB (told rencM [.b (204 + 12 * i + C.st) true] P3 s3).2 (22 - (i + 1)) := rencB_told (by rw [show 22 - (i + 1) + 1 = 22 - i by omega]; exact a2)
    have b1 : told rencM [.b (204 + 12 * i + C.st) true] P3 s3 = told rencM (wpre C.st (i + 1)) P2 s2 := by
      rw [wpre, told_a, ← a1]
    generalize told rencM [.b (204 + 12 * i + C.st) true] P3 s3 = z at *
    simp (maxSteps := 1000000) -implicitDefEqProofs only [go_sem, seval, -List.reduceReplicate, t5, hyr, bx, c1, c2]
    refine CallG.pk (kwhich K.rd co3 hst i (by omega)) ?_
    simp (maxSteps := 1000000) -implicitDefEqProofs only [go_sem, seval, -List.reduceReplicate, t5]
    refine CallG.weak hbit ?_
    rintro v m4 nx4 ⟨rfl, fr4, ns4, k4, hn4⟩
    have K := K.nxt G0.lt (Nat.lt_succ_self nx) fr4 k4 hn4
    simp (maxSteps := 1000000) -implicitDefEqProofs only [go_sem, seval, -List.reduceReplicate, t5, wi]
    exact UpX_normal h' (z, ns4, m4, nx4) ⟨b1, b2, K⟩ (K.rd.leN (by have := K.fr.le; omega) ⟨rfl, rfl, rfl, rfl, rfl, trivial⟩)
  have hiw : i = w := by omega
  subst hiw
  have c2 : decide ((i : Int) < (i : Int)) = false := decide_eq_false (by omega)
  have nl1 : decide (((l : Nat) : Int) > 1) = !decide (l = 1) := by by_cases g : l = 1 <;> simp [g]; omega
  have sub3 : rencB s3 19 := rencBud.less _ _ _ a2 (by omega)
  rcases Nat.lt_or_ge i 3 with h3 | h3
  · have c1 : decide ((i : Int) < 3) = true := decide_eq_true (by omega)
    simp (maxSteps := 1000000) -implicitDefEqProofs only [go_sem, seval, -List.reduceReplicate, t5, hyr, hyl, bx, c1, c2]
    unfold rtail
    rw [← a1, if_pos h3, List.append_assoc, told_a]
    have hbit := kbit K.rd K.fr.lt K.ka K.w (rencBud.less _ _ 1 sub3 (by decide)) (204 + 12 * i + C.st) (by omega) false
    have hb18 : rencB (told rencM [.b (204 + 12 * i + C.st) false] P3 s3).2 18 := rencB_told (rencBud.less _ _ (18 + 1) sub3 (by decide))
    generalize told rencM [.b (204 + 12 * i + C.st) false] P3 s3 = z at *
    obtain ⟨P5, s5⟩ := z
    dsimp only
    refine CallG.pk (kwhich K.rd co3 hst i (by omega)) ?_
    simp (maxSteps := 1000000) -implicitDefEqProofs only [go_sem, seval, -List.reduceReplicate, t5, hyr, hyl, bx]
    refine CallG.weak hbit ?_
    rintro v m5 nx5 ⟨rfl, fr5, ns5, k5, hn5⟩
    have K := K.nxt G0.lt (Nat.lt_succ_self nx) fr5 k5 hn5
    obtain ⟨R5, Q5, co5, cn5⟩ := K.ka.co
    have bx := K.bx
    unfold syL at bx
    by_cases g0 : i = 0
    · rw [if_pos g0]
      have z0 : (((i : Nat) : Int) == 0) = true := by simp [g0]
      by_cases g1 : l = 1
      · rw [if_pos g1, List.append_nil]
        have y1 : (((l : Nat) : Int) == 1) = true := by simp [g1]
        have y2 : decide (((l : Nat) : Int) > 1) = false := decide_eq_false (by omega)
        rw [y2]
        have hbit := kbit K.rd K.fr.lt K.ka K.w (rencBud.less _ _ 1 hb18 (by decide)) (240 + 16 * C.st + p) (by omega) false
        have hb17 : rencB (told rencM [.b (240 + 16 * C.st + p) false] P5 s5).2 17 := rencB_told (rencBud.less _ _ (17 + 1) hb18 (by decide))
        generalize told rencM [.b (240 + 16 * C.st + p) false] P5 s5 = z at *
        obtain ⟨P6, s6⟩ := z
        simp (maxSteps := 1000000) -implicitDefEqProofs only [go_sem, seval, -List.reduceReplicate, t5, hyr, hyl, bx, z0, y1, y2]
        refine CallG.pk (klong K.rd co5 hst p pl16) ?_
        simp (maxSteps := 1000000) -implicitDefEqProofs only [go_sem, seval, -List.reduceReplicate, t5]
        refine CallG.weak hbit ?_
        rintro v m6 nx6 ⟨rfl, fr6, ns6, k6, hn6⟩
        have K := K.nxt G0.lt (Nat.lt_succ_self nx) fr6 k6 hn6
        obtain ⟨R6, Q6, co6, cn6⟩ := K.ka.co
        have bx := K.bx
        unfold syL at bx
        simp (maxSteps := 1000000) -implicitDefEqProofs only [go_sem, seval, -List.reduceReplicate, t5, hyr, hyl, bx, z0, y1, y2]
        have KB := kbecomes K.rd K.fr.lt K.ka K.w hC y hf
        first | refine CallG.weak KB ?_ | (unfold syL at KB; rw [hyl, hyr] at KB; refine CallG.weak KB ?_)
        rintro v m10 nx10 ⟨rfl, fr10, ns10, k10, hn10⟩
        have K := K.nxt G0.lt (Nat.lt_succ_self nx) fr10 k10 hn10
        simp (maxSteps := 1000000) -implicitDefEqProofs only [go_sem, seval, -List.reduceReplicate]
        exact K.fin G0 lt D hw
      · rw [if_neg g1, told_a]
        have y1 : (((l : Nat) : Int) == 1) = false := by simp; omega
        have y2 : decide (((l : Nat) : Int) > 1) = true := decide_eq_true (by omega)
        rw [y2]
        have hbit := kbit K.rd K.fr.lt K.ka K.w (rencBud.less _ _ 1 hb18 (by decide)) (240 + 16 * C.st + p) (by omega) true
        have hb17 : rencB (told rencM [.b (240 + 16 * C.st + p) true] P5 s5).2 17 := rencB_told (rencBud.less _ _ (17 + 1) hb18 (by decide))
        generalize told rencM [.b (240 + 16 * C.st + p) true] P5 s5 = z at *
        obtain ⟨P6, s6⟩ := z
        dsimp only
        simp (maxSteps := 1000000) -implicitDefEqProofs only [go_sem, seval, -List.reduceReplicate, t5, hyr, hyl, bx, z0, y1, y2]
        refine CallG.pk (klong K.rd co5 hst p pl16) ?_
        simp (maxSteps := 1000000) -implicitDefEqProofs only [go_sem, seval, -List.reduceReplicate, t5]
        refine CallG.weak hbit ?_
        rintro v m6 nx6 ⟨rfl, fr6, ns6, k6, hn6⟩
        have K := K.nxt G0.lt (Nat.lt_succ_self nx) fr6 k6 hn6
        obtain ⟨R6, Q6, co6, cn6⟩ := K.ka.co
        have bx := K.bx
        unfold syL at bx
        simp (maxSteps := 1000000) -implicitDefEqProofs only [go_sem, seval, -List.reduceReplicate, t5, hyr, hyl, bx, z0, y1, y2]
        have hlen := klength (K.rd.drawn ns6) K.fr.lt K.ka (fun j hj => wrMem hj) 946 p l (by omega) pl16 hz (rencBud.less _ _ _ hb17 (by decide)) (by omega) hl2
        have f1 : decide (nx6 ≤ nx) = false := decide_eq_false (by have := K.fr.le; omega)
        have f2 := ncont K.nb
        have l2 := K.ka.live
        generalize told rencM (cmds (lenP 946 p (l : Int))).2 P6 s6 = z at *
        obtain ⟨P9, s9⟩ := z
        refine ⟨Fx.mixed, .inl ⟨[(0, false), (1, false), (3, false), (4, false), (5, false), (2, true), (6, true)], ns6, by kernel_rfl, (fun j hj => ⟨K.w j hj, by obtain ⟨o, ho⟩ := l2 j hj; rw [ho]; rfl⟩), ?_⟩⟩
        simp (maxSteps := 1000000) -implicitDefEqProofs only [go_sem, seval, -List.reduceReplicate, t5, q1, q2, q3, q4, q5, bx, f1, f2, hyl]
        refine CallG.pk (klens (K.rd.drawn ns6) true) ?_
        simp (maxSteps := 1000000) -implicitDefEqProofs only [go_sem, seval, -List.reduceReplicate, t5, q1, q2, q3, q4, q5]
        refine CallG.weak hlen ?_
        rintro v m9 nx9 ⟨rfl, fr9, ns9, k9, hn9⟩
        have K := K.nxt G0.lt (Nat.lt_succ_self nx) fr9 k9 hn9
        have bx := K.bx
        unfold syL at bx
        simp (maxSteps := 1000000) -implicitDefEqProofs only [go_sem, seval, -List.reduceReplicate, t5, bx]
        have KB := kbecomes K.rd K.fr.lt K.ka K.w hC y hf
        first | refine CallG.weak KB ?_ | (unfold syL at KB; rw [hyl, hyr] at KB; refine CallG.weak KB ?_)
        rintro v m10 nx10 ⟨rfl, fr10, ns10, k10, hn10⟩
        have K := K.nxt G0.lt (Nat.lt_succ_self nx) fr10 k10 hn10
        simp (maxSteps := 1000000) -implicitDefEqProofs only [go_sem, seval, -List.reduceReplicate]
        exact K.fin G0 lt D hw
    · rw [if_neg g0, List.nil_append]
      have g1 : ¬ l = 1 := hl0 g0
      rw [if_neg g1]
      have z0 : (((i : Nat) : Int) == 0) = false := by simp [g0]
      have y1 : (((l : Nat) : Int) == 1) = false := by simp; omega
      have y2 : decide (((l : Nat) : Int) > 1) = true := decide_eq_true (by omega)
      simp (maxSteps := 1000000) -implicitDefEqProofs only [go_sem, seval, -List.reduceReplicate, t5, hyr, hyl, bx, z0, y1, y2]
      have hlen := klength (K.rd.drawn ns5) K.fr.lt K.ka (fun j hj => wrMem hj) 946 p l (by omega) pl16 hz (rencBud.less _ _ _ hb18 (by decide)) (by omega) hl2
      have f1 : decide (nx5 ≤ nx) = false := decide_eq_false (by have := K.fr.le; omega)
      have f2 := ncont K.nb
      have l2 := K.ka.live
      generalize told rencM (cmds (lenP 946 p (l : Int))).2 P5 s5 = z at *
      obtain ⟨P9, s9⟩ := z
      refine ⟨Fx.mixed, .inl ⟨[(0, false), (1, false), (3, false), (4, false), (5, false), (2, true), (6, true)], ns5, by kernel_rfl, (fun j hj => ⟨K.w j hj, by obtain ⟨o, ho⟩ := l2 j hj; rw [ho]; rfl⟩), ?_⟩⟩
      simp (maxSteps := 1000000) -implicitDefEqProofs only [go_sem, seval, -List.reduceReplicate, t5, q1, q2, q3, q4, q5, bx, f1, f2, hyl]
      refine CallG.pk (klens (K.rd.drawn ns5) true) ?_
      simp (maxSteps := 1000000) -implicitDefEqProofs only [go_sem, seval, -List.reduceReplicate, t5, q1, q2, q3, q4, q5]
      refine CallG.weak hlen ?_
      rintro v m9 nx9 ⟨rfl, fr9, ns9, k9, hn9⟩
      have K := K.nxt G0.lt (Nat.lt_succ_self nx) fr9 k9 hn9
      have bx := K.bx
      unfold syL at bx
      simp (maxSteps := 1000000) -implicitDefEqProofs only [go_sem, seval, -List.reduceReplicate, t5, bx]
      have KB := kbecomes K.rd K.fr.lt K.ka K.w hC y hf
      first | refine CallG.weak KB ?_ | (unfold syL at KB; rw [hyl, hyr] at KB; refine CallG.weak KB ?_)
      rintro v m10 nx10 ⟨rfl, fr10, ns10, k10, hn10⟩
      have K := K.nxt G0.lt (Nat.lt_succ_self nx) fr10 k10 hn10
      simp (maxSteps := 1000000) -implicitDefEqProofs only [go_sem, seval, -List.reduceReplicate]
      exact K.fin G0 lt D hw
  · have c1 : decide ((i : Int) < 3) = false := decide_eq_false (by omega)
    have g0 : ¬ i = 0 := by omega
    have g1 : ¬ l = 1 := hl0 g0
    have z0 : (((i : Nat) : Int) == 0) = false := by simp [g0]
    have y1 : (((l : Nat) : Int) == 1) = false := by simp; omega
    have y2 : decide (((l : Nat) : Int) > 1) = true := decide_eq_true (by omega)
    simp (maxSteps := 1000000) -implicitDefEqProofs only [go_sem, seval, -List.reduceReplicate, t5, hyr, hyl, bx, c1, c2, z0, y1, y2]
    unfold rtail
    rw [← a1, if_neg (by omega), if_neg g0, if_neg g1, List.nil_append, List.nil_append]
    have hlen := klength (K.rd.drawn ns3) K.fr.lt K.ka (fun j hj => wrMem hj) 946 p l (by omega) pl16 hz (rencBud.less _ _ _ sub3 (by decide)) (by omega) hl2
    have f1 : decide (nx3 ≤ nx) = false := decide_eq_false (by have := K.fr.le; omega)
    have f2 := ncont K.nb
    have l2 := K.ka.live
    generalize told rencM (cmds (lenP 946 p (l : Int))).2 P3 s3 = z at *
    obtain ⟨P9, s9⟩ := z
    refine ⟨Fx.mixed, .inl ⟨[(0, false), (1, false), (3, false), (4, false), (5, false), (2, true), (6, true)], ns3, by kernel_rfl, (fun j hj => ⟨K.w j hj, by obtain ⟨o, ho⟩ := l2 j hj; rw [ho]; rfl⟩), ?_⟩⟩
    simp (maxSteps := 1000000) -implicitDefEqProofs only [go_sem, seval, -List.reduceReplicate, t5, q1, q2, q3, q4, q5, bx, f1, f2, hyl]
    refine CallG.pk (klens (K.rd.drawn ns3) true) ?_
    simp (maxSteps := 1000000) -implicitDefEqProofs only [go_sem, seval, -List.reduceReplicate, t5, q1, q2, q3, q4, q5]
    refine CallG.weak hlen ?_
    rintro v m9 nx9 ⟨rfl, fr9, ns9, k9, hn9⟩
    have K := K.nxt G0.lt (Nat.lt_succ_self nx) fr9 k9 hn9
    have bx := K.bx
    unfold syL at bx
    simp (maxSteps := 1000000) -implicitDefEqProofs only [go_sem, seval, -List.reduceReplicate, t5, bx]
    have KB := kbecomes K.rd K.fr.lt K.ka K.w hC y hf
    first | refine CallG.weak KB ?_ | (unfold syL at KB; rw [hyl, hyr] at KB; refine CallG.weak KB ?_)
    rintro v m10 nx10 ⟨rfl, fr10, ns10, k10, hn10⟩
    have K := K.nxt G0.lt (Nat.lt_succ_self nx) fr10 k10 hn10
    simp (maxSteps := 1000000) -implicitDefEqProofs only [go_sem, seval, -List.reduceReplicate]
    exact K.fin G0 lt D hw
end
end Go.Proofs.Ytmdeoikpiiambaa
end
section
/- The document's model: a symbol that fits is put; the history grows. BRIEF -/
set_option linter.unusedVariables false
set_option linter.unusedSimpArgs false
set_option maxRecDepth 100000
namespace Go.Proofs.Ytmdeoikpiiambaa
open Go Go.Eng

theorem kput {wr : Nat → Bool} {m : Mem} {nx c a : Nat} {C : MC} {P : List (BitVec 16)} {s : RS} {ns : List Nat} (D : Rdm wr m nx) (lt : ∀ p ∈ m, p.1 < nx) (H : KA c a C m (P, s) ns) (hw : ∀ k ∈ ns, wr k = true) {hv : AV} {h : List (BitVec 8)} {hs : List Nat} (hi : ByAt 5 m hv h hs) (hh : h.length ≤ 100000000) (hsn : ∀ k ∈ hs, k ∉ ns) (hC : MCok C) (hz : szP C ≤ 100000000) (hb : rencB s 24) (y : Sy) {n : Nat} (hf : fitsB C n y = true) :
    CallG false Try.prog 46 [.ptr c 0, .ptr a 0, hv, .agg (syL y)] wr m nx (OwK (KA c a (becC C y)) (.tup []) (told rencM (cmds (symP C h y)).2 P s) ns m nx) := by
  have hf' := hf
  unfold fitsB at hf'
  by_cases h0 : y.k = 0
  · exact kput0 D lt H hw hi hh hsn hC hz hb y hf h0
  rw [if_neg h0] at hf'
  by_cases h1 : y.k = 1
  · rw [if_pos h1] at hf'
    simp only [Bool.and_eq_true, decide_eq_true_eq] at hf'
    obtain ⟨⟨⟨⟨a1, a2⟩, a3⟩, a4⟩, a5⟩ := hf'
    exact kput1 D lt H hw hi hh hsn hC hz hb y hf h1 y.l.toNat (y.d.toNat - 1) (by omega) (by omega) (by omega) (by omega) (by omega)
  · rw [if_neg h1] at hf'
    have h2 : y.k = 2 := by
      by_cases h2 : y.k = 2
      · exact h2
      · rw [if_neg h2] at hf'; cases hf'
    rw [if_pos h2] at hf'
    simp only [Bool.and_eq_true, Bool.or_eq_true, decide_eq_true_eq] at hf'
    obtain ⟨⟨⟨a1, a2⟩, a3⟩, a4⟩ := hf'
    exact kput2 D lt H hw hi hh hsn hC hz hb y hf h2 y.r.toNat y.l.toNat (by omega) (by omega) (by omega) (by omega) (by omega) (by omega)
/-- a history grows -/
def growN (h : List (BitVec 8)) (d : Nat) : Nat → List (BitVec 8)
  | 0 => h
  | n + 1 => growN h d n ++ [(growN h d n).getD ((growN h d n).length - d) 0]
def growS (h : List (BitVec 8)) (y : Sy) (d : Nat) : List (BitVec 8) := if y.k = 0 then h ++ [y.b] else growN h d y.l.toNat
theorem growN_len (h : List (BitVec 8)) (d : Nat) : ∀ n, (growN h d n).length = h.length + n
  | 0 => rfl
  | n + 1 => by rw [growN, List.length_append, growN_len h d n]; rfl
theorem gr_app {m m1 m2 : Mem} {nx nx1 nx2 : Nat} {ns1 : List Nat} (g : Gr m nx m1 nx1) (lt : ∀ p ∈ m, p.1 < nx) (hn : ∀ k ∈ ns1, nx ≤ k) (le : nx1 ≤ nx2) (nd : (m2.map fun p => p.1).Nodup) (lt2 : ∀ p ∈ m2, p.1 < nx2) (kp : ∀ k o, k ∉ ns1 → Eng.look m1 k = some o → Eng.look m2 k = some o) : Gr m nx m2 nx2 :=
  ⟨Nat.le_trans g.le le, nd, lt2, fun k o h => kp k o (fun hm => by have := look_ltm lt h; have := hn k hm; omega) (g.kp k o h)⟩
section
variable {wr : Nat → Bool} {m : Mem} {nx : Nat}
def GwK (X : List (BitVec 8)) (m : Mem) (nx : Nat) : Kv := fun v m' nx' => Gr m nx m' nx' ∧ v ≠ .ro X.length (bvs .u8 X) ∧ ∃ ns, ByAt 5 m' v X ns ∧ ∀ k ∈ ns, nx ≤ k
set_option maxHeartbeats 2000000 in
theorem kgrow (D : Rdm wr m nx) (lt : ∀ p ∈ m, p.1 < nx) {hv : AV} {h : List (BitVec 8)} {hs : List Nat} (hi : ByAt 5 m hv h hs) (hh : h.length ≤ 90000000) (y : Sy) (d : Nat) (hf : y.k = 0 ∨ (0 ≤ y.l ∧ y.l ≤ 273 ∧ 1 ≤ d ∧ d ≤ h.length)) :
    CallG false Try.prog 47 [hv, .agg (syL y), .int .i64 (d : Nat)] wr m nx (GwK (growS h y d) m nx) := by
  refine fn_okG Try.func47 rfl (by show 3 ≤ _; decide) ?_
  have t5 : ∀ a b d e f : AV, List.take 5 [a, b, d, e, f] = [a, b, d, e, f] := fun _ _ _ _ _ => rfl
  have G0 := Gr.cons D.nd lt (syO y)
  have G1 := G0.trans (Gr.cons G0.nd G0.lt (.cells [] 5))
  obtain ⟨q1, q2, q3, q4, q5⟩ := hi.facts
  have q6 := hi.len Try.prog 22
  have zs := (hi.grow G1).src
  simp only [srcx, Nat.mul_one, Eng.look, syO, syL] at zs
  simp (maxSteps := 1000000) -implicitDefEqProofs only [go_sem, seval, -List.reduceReplicate, Try.results47, Try.ntmps47, syL, t5, q1, q2, q3, q4, q5, q6, zs, one1_bvs]
  have r0 : ByAt 5 ((nx + 1, .cells [] 5) :: (nx, syO y) :: m) (.sl (nx + 1) 0 0 0) [] [nx + 1] := .row (X := []) (sp := []) rfl (by rw [look_cons, if_pos rfl]; rfl) rfl (by decide) rfl
  refine ⟨.inr trivial, ?_⟩
  refine appk_by (Y := h) r0 (fun e => by cases e) G1.nd (fun n hn => D.wn n (by omega)) G1.lt (fun k hk => D.wn k (by cases List.mem_singleton.1 hk; omega)) (by rw [List.length_nil]; omega) ?_
  intro v1 m1 nx1 ns1 b1 b2 b3 b4 b5 b6 b7 b8
  rw [List.nil_append] at b1 b2
  have n1 : ∀ k ∈ ns1, nx + 1 ≤ k := fun k hk => by
    rcases b4 k hk with h | h
    · cases List.mem_singleton.1 h; exact Nat.le_refl _
    · omega
  have g1 : Gr m nx m1 nx1 := gr_app G1 lt (ns1 := [nx + 1]) (fun k hk => by cases List.mem_singleton.1 hk; omega) b3 b5 b6 b7
  have bx : Eng.look m1 nx = some (syO y) := b7 nx _ (fun e => by cases List.mem_singleton.1 e) (by rw [look_cons, if_neg (by omega)]; first | done | exact look_c0 _ _ _)
  have bx' := bx
  unfold syO syL at bx'
  by_cases k0 : y.k = 0
  · have e0 : (y.k == 0) = true := by simp [k0]
    obtain ⟨q1, q2, q3, q4, q5⟩ := b1.facts
    simp (maxSteps := 1000000) -implicitDefEqProofs only [go_sem, seval, -List.reduceReplicate, t5, q1, q2, q3, q4, q5, bx', e0, one1_bvs]
    refine ⟨.inr trivial, rfl, ?_⟩
    change appk v1 ((nx1, .cells (bvs .u8 [y.b]) 5) :: m1) (nx1 + 1) wr 5 1 1 (([y.b] : List (BitVec 8)).length, bvs .u8 [y.b]) _
    have gc := g1.trans (Gr.cons g1.nd g1.lt (.cells (bvs .u8 [y.b]) 5))
    refine appk_by (b1.grow (Gr.cons g1.nd g1.lt (.cells (bvs .u8 [y.b]) 5))) b2 gc.nd (fun n hn => D.wn n (by have := gc.le; omega)) gc.lt (fun k hk => D.wn k (by have := n1 k hk; omega)) (by show h.length + 1 ≤ _; omega) ?_
    intro v2 m2 nx2 ns2 d1 d2 d3 d4 d5 d6 d7 d8
    have g2 : Gr m nx m2 nx2 := gr_app gc lt (ns1 := ns1) (fun k hk => by have := n1 k hk; omega) d3 d5 d6 d7
    have n2 : ∀ k ∈ ns2, nx + 1 ≤ k := fun k hk => by
      rcases d4 k hk with h | h
      · exact n1 k h
      · have := g1.le; omega
    simp (maxSteps := 1000000) -implicitDefEqProofs only [go_sem, seval, -List.reduceReplicate, t5]
    have hG : growS h y d = h ++ [y.b] := if_pos k0
    rw [hG]
    exact Fin.keepW (m0 := m2) g2.le (memSame_slf g2.nd) g2.nd (g2.rdm D).kp ⟨g2, d2, ns2, d1, fun k hk => by have := n2 k hk; omega⟩
  · have e0 : (y.k == 0) = false := by simp [k0]
    obtain ⟨l1, l2, l3, l4⟩ := hf.resolve_left k0
    obtain ⟨l, hl⟩ : ∃ l : Nat, y.l = (l : Int) := ⟨y.l.toNat, by omega⟩
    have hG : growS h y d = growN h d l := by unfold growS; rw [if_neg k0, hl, Int.toNat_natCast]
    rw [hG]
    rw [hl] at bx'
    obtain ⟨q1, q2, q3, q4, q5⟩ := b1.facts
    simp (maxSteps := 1000000) -implicitDefEqProofs only [go_sem, seval, -List.reduceReplicate, t5, q1, q2, q3, q4, q5, bx', e0, one1_bvs]
    refine LoopOk.upX (fun i (x : AV × List Nat × Mem × Nat) => Gr m nx x.2.2.1 x.2.2.2 ∧ ByAt 5 x.2.2.1 x.1 (growN h d i) x.2.1 ∧ x.1 ≠ .ro (growN h d i).length (bvs .u8 (growN h d i)) ∧ (∀ k ∈ x.2.1, nx + 1 ≤ k) ∧ Eng.look x.2.2.1 nx = some (syO y)) l
      (fun i x => ([(8, .int .i64 (i : Nat)), (7, x.1), (4, .ptr nx 0), (2, .int .i64 (d : Nat))], x.2.2.1, x.2.2.2)) (v1, ns1, m1, nx1) ⟨g1, b1, b2, n1, bx⟩ ((g1.rdm D).leN g1.le ⟨rfl, rfl, rfl, rfl, trivial⟩) ?_
    rintro i ⟨v, ns, M, nxM⟩ ⟨hi4, a1, a2, a3, a4, a5⟩
    have a1 : Gr m nx M nxM := a1
    have a2 : ByAt 5 M v (growN h d i) ns := a2
    have a3 : v ≠ .ro (growN h d i).length (bvs .u8 (growN h d i)) := a3
    have a4 : ∀ k ∈ ns, nx + 1 ≤ k := a4
    have a5 : Eng.look M nx = some (syO y) := a5
    have a5' := a5
    unfold syO syL at a5'
    rw [hl] at a5'
    have hgl := growN_len h d i
    obtain ⟨q1, q2, q3, q4, q5⟩ := a2.facts
    have q6 := a2.len Try.prog 22
    have wi : IntKind.i64.wrap ((i : Int) + 1) = ((i + 1 : Nat) : Int) := by rw [wrap_i64] <;> omega
    rcases Nat.lt_or_ge i l with h' | h'
    · have c1 : decide ((i : Int) < (l : Int)) = true := decide_eq_true (by omega)
      have w1 : IntKind.i64.wrap (((growN h d i).length : Int) - (d : Int)) = (((growN h d i).length - d : Nat) : Int) := by rw [wrap_i64] <;> omega
      obtain ⟨p, hp1, hp2⟩ := a2.idx (t := 22) ((growN h d i).length - d) (by omega) el5 sz5 kn5 ag5 df5
      simp (maxSteps := 1000000) -implicitDefEqProofs only [go_sem, seval, -List.reduceReplicate, t5, q1, q2, q3, q4, q5, q6, a5', c1, w1]
      refine hp1 _ ?_
      simp (maxSteps := 1000000) -implicitDefEqProofs only [go_sem, seval, -List.reduceReplicate, t5, q1, q2, q3, q4, q5]
      refine hp2 _ _ (fun _ _ => rfl) ?_
      simp (maxSteps := 1000000) -implicitDefEqProofs only [go_sem, seval, -List.reduceReplicate, t5, q1, q2, q3, q4, q5, one1_bvs]
      refine ⟨.inr trivial, rfl, ?_⟩
      change appk v ((nxM, .cells (bvs .u8 [(growN h d i).getD ((growN h d i).length - d) 0#8]) 5) :: M) (nxM + 1) wr 5 1 1 (([(growN h d i).getD ((growN h d i).length - d) 0#8] : List (BitVec 8)).length, bvs .u8 [(growN h d i).getD ((growN h d i).length - d) 0#8]) _
      have gc := a1.trans (Gr.cons a1.nd a1.lt (.cells (bvs .u8 [(growN h d i).getD ((growN h d i).length - d) 0#8]) 5))
      refine appk_by (a2.grow (Gr.cons a1.nd a1.lt (.cells (bvs .u8 [(growN h d i).getD ((growN h d i).length - d) 0#8]) 5))) a3 gc.nd (fun n hn => D.wn n (by have := gc.le; omega)) gc.lt (fun k hk => D.wn k (by have := a4 k hk; omega)) (by rw [hgl]; show h.length + i + 1 ≤ _; omega) ?_
      intro v2 m2 nx2 ns2 d1 d2 d3 d4 d5 d6 d7 d8
      have g2 : Gr m nx m2 nx2 := gr_app gc lt (ns1 := ns) (fun k hk => by have := a4 k hk; omega) d3 d5 d6 d7
      have n2 : ∀ k ∈ ns2, nx + 1 ≤ k := fun k hk => by
        rcases d4 k hk with h | h
        · exact a4 k h
        · have := a1.le; omega
      have bx2 : Eng.look m2 nx = some (syO y) := d7 nx _ (fun e => by have := a4 nx e; omega) (by rw [look_cons, if_neg (by have := a1.le; have := look_ltm a1.lt a5; omega)]; exact a5)
      simp (maxSteps := 1000000) -implicitDefEqProofs only [go_sem, seval, -List.reduceReplicate, t5, wi]
      exact UpX_normal h' (v2, ns2, m2, nx2) ⟨g2, d1, d2, n2, bx2⟩ ((g2.rdm D).leN g2.le ⟨rfl, rfl, rfl, rfl, trivial⟩)
    · have hil : i = l := by omega
      subst hil
      have c1 : decide ((i : Int) < (i : Int)) = false := decide_eq_false (by omega)
      simp (maxSteps := 1000000) -implicitDefEqProofs only [go_sem, seval, -List.reduceReplicate, t5, q1, q2, q3, q4, q5, q6, a5', c1]
      exact Fin.keepW (m0 := M) a1.le (memSame_slf a1.nd) a1.nd (a1.rdm D).kp ⟨a1, a3, ns, a2, fun k hk => by have := a4 k hk; omega⟩
end
end Go.Proofs.Ytmdeoikpiiambaa
end
section
/- Chances are set to the middle. BRIEF -/
set_option linter.unusedVariables false
set_option linter.unusedSimpArgs false
set_option maxRecDepth 100000
namespace Go.Proofs.Ytmdeoikpiiambaa
open Go Go.Eng

def fillN (L : List AV) (off : Nat) : Nat → List AV
  | 0 => L
  | i + 1 => (fillN L off i).set (off + i) (.int .u16 1024)
theorem fillN_len (L : List AV) (off : Nat) : ∀ n, (fillN L off n).length = L.length
  | 0 => rfl
  | n + 1 => by rw [fillN, List.length_set, fillN_len L off n]
theorem fillN_get (L : List AV) (off i : Nat) : ∀ n, (fillN L off n)[i]? = if off ≤ i ∧ i < off + n ∧ i < L.length then some (.int .u16 1024) else L[i]?
  | 0 => by rw [if_neg (by omega)]; rfl
  | n + 1 => by
    rw [fillN, List.getElem?_set, fillN_len, fillN_get L off i n]
    by_cases h : off + n = i
    · rw [if_pos h]
      by_cases h2 : i < L.length
      · rw [if_pos (by omega), if_pos (by omega)]
      · rw [if_neg (by omega), if_neg (by omega), List.getElem?_eq_none (by omega)]
    · rw [if_neg h]
      by_cases h2 : off ≤ i ∧ i < off + n ∧ i < L.length
      · rw [if_pos h2, if_pos (by omega)]
      · rw [if_neg h2, if_neg (by omega)]
/-- some places are set, the others stand -/
def Filled (L0 : List AV) (A : Nat → Prop) (L : List AV) : Prop := L.length = L0.length ∧ ∀ i, (A i → i < L0.length → L[i]? = some (.int .u16 1024)) ∧ (¬ A i → L[i]? = L0[i]?)
theorem Filled.zero (L : List AV) : Filled L (fun _ => False) L := ⟨rfl, fun i => ⟨False.elim, fun _ => rfl⟩⟩
theorem Filled.mono {L0 L : List AV} {A A' : Nat → Prop} (h : Filled L0 A L) (e : ∀ i, A' i ↔ A i) : Filled L0 A' L := ⟨h.1, fun i => ⟨fun a => (h.2 i).1 ((e i).1 a), fun a => (h.2 i).2 fun x => a ((e i).2 x)⟩⟩
theorem Filled.fill {L0 L : List AV} {A A' : Nat → Prop} (h : Filled L0 A L) (off n : Nat) (e : ∀ i, A' i ↔ A i ∨ (off ≤ i ∧ i < off + n)) : Filled L0 A' (fillN L off n) :=
  ⟨(fillN_len L off n).trans h.1, fun i => by
    rw [fillN_get, h.1]
    by_cases h1 : off ≤ i ∧ i < off + n
    · refine ⟨fun _ hl => by rw [if_pos ⟨h1.1, h1.2, hl⟩], fun a => absurd ((e i).2 (.inr h1)) a⟩
    · rw [if_neg (fun x => h1 ⟨x.1, x.2.1⟩)]
      exact ⟨fun a hl => (h.2 i).1 (((e i).1 a).resolve_right h1) hl, fun a => (h.2 i).2 fun x => a ((e i).2 (.inl x))⟩⟩
section
variable {m : Mem} {nx : Nat} {wr : Nat → Bool}
set_option maxHeartbeats 4000000 in
theorem rfill (D : Rdm wr m nx) {n off len cap : Nat} {L : List AV} {ty : TypeId} (hn : Eng.look m n = some (.cells L ty)) (wn : wr n = true) (hl : off + len ≤ L.length) (hs : len ≤ 1000000) :
    CallG false Try.prog 93 [.sl n off len cap] wr m nx (fun v m' nx' => v = .tup [] ∧ m' = Eng.upd m n (.cells (fillN L off len) ty) ∧ nx' = nx) := by
  refine fn_okG Try.func93 rfl (by show 1 ≤ _; decide) ?_
  simp (maxSteps := 1000000) -implicitDefEqProofs only [go_sem, seval, -List.reduceReplicate, Try.results93, Try.ntmps93]
  refine LoopOk.upX (fun i (x : Mem) => x = Eng.upd m n (.cells (fillN L off i) ty)) len (fun i x => ([(5, .int .i64 (i : Nat)), (4, .int .i64 (len : Nat)), (0, .sl n off len cap)], x, nx)) m (upd_self hn).symm (D.leN (Nat.le_refl _) ⟨rfl, rfl, rfl, trivial⟩) ?_
  rintro i x ⟨hi, rfl⟩
  have hm := look_upd_same (.cells (fillN L off i) ty) hn
  have hll := fillN_len L off i
  have wi : IntKind.i64.wrap ((i : Int) + 1) = ((i + 1 : Nat) : Int) := by rw [wrap_i64] <;> omega
  have D1 := D.upd n (.cells (fillN L off i) ty)
  rcases Nat.lt_or_ge i len with h' | h'
  · have c1 : decide ((i : Int) < (len : Int)) = true := decide_eq_true (by omega)
    simp (maxSteps := 1000000) -implicitDefEqProofs only [go_sem, seval, -List.reduceReplicate, c1, hm, wn, wi, hll]
    exact ⟨by omega, by omega, UpX_normal h' _ (by rw [upd_upd]; rfl) ((D1.upd n (.cells ((fillN L off i).set (off + i) (.int .u16 1024)) ty)).leN (Nat.le_refl _) ⟨rfl, rfl, rfl, trivial⟩)⟩
  · have c1 : decide ((i : Int) < (len : Int)) = false := decide_eq_false (by omega)
    simp (maxSteps := 1000000) -implicitDefEqProofs only [go_sem, seval, -List.reduceReplicate, c1]
    exact Fin.keepW (m0 := Eng.upd m n (.cells (fillN L off i) ty)) (Nat.le_refl _) (memSame_slf D1.nd) D1.nd D1.kp ⟨rfl, by rw [show i = len by omega], rfl⟩
/-- a call's end that has set places of one object -/
def FK (c : Nat) (ty : TypeId) (L0 : List AV) (A : Nat → Prop) (m : Mem) (nx : Nat) : Kv := fun v m' nx' => v = .tup [] ∧ nx' = nx ∧ ∃ L', m' = Eng.upd m c (.cells L' ty) ∧ Filled L0 A L'
theorem finF (D : Rdm wr m nx) {c : Nat} {ty : TypeId} {L0 L' : List AV} {A : Nat → Prop} (h : Filled L0 A L') : Eng.Fin nx wr (Eng.upd m c (.cells L' ty)) nx (FK c ty L0 A m nx) (.tup []) :=
  Fin.keepW (m0 := Eng.upd m c (.cells L' ty)) (Nat.le_refl _) (memSame_slf (D.upd c _).nd) (D.upd c (.cells L' ty)).nd (D.upd c (.cells L' ty)).kp ⟨rfl, rfl, L', rfl, h⟩
theorem rfillF (D : Rdm wr m nx) {c off len cap : Nat} {L L0 : List AV} {ty : TypeId} (wn : wr c = true) {A A' : Nat → Prop} (h : Filled L0 A L) (hc : ∃ o, Eng.look m c = some o) (hl : off + len ≤ L0.length) (hs : len ≤ 1000000) (e : ∀ i, A' i ↔ A i ∨ (off ≤ i ∧ i < off + len)) :
    CallG false Try.prog 93 [.sl c off len cap] wr (Eng.upd m c (.cells L ty)) nx (FK c ty L0 A' m nx) := by
  obtain ⟨o, ho⟩ := hc
  refine (rfill (D.upd c _) (look_upd_same _ ho) wn (by rw [h.1]; exact hl) hs).weak ?_
  rintro v m' nx' ⟨rfl, rfl, rfl⟩
  exact ⟨rfl, rfl, _, by rw [upd_upd], h.fill off len e⟩
set_option maxHeartbeats 4000000 in
theorem rlfill (D : Rdm wr m nx) {c off : Nat} {L L0 : List AV} {ty : TypeId} (wn : wr c = true) {A : Nat → Prop} (h : Filled L0 A L) (hc : ∃ o, Eng.look m c = some o) (hl : off + 514 ≤ L0.length) :
    CallG false Try.prog 94 [.ptr c off] wr (Eng.upd m c (.cells L ty)) nx (FK c ty L0 (fun i => A i ∨ (off ≤ i ∧ i < off + 514)) m nx) := by
  refine fn_okG Try.func94 rfl (by show 1 ≤ _; decide) ?_
  have D0 := D.upd c (.cells L ty)
  simp (maxSteps := 1000000) -implicitDefEqProofs only [go_sem, seval, -List.reduceReplicate, Try.results94, Try.ntmps94]
  refine CallG.weak (rfillF D wn h hc (by omega) (by decide) (A' := fun i => A i ∨ (off ≤ i ∧ i < off + 1)) (fun i => Iff.rfl)) ?_
  rintro v m1 nx1 ⟨rfl, rfl, L1, rfl, h1⟩
  simp (maxSteps := 1000000) -implicitDefEqProofs only [go_sem, seval, -List.reduceReplicate]
  refine CallG.weak (rfillF D wn h1 hc (by omega) (by decide) (A' := fun i => A i ∨ (off ≤ i ∧ i < off + 2)) (fun i => by by_cases hs : A i <;> simp only [hs, true_or, false_or, true_iff, iff_self] <;> omega)) ?_
  rintro v m1 nx1 ⟨rfl, rfl, L1, rfl, h1⟩
  simp (maxSteps := 1000000) -implicitDefEqProofs only [go_sem, seval, -List.reduceReplicate]
  refine CallG.weak (rfillF D wn h1 hc (by omega) (by decide) (A' := fun i => A i ∨ (off ≤ i ∧ i < off + 2) ∨ (off + 258 ≤ i ∧ i < off + 514)) (fun i => by by_cases hs : A i <;> simp only [hs, true_or, false_or, true_iff, iff_self] <;> omega)) ?_
  rintro v m1 nx1 ⟨rfl, rfl, L1, rfl, h1⟩
  have D1 := D.upd c (.cells L1 ty)
  simp (maxSteps := 1000000) -implicitDefEqProofs only [go_sem, seval, -List.reduceReplicate]
  refine LoopOk.upX (fun i (x : Mem) => ∃ L', x = Eng.upd m c (.cells L' ty) ∧ Filled L0 (fun j => A j ∨ (off ≤ j ∧ j < off + 2) ∨ (off + 258 ≤ j ∧ j < off + 514) ∨ (off + 2 ≤ j ∧ j < off + 2 + 8 * i) ∨ (off + 130 ≤ j ∧ j < off + 130 + 8 * i)) L') 16 (fun i x => ([(18, .int .i64 (i : Nat)), (0, .ptr c off)], x, nx1)) (Eng.upd m c (.cells L1 ty)) ⟨L1, rfl, h1.mono fun i => by by_cases hs : A i <;> simp only [hs, true_or, false_or, true_iff, iff_self] <;> omega⟩ (D1.leN (Nat.le_refl _) ⟨rfl, rfl, trivial⟩) ?_
  rintro i x ⟨hi, L2, rfl, h2⟩
  have wi : IntKind.i64.wrap ((i : Int) + 1) = ((i + 1 : Nat) : Int) := by rw [wrap_i64] <;> omega
  rcases Nat.lt_or_ge i 16 with h' | h'
  · have c1 : decide ((i : Int) < 16) = true := decide_eq_true (by omega)
    simp (maxSteps := 1000000) -implicitDefEqProofs only [go_sem, seval, -List.reduceReplicate, c1, wi]
    refine ⟨by omega, ?_⟩
    refine CallG.weak (rfillF D wn h2 hc (by omega) (by decide) (A' := fun j => A j ∨ (off ≤ j ∧ j < off + 2) ∨ (off + 258 ≤ j ∧ j < off + 514) ∨ (off + 2 ≤ j ∧ j < off + 2 + 8 * (i + 1)) ∨ (off + 130 ≤ j ∧ j < off + 130 + 8 * i)) (fun j => by by_cases hs : A j <;> simp only [hs, true_or, false_or, true_iff, iff_self] <;> omega)) ?_
    rintro v m1 nx1 ⟨rfl, rfl, L3, rfl, h3⟩
    simp (maxSteps := 1000000) -implicitDefEqProofs only [go_sem, seval, -List.reduceReplicate, c1, wi]
    refine ⟨by omega, ?_⟩
    refine CallG.weak (rfillF D wn h3 hc (by omega) (by decide) (A' := fun j => A j ∨ (off ≤ j ∧ j < off + 2) ∨ (off + 258 ≤ j ∧ j < off + 514) ∨ (off + 2 ≤ j ∧ j < off + 2 + 8 * (i + 1)) ∨ (off + 130 ≤ j ∧ j < off + 130 + 8 * (i + 1))) (fun j => by by_cases hs : A j <;> simp only [hs, true_or, false_or, true_iff, iff_self] <;> omega)) ?_
    rintro v m1 nx1 ⟨rfl, rfl, L4, rfl, h4⟩
    simp (maxSteps := 1000000) -implicitDefEqProofs only [go_sem, seval, -List.reduceReplicate, c1, wi]
    exact UpX_normal h' _ ⟨L4, rfl, h4⟩ ((D.upd c (.cells L4 ty)).leN (Nat.le_refl _) ⟨rfl, rfl, trivial⟩)
  · have c1 : decide ((i : Int) < 16) = false := decide_eq_false (by omega)
    simp (maxSteps := 1000000) -implicitDefEqProofs only [go_sem, seval, -List.reduceReplicate, c1, wi]
    exact finF D (h2.mono fun j => by by_cases hs : A j <;> simp only [hs, true_or, false_or, true_iff, iff_self] <;> omega)
end
end Go.Proofs.Ytmdeoikpiiambaa
end
section
/- A model's coder is made. BRIEF -/
set_option linter.unusedVariables false
set_option linter.unusedSimpArgs false
set_option maxRecDepth 100000
namespace Go.Proofs.Ytmdeoikpiiambaa
open Go Go.Eng

theorem newP_pq (a b : Nat) : pq (newP a b) = List.replicate 2180 1024#16 := by
  have hl : 2180 ≤ (newP a b).length := by rw [newP, List.length_replicate]; omega
  refine List.ext_getElem? fun i => ?_
  rw [pq_inv _ hl, newP]
  by_cases h : i < 2180
  · have := invQ_lt h
    rw [if_pos h, List.getElem?_replicate, List.getElem?_replicate, if_pos (by omega), if_pos h]
  · rw [if_neg h, List.getElem?_replicate, if_neg h]
theorem bvsR (k : IntKind) (n : Nat) (v : BitVec 16) : bvs k (List.replicate n v) = List.replicate n (.int k ((v.toNat : Nat) : Int)) := by
  simp only [bvs, List.map_replicate]
theorem cL_tail (C : MC) (q : Nat) (Q : List (BitVec 16)) (hQ : Q.length = 2180) {i : Nat} (h : 2188 ≤ i) : (cL C q Q)[i]? = [AV.sl q 0 (2 ^ (C.lc + C.lp)) (2 ^ (C.lc + C.lp))][i - 8 - 2180]? := by
  rw [cL, List.getElem?_append_right (by show 8 ≤ i; omega)]
  show (bvs .u16 Q ++ [AV.sl q 0 _ _])[i - 8]? = _
  rw [List.getElem?_append_right (by rw [bvs_length, hQ]; omega), bvs_length, hQ]
section
variable {m : Mem} {nx : Nat} {wr : Nat → Bool}
/-- the coder and its literals under way -/
structure NS (m : Mem) (nx : Nat) (LC0 LQ0 : List AV) (A B : Nat → Prop) (x : Mem) (n2 : Nat) : Prop where
  g : Gr m nx x n2
  co : ∃ L, Eng.look x (nx + 1) = some (.cells L 151) ∧ Filled LC0 A L
  li : ∃ L, Eng.look x nx = some (.cells L 153) ∧ Filled LQ0 B L
def NK (m : Mem) (nx : Nat) (LC0 LQ0 : List AV) (A B : Nat → Prop) (x : Mem) (n2 : Nat) : Kv := fun v m' nx' => v = .tup [] ∧ nx' = n2 ∧ NS m nx LC0 LQ0 A B m' n2 ∧ ∀ k o, nx + 1 < k → Eng.look x k = some o → Eng.look m' k = some o
theorem Gr.updN {m x : Mem} {nx nx1 k : Nat} (D : Rdm wr m nx) (lt : ∀ p ∈ m, p.1 < nx) (g : Gr m nx x nx1) (hk : nx ≤ k) (o : AObj) : Gr m nx (Eng.upd x k o) nx1 :=
  ⟨g.le, ((g.rdm D).upd k o).nd, upd_lt g.lt k o, fun n o' h => by rw [look_upd_other _ (by have := look_ltm lt h; omega)]; exact g.kp n o' h⟩
section
variable {LC0 LQ0 : List AV} {A A' B B' : Nat → Prop} {x : Mem} {n2 : Nat}
theorem NS.fillC (D : Rdm wr m nx) (lt : ∀ p ∈ m, p.1 < nx) (Z : NS m nx LC0 LQ0 A B x n2) {off len cap : Nat} (hl : off + len ≤ LC0.length) (hs : len ≤ 1000000) (e : ∀ i, A' i ↔ A i ∨ (off ≤ i ∧ i < off + len)) :
    CallG false Try.prog 93 [.sl (nx + 1) off len cap] wr x n2 (NK m nx LC0 LQ0 A' B x n2) := by
  obtain ⟨L, h1, h2⟩ := Z.co
  refine (rfill (Z.g.rdm D) h1 (D.wn _ (by omega)) (by rw [h2.1]; exact hl) hs).weak ?_
  rintro v m' nx' ⟨rfl, rfl, rfl⟩
  obtain ⟨Q, h3, h4⟩ := Z.li
  exact ⟨rfl, rfl, ⟨Gr.updN D lt Z.g (by omega) _, ⟨_, look_upd_same _ h1, h2.fill off len e⟩, ⟨Q, by rw [look_upd_other _ (by omega)]; exact h3, h4⟩⟩, fun k o hk ho => by rw [look_upd_other _ (by omega)]; exact ho⟩
theorem NS.fillQ (D : Rdm wr m nx) (lt : ∀ p ∈ m, p.1 < nx) (Z : NS m nx LC0 LQ0 A B x n2) {off len cap : Nat} (hl : off + len ≤ LQ0.length) (hs : len ≤ 1000000) (e : ∀ i, B' i ↔ B i ∨ (off ≤ i ∧ i < off + len)) :
    CallG false Try.prog 93 [.sl nx off len cap] wr x n2 (NK m nx LC0 LQ0 A B' x n2) := by
  obtain ⟨L, h1, h2⟩ := Z.li
  refine (rfill (Z.g.rdm D) h1 (D.wn _ (by omega)) (by rw [h2.1]; exact hl) hs).weak ?_
  rintro v m' nx' ⟨rfl, rfl, rfl⟩
  obtain ⟨Q, h3, h4⟩ := Z.co
  exact ⟨rfl, rfl, ⟨Gr.updN D lt Z.g (by omega) _, ⟨Q, by rw [look_upd_other _ (by omega)]; exact h3, h4⟩, ⟨_, look_upd_same _ h1, h2.fill off len e⟩⟩, fun k o hk ho => by rw [look_upd_other _ (by omega)]; exact ho⟩
theorem NS.lfillC (D : Rdm wr m nx) (lt : ∀ p ∈ m, p.1 < nx) (Z : NS m nx LC0 LQ0 A B x n2) {off : Nat} (hl : off + 514 ≤ LC0.length) :
    CallG false Try.prog 94 [.ptr (nx + 1) off] wr x n2 (NK m nx LC0 LQ0 (fun i => A i ∨ (off ≤ i ∧ i < off + 514)) B x n2) := by
  obtain ⟨L, h1, h2⟩ := Z.co
  have hf := rlfill (ty := 151) (Z.g.rdm D) (D.wn _ (by omega)) h2 ⟨_, h1⟩ hl
  rw [upd_self h1] at hf
  refine hf.weak ?_
  rintro v m' nx' ⟨rfl, rfl, L', rfl, h5⟩
  obtain ⟨Q, h3, h4⟩ := Z.li
  exact ⟨rfl, rfl, ⟨Gr.updN D lt Z.g (by omega) _, ⟨_, look_upd_same _ h1, h5⟩, ⟨Q, by rw [look_upd_other _ (by omega)]; exact h3, h4⟩⟩, fun k o hk ho => by rw [look_upd_other _ (by omega)]; exact ho⟩
theorem NS.lit {C : MC} {Q : List (BitVec 16)} (Z : NS m nx (cL C nx Q) LQ0 A B x n2) (hQ : Q.length = 2180) (hA : ¬ A 2188) : ∃ L, Eng.look x (nx + 1) = some (.cells L 151) ∧ L.length = 2189 ∧ L.getD 2188 .nils = .sl nx 0 (2 ^ (C.lc + C.lp)) (2 ^ (C.lc + C.lp)) := by
  obtain ⟨L, h1, h2⟩ := Z.co
  refine ⟨L, h1, by rw [h2.1, cL_len, hQ], ?_⟩
  rw [List.getD_eq_getElem?_getD, (h2.2 2188).2 hA, ← List.getD_eq_getElem?_getD]
  exact cLlit C nx Q hQ _
theorem NS.box (D : Rdm wr m nx) (Z : NS m nx LC0 LQ0 A B x n2) (h2 : nx + 1 < n2) (o : AObj) : NS m nx LC0 LQ0 A B ((n2, o) :: x) (n2 + 1) := by
  obtain ⟨L, h1, h2'⟩ := Z.co
  obtain ⟨Q, h3, h4⟩ := Z.li
  exact ⟨Z.g.trans (Gr.cons (Z.g.rdm D).nd Z.g.lt o), ⟨L, look_c1 o (by omega) h1, h2'⟩, ⟨Q, look_c1 o (by omega) h3, h4⟩⟩
theorem NS.mono {A2 : Nat → Prop} (Z : NS m nx LC0 LQ0 A B x n2) (e : ∀ i, A2 i ↔ A i) : NS m nx LC0 LQ0 A2 B x n2 := by
  obtain ⟨L, h1, h2⟩ := Z.co
  exact ⟨Z.g, ⟨L, h1, h2.mono e⟩, Z.li⟩
end
def LA (a b p nx : Nat) : List AV := cL (newC a b p) nx (List.replicate 2180 0#16)
def LB (a b : Nat) : List AV := zfill (bvs .u16 (List.replicate 768 0#16)) (2 ^ (a + b) * 768)
theorem LA_len (a b p nx : Nat) : (LA a b p nx).length = 2189 := by rw [LA, cL_len, List.length_replicate]
theorem LB_len (a b : Nat) : (LB a b).length = 2 ^ (a + b) * 768 := by rw [LB, zfill, List.length_map, List.length_range]
/-- all is filled -/
theorem NS.done {a b p n2 : Nat} {x : Mem} {A B : Nat → Prop} (Z : NS m nx (LA a b p nx) (LB a b) A B x n2) (hA : ∀ i, A i ↔ (8 ≤ i ∧ i < 2188)) (hB : ∀ i, B i ↔ i < 768 * 2 ^ (a + b)) : CoAt (nx + 1) nx (newC a b p) (newP a b) x := by
  obtain ⟨L, h1, h2, h3⟩ := Z.co
  obtain ⟨Q, h4, h5, h6⟩ := Z.li
  have e1 : L = cL (newC a b p) nx (pq (newP a b)) := by
    rw [newP_pq]
    have len2 : (cL (newC a b p) nx (List.replicate 2180 1024#16)).length = 2189 := by rw [cL_len, List.length_replicate]
    refine List.ext_getElem? fun i => ?_
    by_cases h : 8 ≤ i ∧ i < 2188
    · rw [(h3 i).1 ((hA i).2 h) (by rw [LA_len]; omega), cL, List.getElem?_append_right (by show 8 ≤ i; omega), List.getElem?_append_left (by rw [bvs_length, List.length_replicate]; show i - 8 < _; omega), bvsR, List.getElem?_replicate, if_pos (by show i - 8 < _; omega)]; rfl
    · rw [(h3 i).2 (fun x => h ((hA i).1 x)), LA]
      by_cases h8 : i < 8
      · rw [cL, cL, List.getElem?_append_left (by show i < 8; omega), List.getElem?_append_left (by show i < 8; omega)]
      · rw [cL_tail _ _ _ (by rw [List.length_replicate]) (by omega), cL_tail _ _ _ (by rw [List.length_replicate]) (by omega)]
  have e2 : Q = bvs .u16 ((newP a b).drop 2180) := by
    rw [newP, List.drop_replicate, bvsR, show 2180 + 768 * 2 ^ (a + b) - 2180 = 768 * 2 ^ (a + b) by omega]
    refine List.ext_getElem? fun i => ?_
    rw [List.getElem?_replicate]
    by_cases h : i < 768 * 2 ^ (a + b)
    · rw [(h6 i).1 ((hB i).2 h) (by rw [LB_len, Nat.mul_comm]; exact h), if_pos h]; rfl
    · rw [if_neg h, List.getElem?_eq_none]
      rw [h5, LB_len, Nat.mul_comm]; omega
  exact ⟨by rw [h1, e1], by rw [h4, e2], by omega, by rw [newP, List.length_replicate]; rfl⟩
set_option maxHeartbeats 16000000 in
theorem rnew (D : Rdm wr m nx) (lt : ∀ p ∈ m, p.1 < nx) (lc lp pb : Int) :
    CallG false Try.prog 38 [.int .i64 lc, .int .i64 lp, .int .i64 pb] wr m nx (fun v m' nx' => if mayB lc lp pb = true
      then v = .tup [.ptr (nx + 1) 0, .int .i64 0] ∧ Gr m nx m' nx' ∧ CoAt (nx + 1) nx (newC lc.toNat lp.toNat pb.toNat) (newP lc.toNat lp.toNat) m'
      else v = .tup [.nilp, .int .i64 1] ∧ m' = m ∧ nx' = nx) := by
  refine fn_okG Try.func38 rfl (by show 3 ≤ _; decide) ?_
  cases hm : mayB lc lp pb with
  | false =>
    have fin : Eng.Fin nx wr m nx (fun v m' nx' => v = .tup [.nilp, .int .i64 1] ∧ m' = m ∧ nx' = nx) (.tup [.nilp, .int .i64 1]) := Fin.keepW (m0 := m) (Nat.le_refl _) (memSame_slf D.nd) D.nd D.kp ⟨rfl, rfl, rfl⟩
    by_cases h0 : lc < 0
    · have c0 : decide (lc < 0) = true := decide_eq_true h0
      simp (maxSteps := 1000000) -implicitDefEqProofs only [go_sem, seval, -List.reduceReplicate, Try.results38, Try.ntmps38, c0]
      exact fin
    have c0 : decide (lc < 0) = false := decide_eq_false h0
    by_cases h1 : lp < 0
    · have c1 : decide (lp < 0) = true := decide_eq_true h1
      simp (maxSteps := 1000000) -implicitDefEqProofs only [go_sem, seval, -List.reduceReplicate, Try.results38, Try.ntmps38, c0, c1]
      exact fin
    have c1 : decide (lp < 0) = false := decide_eq_false h1
    by_cases h2 : pb < 0
    · have c2 : decide (pb < 0) = true := decide_eq_true h2
      simp (maxSteps := 1000000) -implicitDefEqProofs only [go_sem, seval, -List.reduceReplicate, Try.results38, Try.ntmps38, c0, c1, c2]
      exact fin
    have c2 : decide (pb < 0) = false := decide_eq_false h2
    by_cases h3 : IntKind.i64.wrap (lc + lp) > 4
    · have c3 : decide (IntKind.i64.wrap (lc + lp) > 4) = true := decide_eq_true h3
      simp (maxSteps := 1000000) -implicitDefEqProofs only [go_sem, seval, -List.reduceReplicate, Try.results38, Try.ntmps38, c0, c1, c2, c3]
      exact fin
    have c3 : decide (IntKind.i64.wrap (lc + lp) > 4) = false := decide_eq_false h3
    by_cases h4 : lc > 4
    · have c4 : decide (lc > 4) = true := decide_eq_true h4
      simp (maxSteps := 1000000) -implicitDefEqProofs only [go_sem, seval, -List.reduceReplicate, Try.results38, Try.ntmps38, c0, c1, c2, c3, c4]
      exact fin
    have c4 : decide (lc > 4) = false := decide_eq_false h4
    by_cases h5 : lp > 4
    · have c5 : decide (lp > 4) = true := decide_eq_true h5
      simp (maxSteps := 1000000) -implicitDefEqProofs only [go_sem, seval, -List.reduceReplicate, Try.results38, Try.ntmps38, c0, c1, c2, c3, c4, c5]
      exact fin
    have c5 : decide (lp > 4) = false := decide_eq_false h5
    by_cases h6 : pb > 4
    · have c6 : decide (pb > 4) = true := decide_eq_true h6
      simp (maxSteps := 1000000) -implicitDefEqProofs only [go_sem, seval, -List.reduceReplicate, Try.results38, Try.ntmps38, c0, c1, c2, c3, c4, c5, c6]
      exact fin
    have c6 : decide (pb > 4) = false := decide_eq_false h6
    have wa : IntKind.i64.wrap (lc + lp) = lc + lp := by rw [wrap_i64] <;> omega
    rw [wa] at h3
    have : mayB lc lp pb = true := by
      unfold mayB; simp only [Bool.and_eq_true, decide_eq_true_eq]; omega
    rw [this] at hm; cases hm
  | true =>
    have hb : 0 ≤ lc ∧ lc ≤ 4 ∧ 0 ≤ lp ∧ lp ≤ 4 ∧ lc + lp ≤ 4 ∧ 0 ≤ pb ∧ pb ≤ 4 := by
      unfold mayB at hm
      simp only [Bool.and_eq_true, decide_eq_true_eq] at hm
      omega
    obtain ⟨a, rfl⟩ := Int.eq_ofNat_of_zero_le hb.1
    obtain ⟨b, rfl⟩ := Int.eq_ofNat_of_zero_le hb.2.2.1
    obtain ⟨p, rfl⟩ := Int.eq_ofNat_of_zero_le hb.2.2.2.2.2.1
    have c1 : decide ((a : Int) < 0) = false := decide_eq_false (by omega)
    have c2 : decide ((b : Int) < 0) = false := decide_eq_false (by omega)
    have c3 : decide ((p : Int) < 0) = false := decide_eq_false (by omega)
    have c4 : decide ((a : Int) > 4) = false := decide_eq_false (by omega)
    have c5 : decide ((b : Int) > 4) = false := decide_eq_false (by omega)
    have c6 : decide ((p : Int) > 4) = false := decide_eq_false (by omega)
    have wa : IntKind.i64.wrap ((a : Int) + (b : Int)) = ((a + b : Nat) : Int) := by rw [wrap_i64] <;> omega
    have c7 : decide (((a + b : Nat) : Int) > 4) = false := decide_eq_false (by omega)
    have sK := shlP (a + b) (by omega)
    have hK : 2 ^ (a + b) ≤ 2 ^ 4 := Nat.pow_le_pow_right (by decide) (by omega)
    simp (maxSteps := 1000000) -implicitDefEqProofs only [go_sem, seval, -List.reduceReplicate, Try.results38, Try.ntmps38, c1, c2, c3, c4, c5, c6, c7, wa, sK, Int.toNat_natCast]
    refine ⟨⟨by omega, by omega, by omega⟩, ?_⟩
    refine ⟨LA a b p nx, by kernel_rfl, ?_⟩
    have Z0 : NS m nx (LA a b p nx) (LB a b) (fun _ => False) (fun j => j < 768 * 0) ((nx + 1, .cells (LA a b p nx) 151) :: (nx, .cells (LB a b) 153) :: m) (nx + 1 + 1) :=
      ⟨(Gr.cons D.nd lt _).trans (Gr.cons (Gr.cons D.nd lt _).nd (Gr.cons D.nd lt _).lt _), ⟨_, look_c0 _ _ _, .zero _⟩, ⟨_, look_c1 _ (by omega) (look_c0 _ _ _), (Filled.zero _).mono fun i => (⟨fun h => absurd (show i < 768 * 0 from h) (by omega), False.elim⟩ : (fun j => j < 768 * 0) i ↔ False)⟩⟩
    have la := LA_len a b p nx
    have lb := LB_len a b
    have lz : (LA a b p nx).getD 2188 .nils = .sl nx 0 (2 ^ (a + b)) (2 ^ (a + b)) := cLlit _ _ _ (by rw [List.length_replicate]) _
    have elb : zfill (bvs .u16 (List.replicate 768 0#16)) (2 ^ (a + b) * 768) = LB a b := rfl
    rw [elb]
    simp (maxSteps := 1000000) -implicitDefEqProofs only [go_sem, seval, -List.reduceReplicate, la, lz]
    have hQ : (List.replicate 2180 0#16).length = 2180 := List.length_replicate
    refine LoopOk.upX (fun i (x : Mem) => NS m nx (LA a b p nx) (LB a b) (fun _ => False) (fun j => j < 768 * i) x (nx + 1 + 1)) (2 ^ (a + b)) (fun i x => ([(59, .int .i64 (i : Nat)), (58, .int .i64 ((2 ^ (a + b) : Nat) : Int)), (8, .ptr (nx + 1) 0)], x, nx + 1 + 1)) _ Z0 ((Z0.g.rdm D).leN (by omega) ⟨rfl, rfl, rfl, trivial⟩) ?_
    rintro i x ⟨hi, Z⟩
    obtain ⟨L, hL, l1, l2⟩ := Z.lit hQ (fun h => h)
    have l2 : L.getD 2188 .nils = .sl nx 0 (2 ^ (a + b)) (2 ^ (a + b)) := l2
    have wi : IntKind.i64.wrap ((i : Int) + 1) = ((i + 1 : Nat) : Int) := by rw [wrap_i64] <;> omega
    rcases Nat.lt_or_ge i (2 ^ (a + b)) with h' | h'
    · have c8 : decide ((i : Int) < ((2 ^ (a + b) : Nat) : Int)) = true := decide_eq_true (by omega)
      simp (maxSteps := 1000000) -implicitDefEqProofs only [go_sem, seval, -List.reduceReplicate, c8, hL, l1, l2, wi]
      refine ⟨by omega, ?_⟩
      refine CallG.weak (Z.fillQ D lt (off := i * 768) (len := 768) (by rw [LB_len]; omega) (by decide) (B' := fun j => j < 768 * (i + 1)) (fun j => by show j < 768 * (i + 1) ↔ j < 768 * i ∨ _; omega)) ?_
      rintro v m' nx' ⟨rfl, rfl, Z', _⟩
      simp (maxSteps := 1000000) -implicitDefEqProofs only [go_sem, seval, -List.reduceReplicate, wi]
      exact UpX_normal h' _ Z' ((Z'.g.rdm D).leN (by omega) ⟨rfl, rfl, rfl, trivial⟩)
    have c8 : decide ((i : Int) < ((2 ^ (a + b) : Nat) : Int)) = false := decide_eq_false (by omega)
    have hiK : i = 2 ^ (a + b) := by omega
    simp (maxSteps := 1000000) -implicitDefEqProofs only [go_sem, seval, -List.reduceReplicate, c8]
    have hB : ∀ j, (fun j => j < 768 * i) j ↔ j < 768 * 2 ^ (a + b) := fun j => by rw [hiK]
    generalize (fun j => j < 768 * i) = B at *
    refine LoopOk.upX (fun i (x : Mem) => NS m nx (LA a b p nx) (LB a b) (fun j => (8 ≤ j ∧ j < 8 + 16 * i) ∨ (200 ≤ j ∧ j < 200 + 16 * i)) B x (nx + 1 + 1)) 12 (fun i x => ([(71, .int .i64 (i : Nat)), (8, .ptr (nx + 1) 0)], x, nx + 1 + 1)) x (Z.mono fun j => by simp only [false_or, iff_false]; omega) ((Z.g.rdm D).leN (by omega) ⟨rfl, rfl, trivial⟩) ?_
    rintro i x ⟨hi, Z⟩
    have wi : IntKind.i64.wrap ((i : Int) + 1) = ((i + 1 : Nat) : Int) := by rw [wrap_i64] <;> omega
    rcases Nat.lt_or_ge i 12 with h' | h'
    · have c9 : decide ((i : Int) < 12) = true := decide_eq_true (by omega)
      simp (maxSteps := 1000000) -implicitDefEqProofs only [go_sem, seval, -List.reduceReplicate, c9]
      refine ⟨by omega, ?_⟩
      refine CallG.weak (Z.fillC D lt (off := 8 + i * 16) (len := 16) (by rw [LA_len]; omega) (by decide) (A' := (fun j => (8 ≤ j ∧ j < 8 + 16 * (i + 1)) ∨ (200 ≤ j ∧ j < 200 + 16 * i))) (fun j => by show ((8 ≤ j ∧ j < 8 + 16 * (i + 1)) ∨ (200 ≤ j ∧ j < 200 + 16 * i)) ↔ ((8 ≤ j ∧ j < 8 + 16 * i) ∨ (200 ≤ j ∧ j < 200 + 16 * i)) ∨ _; omega)) ?_
      rintro v m' nx' ⟨rfl, rfl, Z', _⟩
      simp (maxSteps := 1000000) -implicitDefEqProofs only [go_sem, seval, -List.reduceReplicate, wi]
      refine ⟨by omega, ?_⟩
      refine CallG.weak (Z'.fillC D lt (off := 200 + i * 16) (len := 16) (by rw [LA_len]; omega) (by decide) (A' := (fun j => (8 ≤ j ∧ j < 8 + 16 * (i + 1)) ∨ (200 ≤ j ∧ j < 200 + 16 * (i + 1)))) (fun j => by show ((8 ≤ j ∧ j < 8 + 16 * (i + 1)) ∨ (200 ≤ j ∧ j < 200 + 16 * (i + 1))) ↔ ((8 ≤ j ∧ j < 8 + 16 * (i + 1)) ∨ (200 ≤ j ∧ j < 200 + 16 * i)) ∨ _; omega)) ?_
      rintro v m' nx' ⟨rfl, rfl, Z', _⟩
      simp (maxSteps := 1000000) -implicitDefEqProofs only [go_sem, seval, -List.reduceReplicate, wi]
      exact UpX_normal h' _ Z' ((Z'.g.rdm D).leN (by omega) ⟨rfl, rfl, trivial⟩)
    have c9 : decide ((i : Int) < 12) = false := decide_eq_false (by omega)
    have hi12 : i = 12 := by omega
    simp (maxSteps := 1000000) -implicitDefEqProofs only [go_sem, seval, -List.reduceReplicate, c9]
    refine ⟨Fx.mixed, .inl ⟨[(0, false), (1, false), (2, false), (3, false), (4, false), (5, false), (6, false), (7, false), (8, false), (9, false), (10, false), (11, false), (12, false), (13, false), (14, false), (15, false), (16, false), (17, false), (18, false), (19, false), (22, false), (20, true), (21, false)], [], by kernel_rfl, (fun j hj => by cases hj), ?_⟩⟩
    simp (maxSteps := 1000000) -implicitDefEqProofs only [go_sem, seval, -List.reduceReplicate]
    refine ⟨.inr trivial, ?_⟩
    have Z5 := Z.box D (by omega) (AObj.cells [AV.sl (nx + 1) 392 12 12, AV.sl (nx + 1) 404 12 12, AV.sl (nx + 1) 416 12 12, AV.sl (nx + 1) 428 12 12, AV.sl (nx + 1) 2172 16 16] 78)
    refine LoopOk.upX (fun i (x : Mem) => NS m nx (LA a b p nx) (LB a b) (fun j => ((8 ≤ j ∧ j < 392) ∨ (392 ≤ j ∧ j < 392 + 12 * min i 4) ∨ (i = 5 ∧ 2172 ≤ j ∧ j < 2188))) B x (nx + 1 + 1 + 1) ∧ Eng.look x (nx + 1 + 1) = some (AObj.cells [AV.sl (nx + 1) 392 12 12, AV.sl (nx + 1) 404 12 12, AV.sl (nx + 1) 416 12 12, AV.sl (nx + 1) 428 12 12, AV.sl (nx + 1) 2172 16 16] 78)) 5 (fun i x => ([(111, .int .i64 (i : Nat)), (110, .int .i64 5), (109, .sl (nx + 1 + 1) 0 5 5), (8, .ptr (nx + 1) 0)], x, nx + 1 + 1 + 1)) ((nx + 1 + 1, (AObj.cells [AV.sl (nx + 1) 392 12 12, AV.sl (nx + 1) 404 12 12, AV.sl (nx + 1) 416 12 12, AV.sl (nx + 1) 428 12 12, AV.sl (nx + 1) 2172 16 16] 78)) :: x) ⟨Z5.mono fun j => by subst hi12; show ((8 ≤ j ∧ j < 392) ∨ (392 ≤ j ∧ j < 392 + 12 * min 0 4) ∨ (0 = 5 ∧ 2172 ≤ j ∧ j < 2188)) ↔ ((8 ≤ j ∧ j < 8 + 16 * 12) ∨ (200 ≤ j ∧ j < 200 + 16 * 12)); omega, look_c0 _ _ _⟩ ((Z5.g.rdm D).leN (by omega) ⟨rfl, rfl, rfl, rfl, trivial⟩) ?_
    rintro i x ⟨hi, Z, hx5⟩
    have wi : IntKind.i64.wrap ((i : Int) + 1) = ((i + 1 : Nat) : Int) := by rw [wrap_i64] <;> omega
    rcases Nat.lt_or_ge i 5 with h' | h'
    · have c10 : decide ((i : Int) < 5) = true := decide_eq_true (by omega)
      obtain ⟨off, len, hS, ho⟩ : ∃ off len, [AV.sl (nx + 1) 392 12 12, AV.sl (nx + 1) 404 12 12, AV.sl (nx + 1) 416 12 12, AV.sl (nx + 1) 428 12 12, AV.sl (nx + 1) 2172 16 16].getD i .nils = .sl (nx + 1) off len len ∧ ((i < 4 ∧ off = 392 + 12 * i ∧ len = 12) ∨ (i = 4 ∧ off = 2172 ∧ len = 16)) := by
        rcases (show i = 0 ∨ i = 1 ∨ i = 2 ∨ i = 3 ∨ i = 4 by omega) with rfl | rfl | rfl | rfl | rfl
        · exact ⟨_, _, rfl, .inl ⟨by omega, rfl, rfl⟩⟩
        · exact ⟨_, _, rfl, .inl ⟨by omega, rfl, rfl⟩⟩
        · exact ⟨_, _, rfl, .inl ⟨by omega, rfl, rfl⟩⟩
        · exact ⟨_, _, rfl, .inl ⟨by omega, rfl, rfl⟩⟩
        · exact ⟨_, _, rfl, .inr ⟨by omega, rfl, rfl⟩⟩
      simp (maxSteps := 1000000) -implicitDefEqProofs only [go_sem, seval, -List.reduceReplicate, c10, hx5, hS, wi]
      refine ⟨by omega, by omega, ?_⟩
      refine CallG.weak (Z.fillC D lt (off := off) (len := len) (by rw [LA_len]; omega) (by omega) (A' := fun j => ((8 ≤ j ∧ j < 392) ∨ (392 ≤ j ∧ j < 392 + 12 * min (i + 1) 4) ∨ ((i + 1) = 5 ∧ 2172 ≤ j ∧ j < 2188))) (fun j => by show ((8 ≤ j ∧ j < 392) ∨ (392 ≤ j ∧ j < 392 + 12 * min (i + 1) 4) ∨ (i + 1 = 5 ∧ 2172 ≤ j ∧ j < 2188)) ↔ ((8 ≤ j ∧ j < 392) ∨ (392 ≤ j ∧ j < 392 + 12 * min i 4) ∨ (i = 5 ∧ 2172 ≤ j ∧ j < 2188)) ∨ _; omega)) ?_
      rintro v m' nx' ⟨rfl, rfl, Z', hk⟩
      simp (maxSteps := 1000000) -implicitDefEqProofs only [go_sem, seval, -List.reduceReplicate, wi]
      exact UpX_normal h' _ ⟨Z', hk _ _ (by omega) hx5⟩ ((Z'.g.rdm D).leN (by omega) ⟨rfl, rfl, rfl, rfl, trivial⟩)
    have c10 : decide ((i : Int) < 5) = false := decide_eq_false (by omega)
    have hi5 : i = 5 := by omega
    simp (maxSteps := 1000000) -implicitDefEqProofs only [go_sem, seval, -List.reduceReplicate, c10]
    refine LoopOk.upX (fun i (x : Mem) => NS m nx (LA a b p nx) (LB a b) (fun j => ((8 ≤ j ∧ j < 440) ∨ (2172 ≤ j ∧ j < 2188) ∨ (1468 ≤ j ∧ j < 1468 + 64 * i))) B x (nx + 1 + 1 + 1)) 4 (fun i x => ([(118, .int .i64 (i : Nat)), (8, .ptr (nx + 1) 0)], x, nx + 1 + 1 + 1)) x (Z.mono fun j => by subst hi5; show ((8 ≤ j ∧ j < 440) ∨ (2172 ≤ j ∧ j < 2188) ∨ (1468 ≤ j ∧ j < 1468 + 64 * 0)) ↔ ((8 ≤ j ∧ j < 392) ∨ (392 ≤ j ∧ j < 392 + 12 * min 5 4) ∨ (5 = 5 ∧ 2172 ≤ j ∧ j < 2188)); omega) ((Z.g.rdm D).leN (by omega) ⟨rfl, rfl, trivial⟩) ?_
    rintro i x ⟨hi, Z⟩
    have wi : IntKind.i64.wrap ((i : Int) + 1) = ((i + 1 : Nat) : Int) := by rw [wrap_i64] <;> omega
    rcases Nat.lt_or_ge i 4 with h' | h'
    · have c11 : decide ((i : Int) < 4) = true := decide_eq_true (by omega)
      simp (maxSteps := 1000000) -implicitDefEqProofs only [go_sem, seval, -List.reduceReplicate, c11]
      refine ⟨by omega, ?_⟩
      refine CallG.weak (Z.fillC D lt (off := 1468 + i * 64) (len := 64) (by rw [LA_len]; omega) (by omega) (A' := fun j => ((8 ≤ j ∧ j < 440) ∨ (2172 ≤ j ∧ j < 2188) ∨ (1468 ≤ j ∧ j < 1468 + 64 * (i + 1)))) (fun j => by show ((8 ≤ j ∧ j < 440) ∨ (2172 ≤ j ∧ j < 2188) ∨ (1468 ≤ j ∧ j < 1468 + 64 * (i + 1))) ↔ ((8 ≤ j ∧ j < 440) ∨ (2172 ≤ j ∧ j < 2188) ∨ (1468 ≤ j ∧ j < 1468 + 64 * i)) ∨ _; omega)) ?_
      rintro v m' nx' ⟨rfl, rfl, Z', hk⟩
      simp (maxSteps := 1000000) -implicitDefEqProofs only [go_sem, seval, -List.reduceReplicate, wi]
      exact UpX_normal h' _ Z' ((Z'.g.rdm D).leN (by omega) ⟨rfl, rfl, trivial⟩)
    have c11 : decide ((i : Int) < 4) = false := decide_eq_false (by omega)
    have hi4 : i = 4 := by omega
    simp (maxSteps := 1000000) -implicitDefEqProofs only [go_sem, seval, -List.reduceReplicate, c11]
    refine LoopOk.upX (fun i (x : Mem) => NS m nx (LA a b p nx) (LB a b) (fun j => ((8 ≤ j ∧ j < 440) ∨ (2172 ≤ j ∧ j < 2188) ∨ (1468 ≤ j ∧ j < 1724 + 32 * i))) B x (nx + 1 + 1 + 1)) 14 (fun i x => ([(129, .int .i64 (i : Nat)), (8, .ptr (nx + 1) 0)], x, nx + 1 + 1 + 1)) x (Z.mono fun j => by subst hi4; show ((8 ≤ j ∧ j < 440) ∨ (2172 ≤ j ∧ j < 2188) ∨ (1468 ≤ j ∧ j < 1724 + 32 * 0)) ↔ ((8 ≤ j ∧ j < 440) ∨ (2172 ≤ j ∧ j < 2188) ∨ (1468 ≤ j ∧ j < 1468 + 64 * 4)); omega) ((Z.g.rdm D).leN (by omega) ⟨rfl, rfl, trivial⟩) ?_
    rintro i x ⟨hi, Z⟩
    have wi : IntKind.i64.wrap ((i : Int) + 1) = ((i + 1 : Nat) : Int) := by rw [wrap_i64] <;> omega
    rcases Nat.lt_or_ge i 14 with h' | h'
    · have c12 : decide ((i : Int) < 14) = true := decide_eq_true (by omega)
      simp (maxSteps := 1000000) -implicitDefEqProofs only [go_sem, seval, -List.reduceReplicate, c12]
      refine ⟨by omega, ?_⟩
      refine CallG.weak (Z.fillC D lt (off := 1724 + i * 32) (len := 32) (by rw [LA_len]; omega) (by omega) (A' := fun j => ((8 ≤ j ∧ j < 440) ∨ (2172 ≤ j ∧ j < 2188) ∨ (1468 ≤ j ∧ j < 1724 + 32 * (i + 1)))) (fun j => by show ((8 ≤ j ∧ j < 440) ∨ (2172 ≤ j ∧ j < 2188) ∨ (1468 ≤ j ∧ j < 1724 + 32 * (i + 1))) ↔ ((8 ≤ j ∧ j < 440) ∨ (2172 ≤ j ∧ j < 2188) ∨ (1468 ≤ j ∧ j < 1724 + 32 * i)) ∨ _; omega)) ?_
      rintro v m' nx' ⟨rfl, rfl, Z', hk⟩
      simp (maxSteps := 1000000) -implicitDefEqProofs only [go_sem, seval, -List.reduceReplicate, wi]
      exact UpX_normal h' _ Z' ((Z'.g.rdm D).leN (by omega) ⟨rfl, rfl, trivial⟩)
    have c12 : decide ((i : Int) < 14) = false := decide_eq_false (by omega)
    have hi14 : i = 14 := by omega
    simp (maxSteps := 1000000) -implicitDefEqProofs only [go_sem, seval, -List.reduceReplicate, c12]
    refine CallG.weak (Z.lfillC D lt (off := 440) (by rw [LA_len]; omega)) ?_
    rintro v m' nx' ⟨rfl, rfl, Z', hk⟩
    simp (maxSteps := 1000000) -implicitDefEqProofs only [go_sem, seval, -List.reduceReplicate]
    refine CallG.weak (Z'.lfillC D lt (off := 954) (by rw [LA_len]; omega)) ?_
    rintro v m' nx' ⟨rfl, rfl, Z', hk⟩
    simp (maxSteps := 1000000) -implicitDefEqProofs only [go_sem, seval, -List.reduceReplicate]
    have hdone := Z'.done (fun j => by subst hi14; show (((8 ≤ j ∧ j < 440) ∨ (2172 ≤ j ∧ j < 2188) ∨ (1468 ≤ j ∧ j < 1724 + 32 * 14)) ∨ (440 ≤ j ∧ j < 440 + 514)) ∨ (954 ≤ j ∧ j < 954 + 514) ↔ _; omega) hB
    exact Fin.keepW (m0 := m') (Nat.le_trans (by omega) Z'.g.le) (memSame_slf Z'.g.nd) Z'.g.nd (Z'.g.rdm D).kp ⟨rfl, Z'.g, hdone⟩
end
end Go.Proofs.Ytmdeoikpiiambaa
end
section
/- The document's model: a coder is made. BRIEF -/
set_option linter.unusedVariables false
set_option linter.unusedSimpArgs false
set_option maxRecDepth 100000
namespace Go.Proofs.Ytmdeoikpiiambaa
open Go Go.Eng

/-- chances under way -/
def ChA (i : Nat) (V : AV) (M : Mem) (lo : Nat) : Prop := (i = 0 ∧ V = .nils) ∨ ∃ (q cap : Nat) (qs : List Value), V = .sl q 0 i cap ∧ Eng.look M q = some (.cells (bvs .u16 (List.replicate i 1024#16) ++ qs.map AV.val) 136) ∧ i + qs.length = cap ∧ cap ≤ maxI ∧ lo ≤ q
theorem ChA.facts {i : Nat} {V : AV} {M : Mem} {lo : Nat} (h : ChA i V M lo) : mapOf [V] = none ∧ one1 V = true ∧ isTup V = false ∧ acells V = [V] ∧ ∀ l off, stor l off V = l.set off V := by
  rcases h with ⟨_, rfl⟩ | ⟨q, cap, qs, rfl, _⟩ <;> exact ⟨rfl, rfl, rfl, rfl, fun _ _ => rfl⟩
section
variable {wr : Nat → Bool} {m : Mem} {nx : Nat}
theorem appk_ch {i : Nat} {V : AV} {M : Mem} {nxM lo : Nat} {K : Kv} (D : Rdm wr m nx) (lt : ∀ p ∈ m, p.1 < nx) (h : ChA i V M lo) (g : Gr m nx M nxM) (hlo : nx ≤ lo) (hlo2 : lo ≤ nxM) (hi : i ≤ 1000000)
    (hK : ∀ V' M' nx', ChA (i + 1) V' M' lo → Gr m nx M' nx' → nxM ≤ nx' → (∀ k, k < lo → Eng.look M' k = Eng.look M k) → K V' M' nx') :
    appk V ((nxM, .cells (bvs .u16 [1024#16]) 136) :: M) (nxM + 1) wr 136 1 2 (([1024#16] : List (BitVec 16)).length, bvs .u16 [1024#16]) K := by
  have gc := g.trans (Gr.cons g.nd g.lt (.cells (bvs .u16 [1024#16]) 136))
  rcases h with ⟨rfl, rfl⟩ | ⟨q, cap, qs, rfl, h1, h2, h3, h4⟩
  · refine appk_nils (k := .u16) (y := [1024#16]) (by decide) (by decide) (fun h => by cases h) fun _ cap' sp' c1 c2 => ?_
    refine hK _ _ _ (.inr ⟨nxM + 1, cap', sp', rfl, by rw [look_cons, if_pos rfl]; rfl, c1, c2, by omega⟩) (gc.trans (Gr.cons gc.nd gc.lt _)) (by omega) fun k hk => ?_
    rw [look_cons, if_neg (by omega), look_cons, if_neg (by omega)]
  · have hq := look_ltm g.lt h1
    have e0 : i = (List.replicate i 1024#16).length := List.length_replicate.symm
    have hln : (nxM, AObj.cells (bvs .u16 [1024#16]) 136) :: M = (nxM, AObj.cells (bvs .u16 [1024#16]) 136) :: M := rfl
    have main := appk_bvs (wr := wr) (m := (nxM, .cells (bvs .u16 [1024#16]) 136) :: M) (nx := nxM + 1) (K := K) (k := .u16) (x := List.replicate i 1024#16) (y := [1024#16]) (sp := qs) (n := q) (cap := cap) (e := 136) (bt := 2) (by rw [look_cons, if_neg (by omega)]; exact h1) (D.wn q (by omega)) (by rw [← e0]; exact h2) h3 (by decide) (by rw [← e0]; show (i + 1) * 2 ≤ _; omega) (fun cap2 sp2 d1 d2 => by
      have hdn : Eng.del ((nxM, AObj.cells (bvs .u16 [1024#16]) 136) :: M) q = (nxM, AObj.cells (bvs .u16 [1024#16]) 136) :: Eng.del M q := by
        show (if nxM = q then _ else _) = _
        rw [if_neg (by omega)]
      rw [hdn]
      have b1 := Gr.del lt g (show nx ≤ q by omega)
      have b2 := b1.trans (Gr.cons b1.nd b1.lt (.cells (bvs .u16 [1024#16]) 136))
      have er : List.replicate i 1024#16 ++ [1024#16] = List.replicate (i + 1) 1024#16 := List.replicate_succ'.symm
      rw [er] at d1 ⊢
      rw [List.length_replicate] at d1 ⊢
      refine hK _ _ _ (.inr ⟨nxM + 1, cap2, sp2, rfl, by rw [look_cons, if_pos rfl], d1, d2, by omega⟩) (b2.trans (Gr.cons b2.nd b2.lt _)) (by omega) fun k hk => ?_
      rw [look_cons, if_neg (by omega), look_cons, if_neg (by omega), look_del_other (by omega)])
    rw [← e0] at main
    exact main
set_option maxHeartbeats 2000000 in
theorem knew (D : Rdm wr m nx) (lt : ∀ p ∈ m, p.1 < nx) (lc lp pb : Nat) (h1 : lc + lp ≤ 4) (h2 : pb ≤ 4) :
    CallG false Try.prog 41 [.int .i64 (lc : Nat), .int .i64 (lp : Nat), .int .i64 (pb : Nat)] wr m nx (fun v m' nx' => v = .ptr (nx + 1) 0 ∧ Gr m nx m' nx' ∧ ∃ q qc qs, DoA (nx + 1) nx 4 q qc [] qs (newC lc lp pb) (newP lc lp) m' ∧ nx + 2 ≤ q) := by
  refine fn_okG Try.func41 rfl (by show 3 ≤ _; decide) ?_
  simp (maxSteps := 1000000) -implicitDefEqProofs only [go_sem, seval, -List.reduceReplicate, Try.results41, Try.ntmps41]
  refine ⟨.inr trivial, ?_⟩
  obtain ⟨N, hN⟩ : ∃ N, N = 2180 + 768 * 2 ^ (lc + lp) := ⟨_, rfl⟩
  have p16 : 2 ^ (lc + lp) ≤ 2 ^ 4 := Nat.pow_le_pow_right (by decide) h1
  have w1 : IntKind.i64.wrap ((lc : Int) + (lp : Int)) = ((lc + lp : Nat) : Int) := by rw [wrap_i64] <;> omega
  have w2 : IntKind.i64.wrap (768 * ((2 ^ (lc + lp) : Nat) : Int)) = ((768 * 2 ^ (lc + lp) : Nat) : Int) := by rw [wrap_i64] <;> omega
  have w3 : IntKind.i64.wrap (2180 + ((768 * 2 ^ (lc + lp) : Nat) : Int)) = (N : Int) := by rw [wrap_i64] <;> omega
  have G0 := Gr.cons D.nd lt (.cells (((((List.replicate 4 (AV.int IntKind.i64 0)).set 0 (AV.int IntKind.i64 1)).set 1 (AV.int IntKind.i64 1)).set 2 (AV.int IntKind.i64 1)).set 3 (AV.int IntKind.i64 1)) 3)
  have G1 := G0.trans (Gr.cons G0.nd G0.lt (.cells [AV.int IntKind.i64 (lc : Nat), AV.int IntKind.i64 (lp : Nat), AV.int IntKind.i64 (pb : Nat), AV.int IntKind.i64 0, AV.sl nx 0 4 4, AV.nils] 80))
  refine LoopOk.upX (fun i (x : AV × Mem × Nat) => Gr m nx x.2.1 x.2.2 ∧ ChA i x.1 x.2.1 (nx + 2) ∧ Eng.look x.2.1 nx = some (.cells [.int .i64 1, .int .i64 1, .int .i64 1, .int .i64 1] 3) ∧ Eng.look x.2.1 (nx + 1) = some (.cells [AV.int IntKind.i64 (lc : Nat), AV.int IntKind.i64 (lp : Nat), AV.int IntKind.i64 (pb : Nat), AV.int IntKind.i64 0, AV.sl nx 0 4 4, x.1] 80) ∧ nx + 2 ≤ x.2.2) N
    (fun i x => ([(8, .int .i64 (i : Nat)), (7, .ptr (nx + 1) 0), (0, .int .i64 (lc : Nat)), (1, .int .i64 (lp : Nat))], x.2.1, x.2.2)) (.nils, _, nx + 1 + 1) ⟨G1, .inl ⟨rfl, rfl⟩, by rw [look_cons, if_neg (by omega), look_cons, if_pos rfl]; rfl, by rw [look_cons, if_pos rfl], Nat.le_refl _⟩ ((G1.rdm D).leN G1.le ⟨rfl, rfl, rfl, rfl, trivial⟩) ?_
  rintro i ⟨V, M, nxM⟩ ⟨hi4, a1, a2, a3, a4, a5⟩
  have a1 : Gr m nx M nxM := a1
  have a2 : ChA i V M (nx + 2) := a2
  have a3 : Eng.look M nx = some (.cells [.int .i64 1, .int .i64 1, .int .i64 1, .int .i64 1] 3) := a3
  have a4 : Eng.look M (nx + 1) = some (.cells [AV.int IntKind.i64 (lc : Nat), AV.int IntKind.i64 (lp : Nat), AV.int IntKind.i64 (pb : Nat), AV.int IntKind.i64 0, AV.sl nx 0 4 4, V] 80) := a4
  have a5 : nx + 2 ≤ nxM := a5
  have wi : IntKind.i64.wrap ((i : Int) + 1) = ((i + 1 : Nat) : Int) := by rw [wrap_i64] <;> omega
  obtain ⟨q1, q2, q3, q4, q5⟩ := a2.facts
  rcases Nat.lt_or_ge i N with h' | h'
  · have c1 : decide ((i : Int) < (N : Int)) = true := decide_eq_true (by omega)
    simp (maxSteps := 1000000) -implicitDefEqProofs only [go_sem, seval, -List.reduceReplicate, w1]
    refine CallG.pk (ktwo (a1.rdm D) (lc + lp) (by omega)) ?_
    simp (maxSteps := 1000000) -implicitDefEqProofs only [go_sem, seval, -List.reduceReplicate, w1, w2, w3, c1, a4, q1, q2, q3, q4, q5]
    refine ⟨.inr trivial, rfl, rfl, ?_⟩
    refine appk_ch D lt a2 a1 (by omega) a5 (by omega) ?_
    intro V' M' nx' d1 d2 d3 d4
    obtain ⟨p1, p2, p3, p4, p5⟩ := d1.facts
    have b3 : Eng.look M' nx = some (.cells [.int .i64 1, .int .i64 1, .int .i64 1, .int .i64 1] 3) := by rw [d4 nx (by omega)]; exact a3
    have b4 : Eng.look M' (nx + 1) = some (.cells [AV.int IntKind.i64 (lc : Nat), AV.int IntKind.i64 (lp : Nat), AV.int IntKind.i64 (pb : Nat), AV.int IntKind.i64 0, AV.sl nx 0 4 4, V] 80) := by rw [d4 _ (by omega)]; exact a4
    have ww : wr (nx + 1) = true := D.wn _ (by omega)
    simp (maxSteps := 1000000) -implicitDefEqProofs only [go_sem, seval, -List.reduceReplicate, b4, ww, p1, p2, p3, p4, p5, wi]
    have g2 := Gr.updN D lt d2 (show nx ≤ nx + 1 by omega) (.cells [AV.int IntKind.i64 (lc : Nat), AV.int IntKind.i64 (lp : Nat), AV.int IntKind.i64 (pb : Nat), AV.int IntKind.i64 0, AV.sl nx 0 4 4, V'] 80)
    refine UpX_normal h' (V', _, nx') ⟨g2, ?_, by show Eng.look (Eng.upd M' (nx + 1) _) nx = _; rw [look_upd_other _ (by omega)]; exact b3, look_upd_same _ b4, by show nx + 2 ≤ nx'; omega⟩ ((g2.rdm D).leN g2.le ⟨rfl, rfl, rfl, rfl, trivial⟩)
    rcases d1 with z | ⟨q, cap, qs, e0, e1, e2, e3, e4⟩
    · exact .inl z
    · exact .inr ⟨q, cap, qs, e0, by rw [look_upd_other _ (by omega)]; exact e1, e2, e3, e4⟩
  · have hil : i = N := by omega
    have c1 : decide ((i : Int) < (N : Int)) = false := decide_eq_false (by omega)
    simp (maxSteps := 1000000) -implicitDefEqProofs only [go_sem, seval, -List.reduceReplicate, w1]
    refine CallG.pk (ktwo (a1.rdm D) (lc + lp) (by omega)) ?_
    simp (maxSteps := 1000000) -implicitDefEqProofs only [go_sem, seval, -List.reduceReplicate, w1, w2, w3, c1, a4, q1, q2, q3, q4, q5]
    rcases a2 with ⟨z, _⟩ | ⟨q, cap, qs, rfl, d1, d2, d3, d4⟩
    · omega
    have hl : (newP lc lp).length = i := by rw [newP, List.length_replicate]; omega
    have hD : DoA (nx + 1) nx 4 q cap [] qs (newC lc lp pb) (newP lc lp) M := ⟨by rw [hl]; exact a4, a3, by unfold newP; rw [← hN, ← hil]; exact d1, by omega, by omega, by omega, rfl, by decide, by rw [hl]; exact d2, d3, by rw [hl, hil, hN]; rfl⟩
    exact Fin.keepW (m0 := M) a1.le (memSame_slf a1.nd) a1.nd (a1.rdm D).kp ⟨rfl, a1, q, cap, qs, hD, d4⟩
end
end Go.Proofs.Ytmdeoikpiiambaa
end
section
/- The model's known rows, by reckoning. BRIEF -/
set_option linter.unusedVariables false
set_option linter.unusedSimpArgs false
set_option maxRecDepth 100000
namespace Go.Proofs.Ytmdeoikpiiambaa
open Go Go.Eng

def yA : Sy := ⟨0, 65#8, 0, 0, 0⟩
def yB : Sy := ⟨1, 0#8, 2, 1, 0⟩
def CA : MC := becC (newC 3 0 2) yA
theorem knlow : 5 ≤ (told rencM (cmds (symP CA [65#8] yB)).2 (told rencM (cmds (symP (newC 3 0 2) [] yA)).2 (newP 3 0) newR).1 (told rencM (cmds (symP (newC 3 0 2) [] yA)).2 (newP 3 0) newR).2).2.low.length := by decide +kernel
end Go.Proofs.Ytmdeoikpiiambaa
end
section
/- The model's statements: a coder of bits is made; repeats; the known rows. BRIEF -/
set_option linter.unusedVariables false
set_option linter.unusedSimpArgs false
set_option maxRecDepth 100000
namespace Go.Proofs.Ytmdeoikpiiambaa
open Go Go.Eng

section
variable {wr : Nat → Bool} {m : Mem} {nx : Nat}
theorem enewOk (D : Rdm wr m nx) (lt : ∀ p ∈ m, p.1 < nx) : CallG false Try.prog 40 [] wr m nx (fun v m' nx' => v = .ptr nx 0 ∧ m' = (nx, eO .nils newS) :: m ∧ nx' = nx + 1) := by
  refine fn_okG Try.func40 rfl (Nat.zero_le _) ?_
  have G1 := Gr.cons D.nd lt (eO .nils newS)
  simp (maxSteps := 1000000) -implicitDefEqProofs only [go_sem, seval, -List.reduceReplicate, Try.results40, Try.ntmps40]
  exact Fin.keepW (m0 := (nx, eO .nils newS) :: m) G1.le (memSame_slf G1.nd) G1.nd (G1.rdm D).kp ⟨rfl, rfl, rfl⟩
theorem encAt_new (m : Mem) (nx : Nat) : EncAt nx ((nx, eO .nils newS) :: m) newS [nx] := ⟨.nils, [], rfl, look_c0 _ _ _, .nil _, (fun e => by cases e), fun h => by cases h⟩
set_option maxHeartbeats 2000000 in
theorem kreps (D : Rdm wr m nx) (lt : ∀ p ∈ m, p.1 < nx) (C : MC) {r rc : Nat} {rs : List Value} (re : Eng.look m r = some (.cells (rpL C ++ rs.map AV.val) 3)) :
    CallG false Try.prog 49 [.agg (rpL C), .sl r 0 4 rc] wr m nx (fun v m' nx' => v = .bool true ∧ Gr m nx m' nx') := by
  refine fn_okG Try.func49 rfl (by show 2 ≤ _; decide) ?_
  have G1 := Gr.cons D.nd lt (.cells (rpL C) 82)
  have rl := look_ltm lt re
  have hrp : ∀ w, w < 4 → (rpL C ++ rs.map AV.val).getD w (.int .i64 0) = .int .i64 (repOf C w : Nat) := fun w h => by
    rcases (show w = 0 ∨ w = 1 ∨ w = 2 ∨ w = 3 by omega) with rfl | rfl | rfl | rfl <;> rfl
  have hrq : ∀ w, w < 4 → (rpL C).getD w (.int .i64 0) = .int .i64 (repOf C w : Nat) := fun w h => by
    rcases (show w = 0 ∨ w = 1 ∨ w = 2 ∨ w = 3 by omega) with rfl | rfl | rfl | rfl <;> rfl
  have hl : (rpL C ++ rs.map AV.val).length = rs.length + 4 := by rw [List.length_append, List.length_map, Nat.add_comm]; rfl
  have hl2 : (rpL C).length = 4 := rfl
  have t4 : List.take 4 (rpL C) = rpL C := rfl
  have fr : (nx = r) = False := eq_false (by omega)
  have f0 : decide (nx + 1 ≤ nx) = false := decide_eq_false (by omega)
  have f2 : decide (nx + 1 ≤ r) = false := decide_eq_false (by omega)
  generalize rpL C = L at *
  generalize L ++ rs.map AV.val = Lr at *
  simp (maxSteps := 1000000) -implicitDefEqProofs only [go_sem, seval, -List.reduceReplicate, Try.results49, Try.ntmps49, t4, hl2]
  refine LoopOk.upX (fun i (x : Unit) => True) 4 (fun i x => ([(5, .int .i64 (i : Nat)), (4, .bool false), (2, .ptr nx 0), (1, .sl r 0 4 rc)], (nx, .cells L 82) :: m, nx + 1)) () trivial ((G1.rdm D).leN G1.le ⟨rfl, rfl, rfl, rfl, trivial⟩) ?_
  rintro i ⟨⟩ ⟨hi, _⟩
  rcases Nat.lt_or_ge i 4 with h | h
  · have c1 : decide ((i : Int) < 4) = true := decide_eq_true (by omega)
    have wi : IntKind.i64.wrap ((i : Int) + 1) = ((i + 1 : Nat) : Int) := by rw [wrap_i64] <;> omega
    have e1 := hrp i h
    have e2 := hrq i h
    simp (maxSteps := 1000000) -implicitDefEqProofs only [go_sem, seval, -List.reduceReplicate, c1]
    refine ⟨Fx.mixed, .inl ⟨[(0, false), (1, false), (2, false), (3, false), (4, false), (5, false), (6, false), (7, false)], [], by kernel_rfl, (fun j hj => by cases hj), ?_⟩⟩
    simp (maxSteps := 1000000) -implicitDefEqProofs only [go_sem, seval, -List.reduceReplicate, c1, e1, e2, hl, hl2, re, fr, f0, f2, wi]
    exact ⟨by omega, by omega, by omega, by omega, UpX_normal h () trivial ((G1.rdm D).leN G1.le ⟨rfl, rfl, rfl, rfl, trivial⟩)⟩
  · have hi4 : i = 4 := by omega
    have c1 : decide ((i : Int) < 4) = false := decide_eq_false (by omega)
    simp (maxSteps := 1000000) -implicitDefEqProofs only [go_sem, seval, -List.reduceReplicate, c1]
    exact Fin.keepW (m0 := (nx, .cells L 82) :: m) G1.le (memSame_slf G1.nd) G1.nd (G1.rdm D).kp ⟨rfl, G1⟩
end
theorem CoAt.mok (lc lp pb : Nat) (h1 : lc + lp ≤ 4) (h2 : pb ≤ 4) : MCok (newC lc lp pb) := by
  have h : 1 ≤ 1 ∧ 1 < 1099511627776 := by decide
  exact ⟨h1, h2, (show 0 < 12 by decide), h, h, h, h⟩
section
variable {wr : Nat → Bool} {m : Mem} {nx : Nat}
theorem rnewY (D : Rdm wr m nx) (lt : ∀ p ∈ m, p.1 < nx) (lc lp pb : Int) (h : mayB lc lp pb = true) :
    CallG false Try.prog 38 [.int .i64 lc, .int .i64 lp, .int .i64 pb] wr m nx (fun v m' nx' => v = .tup [.ptr (nx + 1) 0, .int .i64 0] ∧ Gr m nx m' nx' ∧ CoAt (nx + 1) nx (newC lc.toNat lp.toNat pb.toNat) (newP lc.toNat lp.toNat) m') :=
  (rnew D lt lc lp pb).weak fun v m' nx' hr => by rw [if_pos h] at hr; exact hr
theorem rnewN (D : Rdm wr m nx) (lt : ∀ p ∈ m, p.1 < nx) (lc lp pb : Int) (h : mayB lc lp pb = false) :
    CallG false Try.prog 38 [.int .i64 lc, .int .i64 lp, .int .i64 pb] wr m nx (fun v m' nx' => v = .tup [.nilp, .int .i64 1] ∧ m' = m ∧ nx' = nx) :=
  (rnew D lt lc lp pb).weak fun v m' nx' hr => by rw [if_neg (by rw [h]; decide)] at hr; exact hr
variable {a c q : Nat} {hv : AV} {h : List (BitVec 8)} {hs : List Nat} {C : MC} {P : List (BitVec 16)} {e : ES} {ns : List Nat}
theorem rputY (D : Rdm wr m nx) (lt : ∀ p ∈ m, p.1 < nx) (S : MS (encIo a) c q hv h hs C P e ns m) (hC : MCok C) (hh : h.length ≤ 100000000) (hw : ∀ k ∈ c :: q :: ns, wr k = true) (hb : encB e 24) (y : Sy) (hf : fitsB C h.length y = true) :
    CallG false Try.prog 43 [.ptr c 0, .ptr a 0, hv, .agg (syL y)] wr m nx (MK (encIo a) c q hv h hs (becC C y) (.int .i64 0) (run encM (symP C h y) P e).2.1 (run encM (symP C h y) P e).2.2 ns m nx) :=
  (rput D lt S hC hh hw hb y).weak fun v m' nx' hr => by
    rw [if_pos hf] at hr
    have e1 : (run encM (symP C h y) P e).1.2 = becC C y := by rw [run_enc encE, symP_val _ _ _ hf]
    have key : ∀ C', C' = becC C y → MK (encIo a) c q hv h hs C' (.int .i64 0) (run encM (symP C h y) P e).2.1 (run encM (symP C h y) P e).2.2 ns m nx v m' nx' → MK (encIo a) c q hv h hs (becC C y) (.int .i64 0) (run encM (symP C h y) P e).2.1 (run encM (symP C h y) P e).2.2 ns m nx v m' nx' := fun _ e h => e ▸ h
    exact key _ e1 hr
theorem rputN (D : Rdm wr m nx) (lt : ∀ p ∈ m, p.1 < nx) (S : MS (encIo a) c q hv h hs C P e ns m) (hC : MCok C) (hh : h.length ≤ 100000000) (hw : ∀ k ∈ c :: q :: ns, wr k = true) (hb : encB e 24) (y : Sy) (hf : fitsB C h.length y = false) :
    CallG false Try.prog 43 [.ptr c 0, .ptr a 0, hv, .agg (syL y)] wr m nx (MK (encIo a) c q hv h hs C (.int .i64 1) P e ns m nx) :=
  (rput D lt S hC hh hw hb y).weak fun v m' nx' hr => by
    rw [if_neg (by rw [hf]; decide)] at hr
    exact hr
/-- both coders behind a symbol -/
theorem put_rel {s : RS} (hr : RelE e s) (y : Sy) {j : Nat} (hb : encB e (j + 24)) (hb2 : rencB s (j + 24)) : (run encM (symP C h y) P e).2.1 = (told rencM (cmds (symP C h y)).2 P s).1 ∧ RelE (run encM (symP C h y) P e).2.2 (told rencM (cmds (symP C h y)).2 P s).2 ∧ encB (run encM (symP C h y) P e).2.2 j ∧ rencB (told rencM (cmds (symP C h y)).2 P s).2 j := by
  obtain ⟨r1, r2, r3⟩ := run_rel 24 (symP C h y) P e s (symP_le _ _ _) hr
  have hb' := encBud.run 24 j (symP C h y) P e (symP_le _ _ _) hb
  have hb2' := rencBud.run 24 j (symP C h y) P s (symP_le _ _ _) hb2
  rw [run_enc rencE] at r2 r3 hb2'
  exact ⟨r2, r3, hb', hb2'⟩
end
theorem syA : AV.agg [.int .i64 0, .int .u8 65, .int .i64 0, .int .i64 0, .int .i64 0] = .agg (syL yA) := rfl
theorem syB : AV.agg [.int .i64 1, .int .u8 0, .int .i64 2, .int .i64 1, .int .i64 0] = .agg (syL yB) := rfl
theorem encB_new (k : Nat) (h : k ≤ 9000) : encB newS k := ⟨by decide, by show 0 + 0 + 100 * k ≤ 900000; omega⟩
theorem rencB_new (k : Nat) (h : k ≤ 8999) : rencB newR k := ⟨by decide, by decide, by show 4 + 100 * k ≤ 900000; omega⟩
theorem ones : aggLits Try.prog 82 [.int .i64 1, .int .i64 1, .int .i64 1, .int .i64 1] = some [Lit.int .i64 1, Lit.int .i64 1, Lit.int .i64 1, Lit.int .i64 1] := by kernel_rfl
theorem onesS : ((((List.replicate 4 (AV.int IntKind.i64 0)).set 0 (AV.int IntKind.i64 1)).set 1 (AV.int IntKind.i64 1)).set 2 (AV.int IntKind.i64 1)).set 3 (AV.int IntKind.i64 1) = [.int .i64 1, .int .i64 1, .int .i64 1, .int .i64 1] := rfl
set_option maxHeartbeats 4000000 in
theorem knows07 : CallG false Try.prog 37 [] (fun _ => true) [] 0 (fun v m nx => v = .bool true ∧ m = [] ∧ nx = 0) := by
  refine fn_okG Try.func37 rfl (Nat.zero_le _) ?_
  have t5 : ∀ a b d e f : AV, List.take 5 [a, b, d, e, f] = [a, b, d, e, f] := fun _ _ _ _ _ => rfl
  have D : Rdm (fun _ => true) ([] : Mem) 0 := rdmT nd0
  have n1 := rnewY D lt0 3 0 2 (by decide)
  simp (maxSteps := 1000000) -implicitDefEqProofs only [go_sem, seval, -List.reduceReplicate, Try.results37, Try.ntmps37]
  refine CallG.weak n1 ?_
  rintro v m1 nx1 ⟨rfl, g1, co1⟩
  have D1 := g1.rdm D
  have n2 := rnewN D1 g1.lt 4 1 0 (by decide)
  simp (maxSteps := 1000000) -implicitDefEqProofs only [go_sem, seval, -List.reduceReplicate]
  refine CallG.weak n2 ?_
  rintro v m2 nx2 ⟨rfl, rfl, rfl⟩
  simp (maxSteps := 1000000) -implicitDefEqProofs only [go_sem, seval, -List.reduceReplicate]
  refine CallG.weak (enewOk D1 g1.lt) ?_
  rintro v mB nB ⟨rfl, rfl, rfl⟩
  have g2 := g1.trans (Gr.cons g1.nd g1.lt (eO .nils newS))
  have D2 := g2.rdm D
  have co1 : CoAt 1 0 (newC 3 0 2) (newP 3 0) m2 := co1
  have cl := look_ltm g1.lt co1.co
  have ql := look_ltm g1.lt co1.li
  have co2 := co1.ext (m' := (nx2, eO .nils newS) :: m2) (fun o h => (Gr.cons g1.nd g1.lt (eO .nils newS)).kp _ _ h) (fun o h => (Gr.cons g1.nd g1.lt (eO .nils newS)).kp _ _ h)
  have S0 : MS (encIo nx2) 1 0 .nils [] [] (newC 3 0 2) (newP 3 0) newS [nx2] ((nx2, eO .nils newS) :: m2) := ⟨co2, encAt_new m2 nx2, .nil _, (fun h => by cases List.mem_singleton.1 h; omega), (fun h => by cases List.mem_singleton.1 h; omega), (fun h => by cases h), (fun h => by cases h), fun k h => by cases h⟩
  have hC0 : MCok (newC 3 0 2) := CoAt.mok 3 0 2 (by decide) (by decide)
  have p1 := rputY D2 g2.lt S0 hC0 (by decide) (fun _ _ => rfl) (encB_new 24 (by decide)) yA (by decide)
  simp (maxSteps := 1000000) -implicitDefEqProofs only [go_sem, seval, -List.reduceReplicate, t5, syA]
  refine CallG.weak p1 ?_
  rintro v m3 nx3 ⟨rfl, fr3, ns3, S3, hn3⟩
  obtain ⟨r1, r2, b1, b2⟩ := put_rel (C := newC 3 0 2) (h := []) (P := newP 3 0) newRel yA (j := 24) (encB_new 48 (by decide)) (rencB_new 48 (by decide))
  have kl := knlow
  generalize told rencM (cmds (symP (newC 3 0 2) [] yA)).2 (newP 3 0) newR = z at *
  obtain ⟨P3, s3⟩ := z
  generalize (run encM (symP (newC 3 0 2) [] yA) (newP 3 0) newS).2.1 = P3' at *
  generalize (run encM (symP (newC 3 0 2) [] yA) (newP 3 0) newS).2.2 = e3 at *
  have r1 : P3' = P3 := r1
  subst r1
  have D3 := fr3.rdm D2 (fun _ _ => rfl)
  simp (maxSteps := 1000000) -implicitDefEqProofs only [go_sem, seval, -List.reduceReplicate, t5, syB]
  refine ⟨.inr trivial, ?_⟩
  have g4 := Gr.cons D3.nd fr3.lt (.cells ((bvs IntKind.u8 (List.replicate 1 0#8)).set 0 (AV.int IntKind.u8 65)) 5)
  have S3' := S3.gr g4
  have D4 := g4.rdm D3
  have cl3 := look_ltm fr3.lt S3.co.co
  have ql3 := look_ltm fr3.lt S3.co.li
  have S4 : MS (encIo nx2) 1 0 (.sl nx3 0 1 1) [65#8] [nx3] CA P3' e3 ns3 ((nx3, .cells ((bvs IntKind.u8 (List.replicate 1 0#8)).set 0 (AV.int IntKind.u8 65)) 5) :: m3) := ⟨S3'.co, S3'.io, .row (X := [65#8]) (sp := []) rfl (look_c0 _ _ _) rfl (by decide) rfl, S3'.nc, S3'.nq, (fun h => by cases List.mem_singleton.1 h; omega), (fun h => by cases List.mem_singleton.1 h; omega), fun k h hm => by
    cases List.mem_singleton.1 h
    obtain ⟨o, ho⟩ := (encIo nx2).live S3.io nx3 hm
    have := look_ltm fr3.lt ho
    omega⟩
  have hCA : MCok CA := by
    have h : 1 ≤ 1 ∧ 1 < 1099511627776 := by decide
    exact ⟨(by decide : 3 + 0 ≤ 4), (by decide : 2 ≤ 4), (by decide : 0 < 12), h, h, h, h⟩
  have p2 := rputY D4 g4.lt S4 hCA (by decide) (fun _ _ => rfl) b1 yB (by decide)
  refine CallG.weak p2 ?_
  rintro v m5 nx5 ⟨rfl, fr5, ns5, S5, hn5⟩
  obtain ⟨r3, r4, b3, b4⟩ := put_rel (C := CA) (h := [65#8]) (P := P3') r2 yB (j := 0) b1 b2
  have kl : 5 ≤ (told rencM (cmds (symP CA [65#8] yB)).2 P3' s3).2.low.length := kl
  generalize told rencM (cmds (symP CA [65#8] yB)).2 P3' s3 = z at *
  obtain ⟨P5, s5⟩ := z
  generalize (run encM (symP CA [65#8] yB) P3' e3).2.1 = P5' at *
  generalize (run encM (symP CA [65#8] yB) P3' e3).2.2 = e5 at *
  have D5 := fr5.rdm D4 (fun _ _ => rfl)
  have hst : CallG false Try.prog 48 [.ptr 1 0] (fun _ => true) m5 nx5 (PK (.int .i64 7) m5 nx5) := rstate D5 S5.co
  have hrp : CallG false Try.prog 50 [.ptr 1 0] (fun _ => true) m5 nx5 (fun v m' nx' => v = .agg [.int .i64 1, .int .i64 1, .int .i64 1, .int .i64 1] ∧ Gr m5 nx5 m' nx') := rrepeats D5 fr5.lt S5.co
  have hbl : (bytE e5).length = s5.low.length + 1 := by rw [bytE_eq r4.1 (by have := b3.1; omega)]; rfl
  have kl : 5 ≤ s5.low.length := kl
  simp (maxSteps := 1000000) -implicitDefEqProofs only [go_sem, seval, -List.reduceReplicate, t5]
  refine CallG.pk hst ?_
  simp (maxSteps := 1000000) -implicitDefEqProofs only [go_sem, seval, -List.reduceReplicate, t5]
  refine CallG.weak hrp ?_
  rintro v m6 nx6 ⟨rfl, g6⟩
  have D6 := g6.rdm D5
  have S6 := S5.gr g6
  have hby := bytEOk D6 g6.lt (show EncAt nx2 m6 e5 ns5 from S6.io) (by have := b3.2; omega)
  simp (maxSteps := 1000000) -implicitDefEqProofs only [go_sem, seval, -List.reduceReplicate, t5, onesS, ones, litEq_self]
  refine CallG.weak hby ?_
  rintro v m7 nx7 ⟨ns7, b7, _, _, g7⟩
  have q6 := b7.len Try.prog 22
  obtain ⟨q1, q2, q3, q4, q5⟩ := b7.facts
  have c1 : decide (((bytE e5).length : Int) > 5) = true := decide_eq_true (by omega)
  simp (maxSteps := 1000000) -implicitDefEqProofs only [go_sem, seval, -List.reduceReplicate, t5, q1, q2, q3, q4, q5, q6, c1]
  exact Fin.flatv (fun _ => rfl) (fun _ => rfl) ⟨rfl, rfl, rfl⟩
theorem kn07 {fz : Bool} {wr : Nat → Bool} {m : Mem} {nx : Nat} {K : Kv} (h : K (.bool true) m nx) : CallG fz Try.prog 37 [] wr m nx K := knows07.flat0 trivial (fun _ => rfl) rfl h
end Go.Proofs.Ytmdeoikpiiambaa
end
section
/- The model's statements: rows of symbols, what is under way. BRIEF -/
set_option linter.unusedVariables false
set_option linter.unusedSimpArgs false
set_option maxRecDepth 100000
namespace Go.Proofs.Ytmdeoikpiiambaa
open Go Go.Eng

def syZ : Sy := ⟨0, 0#8, 0, 0, 0⟩
def sys (L : List Sy) : List AV := L.flatMap syL
theorem sys_len : ∀ L : List Sy, (sys L).length = L.length * 5
  | [] => rfl
  | y :: L => by
    show (syL y ++ sys L).length = _
    rw [List.length_append, sys_len L, List.length_cons]; show 5 + _ = _; omega
theorem sys_flat : ∀ L : List Sy, (sys L).all flat = true
  | [] => rfl
  | y :: L => by
    show (syL y ++ sys L).all flat = true
    rw [List.all_append, sys_flat L]; rfl
theorem sys_take (L : List Sy) : ∀ (i : Nat), i < L.length → List.take 5 (List.drop (i * 5) (sys L)) = syL (L.getD i syZ) := by
  induction L with
  | nil => intro i h; cases h
  | cons r t ih =>
    intro i h
    cases i with
    | zero => rfl
    | succ i =>
      rw [show (i + 1) * 5 = i * 5 + 1 + 1 + 1 + 1 + 1 by omega]
      exact ih i (by rw [List.length_cons] at h; omega)
abbrev SyE := Int × BitVec 8 × Int × Int × Int × Unit
def syC (p : SyE) : List AV := [.int .i64 p.1, .int .u8 (p.2.1.toNat : Int), .int .i64 p.2.2.1, .int .i64 p.2.2.2.1, .int .i64 p.2.2.2.2.1]
def syE (L : List SyE) : List Sy := L.map fun p => ⟨p.1, p.2.1, p.2.2.1, p.2.2.2.1, p.2.2.2.2.1⟩
theorem syE_sys : ∀ L : List SyE, L.flatMap syC = sys (syE L)
  | [] => rfl
  | p :: L => by
    show syC p ++ L.flatMap syC = _
    rw [syE_sys L]; rfl
theorem syE_len (L : List SyE) : (syE L).length = L.length := List.length_map _
theorem elS : elemT Try.prog 58 = some 71 := by kernel_rfl
theorem szS : sizeT Try.prog 71 = some 5 := by kernel_rfl
theorem knS : known Try.prog 71 = true := by kernel_rfl
theorem agS : aggT Try.prog 71 = true := by kernel_rfl
theorem sysA (L : List Sy) (m : Mem) : SlA 71 5 m (.ro L.length (sys L)) L.length (sys L) [] := .ro _ _ (sys_len L) (sys_flat L)
theorem sys_el (L : List Sy) (m : Mem) (i : Nat) (h : i < L.length) : ∃ p, (∀ q : AV → Prop, q p → idxx Try.prog 58 (.ro L.length (sys L)) (.int .i64 (i : Nat)) q) ∧ (∀ (rd : Nat → Bool) (M : Mem) (q : AV → Prop), q (.agg (syL (L.getD i syZ))) → loadx Try.prog rd M 71 p q) := by
  refine ⟨.rop ((sys L).drop (i * 5)), fun q hq => ?_, fun rd M q hq => ?_⟩
  · rw [idxx_ro, elS, Asks_some, szS, Asks_some]
    refine ⟨⟨by omega, by omega⟩, ?_, ?_⟩
    · show i * 5 < _; rw [sys_len]; omega
    · exact hq
  · rw [loadx_rop, agS, pickx_true, szS, Asks_some]
    refine ⟨knS, by rw [List.length_drop, sys_len]; omega, ?_⟩
    rw [List.drop_zero, sys_take L i h]; exact hq
theorem MS.frm {I : IoS} {c q : Nat} {hv : AV} {h : List (BitVec 8)} {hs : List Nat} {C : MC} {P : List (BitVec 16)} {s : I.σ} {ns nd : List Nat} {m m' : Mem} {nx nx' : Nat} (S : MS I c q hv h hs C P s ns m) (f : Fr nd m nx m' nx') (h1 : c ∉ nd) (h2 : q ∉ nd) (h3 : ∀ k ∈ ns, k ∉ nd) (h4 : ∀ k ∈ hs, k ∉ nd) : MS I c q hv h hs C P s ns m' :=
  ⟨S.co.ext (fun o => f.kp _ _ h1) (fun o => f.kp _ _ h2), I.ext S.io fun k hk o ho => f.kp k o (h3 k hk) ho, S.hi.ext fun k hk o ho => f.kp k o (h4 k hk) ho, S.nc, S.nq, S.hc, S.hq, S.hn⟩
theorem KA.frm {c a : Nat} {C : MC} {m m' : Mem} {nx nx' : Nat} {x : List (BitVec 16) × RS} {ns nd : List Nat} (H : KA c a C m x nd) (f : Fr ns m nx m' nx') (h1 : ∀ k ∈ nd, k ∉ ns) : KA c a C m' x nd := by
  obtain ⟨r, rc, q, qc, rs, qs, ne, rfl, hd, he, h⟩ := H
  refine ⟨r, rc, q, qc, rs, qs, ne, rfl, hd.ext fun k hk o ho => f.kp k o (h1 k ?_) ho, he.ext fun k hk o ho => f.kp k o (h1 k (.tail _ (.tail _ (.tail _ hk)))) ho, h⟩
  rcases hk with rfl | rfl | rfl
  · exact .head _
  · exact .tail _ (.head _)
  · exact .tail _ (.tail _ (.head _))
/-- another history -/
theorem MS.his {I : IoS} {c q : Nat} {hv hv' : AV} {h h' : List (BitVec 8)} {hs hs' : List Nat} {C : MC} {P : List (BitVec 16)} {s : I.σ} {ns : List Nat} {m : Mem} (S : MS I c q hv h hs C P s ns m) (hi : ByAt 5 m hv' h' hs') (h1 : c ∉ hs') (h2 : q ∉ hs') (h3 : ∀ k ∈ hs', k ∉ ns) : MS I c q hv' h' hs' C P s ns m :=
  ⟨S.co, S.io, hi, S.nc, S.nq, h1, h2, h3⟩
theorem MS.live {I : IoS} {c q : Nat} {hv : AV} {h : List (BitVec 8)} {hs : List Nat} {C : MC} {P : List (BitVec 16)} {s : I.σ} {ns : List Nat} {m : Mem} {nx : Nat} (S : MS I c q hv h hs C P s ns m) (lt : ∀ p ∈ m, p.1 < nx) : c < nx ∧ q < nx ∧ (∀ k ∈ ns, k < nx) ∧ ∀ k ∈ hs, k < nx :=
  ⟨look_ltm lt S.co.co, look_ltm lt S.co.li, fun k hk => (by obtain ⟨o, ho⟩ := I.live S.io k hk; exact look_ltm lt ho), S.hi.lt lt⟩
theorem becC_ok {C : MC} (hC : MCok C) {n : Nat} {y : Sy} (hf : fitsB C n y = true) (hn : n ≤ 1000000) : MCok (becC C y) ∧ (becC C y).lc = C.lc ∧ (becC C y).lp = C.lp ∧ (becC C y).pb = C.pb := by
  have hr := fun j => repOf_ok hC j
  have hfr : ∀ place d, 1 ≤ d → d < 1099511627776 → MCok (front C place d) := fun place d h1 h2 => by
    unfold front
    split
    · exact ⟨hC.lc, hC.pb, hC.st, ⟨h1, h2⟩, hC.r1, hC.r2, hC.r3⟩
    · split
      · exact ⟨hC.lc, hC.pb, hC.st, ⟨h1, h2⟩, hC.r0, hC.r2, hC.r3⟩
      · split
        · exact ⟨hC.lc, hC.pb, hC.st, ⟨h1, h2⟩, hC.r0, hC.r1, hC.r3⟩
        · exact ⟨hC.lc, hC.pb, hC.st, ⟨h1, h2⟩, hC.r0, hC.r1, hC.r2⟩
  have hgo : ∀ (C' : MC) (l u : Nat), MCok C' → l < 12 → u < 12 → MCok (go1 C' l u) := fun C' l u h h1 h2 => ⟨h.lc, h.pb, by show (if _ then l else u) < 12; split <;> assumption, h.r0, h.r1, h.r2, h.r3⟩
  have kf := fun p d => front_kinds C p d
  rcases fitsB_kind hf with h | ⟨h, h1⟩ | ⟨h, h1⟩
  · have e : becC C y = litGo C := by unfold becC; rw [if_pos h]
    rw [e]
    refine ⟨⟨hC.lc, hC.pb, ?_, hC.r0, hC.r1, hC.r2, hC.r3⟩, rfl, rfl, rfl⟩
    have := hC.st
    show (if C.st < 4 then 0 else if C.st < 10 then C.st - 3 else C.st - 6) < 12
    split
    · omega
    · split <;> omega
  · have e : becC C y = go1 (front C 3 y.d.toNat) 7 10 := by unfold becC; rw [if_neg (by omega), if_pos h]
    have hd := hf
    unfold fitsB at hd
    rw [if_neg (by omega), if_pos h] at hd
    simp only [Bool.and_eq_true, decide_eq_true_eq] at hd
    rw [e]
    exact ⟨hgo _ _ _ (hfr _ _ (by omega) (by omega)) (by decide) (by decide), (kf 3 y.d.toNat).1, (kf 3 y.d.toNat).2.1, (kf 3 y.d.toNat).2.2.1⟩
  · have e : ∃ l u, l < 12 ∧ u < 12 ∧ becC C y = go1 (front C y.r.toNat (repOf C y.r.toNat)) l u := by
      unfold becC
      rw [if_neg (by omega), if_neg (by omega)]
      split
      · exact ⟨9, 11, by decide, by decide, rfl⟩
      · exact ⟨8, 11, by decide, by decide, rfl⟩
    obtain ⟨l, u, g1, g2, e⟩ := e
    rw [e]
    exact ⟨hgo _ _ _ (hfr _ _ (hr _).1 (hr _).2) g1 g2, (kf _ _).1, (kf _ _).2.1, (kf _ _).2.2.1⟩
/-- how far back, as a number -/
def distN (C : MC) (y : Sy) : Nat := (distS C y).toNat
theorem distN_eq {C : MC} (hC : MCok C) {n : Nat} {y : Sy} (hf : fitsB C n y = true) : distS C y = (distN C y : Int) ∧ (y.k = 0 ∨ (0 ≤ y.l ∧ y.l ≤ 273 ∧ 1 ≤ distN C y ∧ distN C y ≤ n)) ∧ (y.k = 2 → 0 ≤ y.r ∧ y.r < 4) := by
  unfold distN
  unfold fitsB at hf
  by_cases h0 : y.k = 0
  · refine ⟨?_, .inl h0, fun h => by omega⟩
    unfold distS; rw [if_neg (by omega), if_neg (by omega)]; rfl
  rw [if_neg h0] at hf
  by_cases h1 : y.k = 1
  · rw [if_pos h1] at hf
    simp only [Bool.and_eq_true, decide_eq_true_eq] at hf
    unfold distS
    rw [if_pos h1]
    exact ⟨by omega, .inr (by omega), fun h => by omega⟩
  rw [if_neg h1] at hf
  by_cases h2 : y.k = 2
  · rw [if_pos h2] at hf
    simp only [Bool.and_eq_true, Bool.or_eq_true, decide_eq_true_eq] at hf
    unfold distS
    rw [if_neg h1, if_pos h2]
    have hr := (repOf_ok hC y.r.toNat).1
    exact ⟨by omega, .inr (by omega), fun h => by omega⟩
  · rw [if_neg h2] at hf; cases hf
end Go.Proofs.Ytmdeoikpiiambaa
end
section
/- The law on what is coded and read: no program in sight. BRIEF -/
set_option linter.unusedVariables false
set_option linter.unusedSimpArgs false
set_option maxRecDepth 100000
namespace Go.Proofs.Ytmdeoikpiiambaa
open Go Go.Eng

/-- a symbol with its own fields alone is like it in all -/
theorem plain_same {C : MC} (hC : MCok C) {n : Nat} {y : Sy} (hf : fitsB C n y = true) : fitsB C n (plainS y) = true ∧ plainS (plainS y) = plainS y ∧ becC C (plainS y) = becC C y ∧ distN C (plainS y) = distN C y ∧ (∀ h d, growS h (plainS y) d = growS h y d) ∧ ∀ h, (cmds (symP C h (plainS y))).2 = (cmds (symP C h y)).2 := by
  have n01 : ¬ (0 : Int) = 1 := by decide
  have n02 : ¬ (0 : Int) = 2 := by decide
  have n10 : ¬ (1 : Int) = 0 := by decide
  have n20 : ¬ (2 : Int) = 0 := by decide
  have n21 : ¬ (2 : Int) = 1 := by decide
  have hf' := hf
  unfold fitsB at hf'
  by_cases h0 : y.k = 0
  · have e : plainS y = ⟨0, y.b, 0, 0, 0⟩ := if_pos h0
    rw [e]
    refine ⟨rfl, rfl, ?_, ?_, fun h d => ?_, fun h => ?_⟩
    · unfold becC; rw [if_pos rfl, if_pos h0]
    · unfold distN distS; rw [if_neg n01, if_neg n02, if_neg (by omega), if_neg (by omega)]
    · unfold growS; rw [if_pos rfl, if_pos h0]
    · rw [sym_c0 rfl, sym_c0 h0]
  rw [if_neg h0] at hf'
  by_cases h1 : y.k = 1
  · have e : plainS y = ⟨1, 0, y.l, y.d, 0⟩ := by unfold plainS; rw [if_neg h0, if_pos h1]
    rw [if_pos h1] at hf'
    have hf2 := hf'
    simp only [Bool.and_eq_true, decide_eq_true_eq] at hf'
    obtain ⟨⟨⟨⟨a1, a2⟩, a3⟩, a4⟩, a5⟩ := hf'
    rw [e]
    refine ⟨hf2, rfl, ?_, ?_, fun h d => ?_, fun h => ?_⟩
    · unfold becC; rw [if_neg n10, if_pos rfl, if_neg h0, if_pos h1]
    · unfold distN distS; rw [if_pos rfl, if_pos h1]
    · unfold growS; rw [if_neg n10, if_neg h0]
    · rw [sym_c1 (y := ⟨1, 0, y.l, y.d, 0⟩) rfl y.l.toNat (by show y.l = _; omega) (by omega) (by omega), sym_c1 h1 y.l.toNat (by omega) (by omega) (by omega)]
  · rw [if_neg h1] at hf'
    have h2 : y.k = 2 := by
      by_cases h2 : y.k = 2
      · exact h2
      · rw [if_neg h2] at hf'; cases hf'
    rw [if_pos h2] at hf'
    have e : plainS y = ⟨2, 0, y.l, 0, y.r⟩ := by unfold plainS; rw [if_neg h0, if_neg h1]
    have hf2 := hf'
    simp only [Bool.and_eq_true, Bool.or_eq_true, decide_eq_true_eq] at hf'
    obtain ⟨⟨⟨a1, a2⟩, a3⟩, a4⟩ := hf'
    rw [e]
    refine ⟨hf2, rfl, ?_, ?_, fun h d => ?_, fun h => ?_⟩
    · unfold becC; rw [if_neg n20, if_neg n21, if_neg h0, if_neg h1]
    · unfold distN distS; rw [if_neg n21, if_pos rfl, if_neg h1, if_pos h2]
    · unfold growS; rw [if_neg n20, if_neg h0]
    · rw [sym_c2 (y := ⟨2, 0, y.l, 0, y.r⟩) rfl y.r.toNat y.l.toNat (by show y.r = _; omega) (by omega) (by show y.l = _; omega) (by omega) (by omega), sym_c2 h2 y.r.toNat y.l.toNat (by omega) (by omega) (by omega) (by omega) (by omega)]
/-! a row of symbols -/
def walkS : MC → List (BitVec 8) → List Sy → MC × List (BitVec 8)
  | C, h, [] => (C, h)
  | C, h, z :: T => walkS (becC C z) (growS h z (distN C z)) T
def cmdA : MC → List (BitVec 8) → List Sy → List Cmd
  | C, h, [] => []
  | C, h, z :: T => (cmds (symP C h z)).2 ++ cmdA (becC C z) (growS h z (distN C z)) T
def fitA : MC → List (BitVec 8) → List Sy → Prop
  | C, h, [] => True
  | C, h, z :: T => fitsB C h.length z = true ∧ plainS z = z ∧ fitA (becC C z) (growS h z (distN C z)) T
theorem walk_app (U : List Sy) : ∀ (T : List Sy) (C : MC) (h : List (BitVec 8)), walkS C h (T ++ U) = walkS (walkS C h T).1 (walkS C h T).2 U
  | [], C, h => rfl
  | z :: T, C, h => walk_app U T _ _
theorem cmdA_app (U : List Sy) : ∀ (T : List Sy) (C : MC) (h : List (BitVec 8)), cmdA C h (T ++ U) = cmdA C h T ++ cmdA (walkS C h T).1 (walkS C h T).2 U
  | [], C, h => rfl
  | z :: T, C, h => by
    show _ ++ cmdA _ _ (T ++ U) = _
    rw [cmdA_app U T, ← List.append_assoc]; rfl
theorem fitA_app (U : List Sy) : ∀ (T : List Sy) (C : MC) (h : List (BitVec 8)), fitA C h (T ++ U) ↔ fitA C h T ∧ fitA (walkS C h T).1 (walkS C h T).2 U
  | [], C, h => ⟨fun h => ⟨trivial, h⟩, fun h => h.2⟩
  | z :: T, C, h => by
    show (_ ∧ _ ∧ fitA _ _ (T ++ U)) ↔ (_ ∧ _ ∧ fitA _ _ T) ∧ fitA (walkS _ _ T).1 (walkS _ _ T).2 U
    rw [fitA_app U T]
    exact ⟨fun ⟨a, b, c, d⟩ => ⟨⟨a, b, c⟩, d⟩, fun ⟨⟨a, b, c⟩, d⟩ => ⟨a, b, c, d⟩⟩
/-! all that was told is read -/
def boundL (a : List Cmd) : Prop := ∀ v n, Cmd.l v n ∈ a → n ≤ 32
theorem boundL_app {a b : List Cmd} (h1 : boundL a) (h2 : boundL b) : boundL (a ++ b) := fun v n h => (List.mem_append.1 h).elim (h1 v n) (h2 v n)
theorem cmds_bound {α : Type} : ∀ (n : Nat) (p : Pg α), p.Le n → boundL (cmds p).2
  | n, .ret a, _ => fun v n h => by cases h
  | 0, .bit _ _ _, h => h.elim
  | 0, .plain _ _ _, h => h.elim
  | n + 1, .bit j w k, h => fun v m hm => by
    rw [cmds] at hm
    rcases List.mem_cons.1 hm with e | hm
    · cases e
    · exact cmds_bound n (k w) (h _) v m hm
  | n + 1, .plain u q k, h => fun v m hm => by
    rw [cmds] at hm
    rcases List.mem_cons.1 hm with e | hm
    · cases e; exact h.1
    · exact cmds_bound n (k _) (h.2 _) v m hm
theorem cmdA_bound : ∀ (T : List Sy) (C : MC) (h : List (BitVec 8)), boundL (cmdA C h T)
  | [], C, h => fun v n h => by cases h
  | z :: T, C, h => boundL_app (cmds_bound 24 _ (symP_le C h z)) (cmdA_bound T _ _)
theorem take_next {α : Type} (L : List α) (d : α) (j : Nat) (h : j < L.length) : L.take (j + 1) = L.take j ++ [L.getD j d] := by
  rw [List.take_add_one, List.getD_eq_getElem?_getD, List.getElem?_eq_getElem h]; rfl
theorem runE_foldl (L : List Ded) : ∀ n, n ≤ L.length → runE L n = (L.take n).foldl rcS (newS, newR)
  | 0, _ => rfl
  | n + 1, h => by
    rw [take_next L dedD n (by omega), List.foldl_append, ← runE_foldl L n (by omega)]; rfl
theorem runD_foldl (D : List (BitVec 8)) (s : DS) (L : List Ded) : ∀ n, n ≤ L.length → runD D s L n = (L.take n).foldl (stepD D) s
  | 0, _ => rfl
  | n + 1, h => by
    rw [take_next L dedD n (by omega), List.foldl_append, ← runD_foldl D s L n (by omega)]; rfl
theorem syn_of (D : List (BitVec 8)) : ∀ (L : List Ded) (t : DS), (∀ j, j < L.length → gotD D ((L.take j).foldl (stepD D) t) (L.getD j dedD) = wantD (L.getD j dedD)) → Syn D L t
  | [], t, _ => trivial
  | d :: r, t, h => ⟨h 0 (Nat.zero_lt_succ _), syn_of D r _ fun j hj => h (j + 1) (by show j + 1 < r.length + 1; omega)⟩
/-- what was told is read, and then all is done -/
theorem told_read (a : List Cmd) (P : List (BitVec 16)) (hb : boundL a) {F : List (BitVec 8)} (hF : (told rencM a P newR).2.low = F) (h4 : 4 ≤ F.length) : Syn (F.drop 4) (deeds a P) (start (0#8 :: F)) ∧ doneS (F.drop 4) ((deeds a P).foldl (stepD (F.drop 4)) (start (0#8 :: F))) = true := by
  have ht := (told_deeds a P (newS, newR) hb).2
  have e1 := runE_foldl (deeds a P) _ (Nat.le_refl _)
  rw [List.take_length] at e1
  have hF' : (runE (deeds a P) (deeds a P).length).2.low = F := by rw [e1, ← ht]; exact hF
  obtain ⟨d1, d2⟩ := done_same (deeds a P) (deeds a P).length hF' h4
  rw [runD_foldl _ _ _ _ (Nat.le_refl _), List.take_length] at d1
  refine ⟨syn_of _ _ _ fun j hj => ?_, d1⟩
  have := d2 j hj
  rw [runD_foldl _ _ _ _ (by omega)] at this
  exact this
/-- one symbol of the row is read -/
theorem read_one {D : List (BitVec 8)} {C : MC} {h : List (BitVec 8)} {T : List Sy} {P : List (BitVec 16)} {t : DS} (hS : Syn D (deeds (cmdA C h T) P) t) (hf : fitA C h T) (i : Nat) (hi : i < T.length) (y0 : Sy) :
    fitsB (walkS C h (T.take i)).1 (walkS C h (T.take i)).2.length (T.getD i syZ) = true ∧ plainS (T.getD i syZ) = T.getD i syZ ∧
    walkS C h (T.take (i + 1)) = (becC (walkS C h (T.take i)).1 (T.getD i syZ), growS (walkS C h (T.take i)).2 (T.getD i syZ) (distN (walkS C h (T.take i)).1 (T.getD i syZ))) ∧
    run (decM D) (symP (walkS C h (T.take i)).1 (walkS C h (T.take i)).2 y0) (chs (cmdA C h (T.take i)) P) ((deeds (cmdA C h (T.take i)) P).foldl (stepD D) t) = ((T.getD i syZ, becC (walkS C h (T.take i)).1 (T.getD i syZ)), chs (cmdA C h (T.take (i + 1))) P, (deeds (cmdA C h (T.take (i + 1))) P).foldl (stepD D) t) := by
  obtain ⟨z, hz⟩ : ∃ z, z = T.getD i syZ := ⟨_, rfl⟩
  have e1 : T.take (i + 1) = T.take i ++ [z] := by rw [hz]; exact take_next T syZ i hi
  have e2 : T = T.take i ++ (z :: T.drop (i + 1)) := by
    rw [show z :: T.drop (i + 1) = [z] ++ T.drop (i + 1) from rfl, ← List.append_assoc, ← e1, List.take_append_drop]
  rw [e2, fitA_app] at hf
  rw [e2, cmdA_app, deeds_app] at hS
  obtain ⟨f1, f2, f3, f4⟩ := hf
  have s2 := hS.app.2
  rw [← hz, e1, walk_app, cmdA_app, deeds_app, chs_app, List.foldl_append]
  generalize walkS C h (T.take i) = x at *
  generalize chs (cmdA C h (T.take i)) P = P1 at *
  generalize (deeds (cmdA C h (T.take i)) P).foldl (stepD D) t = t1 at *
  have s3 : Syn D (deeds ((cmds (symP x.1 x.2 z)).2 ++ cmdA (becC x.1 z) (growS x.2 z (distN x.1 z)) (T.drop (i + 1))) P1) t1 := s2
  rw [deeds_app] at s3
  have s4 := s3.app.1
  have hr := run_dec D 24 (symP x.1 x.2 z) P1 t1 (symP_le _ _ _) s4
  rw [(symP_alike x.1 x.2 y0 z).dec D, hr, symP_val _ _ _ f2, f3]
  have e3 : cmdA x.1 x.2 [z] = (cmds (symP x.1 x.2 z)).2 := List.append_nil _
  rw [e3]
  exact ⟨f2, rfl, rfl, rfl⟩
end Go.Proofs.Ytmdeoikpiiambaa
end
section
/- A reader over bytes that lie somewhere; symbols as literals. BRIEF -/
set_option linter.unusedVariables false
set_option linter.unusedSimpArgs false
set_option maxRecDepth 100000
namespace Go.Proofs.Ytmdeoikpiiambaa
open Go Go.Eng

/-- a new reader, in any memory -/
def NewJ (b : List (BitVec 8)) (m : Mem) (nx : Nat) : Kv := fun v m' nx' => Gr m nx m' nx' ∧ if newE b = 0 then ∃ a n, v = .tup [.ptr a 0, .int .i64 0] ∧ nx ≤ a ∧ nx ≤ n ∧ DcAt a (b.drop 5) m' (start b) [a, n] else v = .tup [.nilp, .int .i64 (newE b)]
theorem dnewBy {fz : Bool} {wr : Nat → Bool} {m : Mem} {nx : Nat} {X : List (BitVec 8)} {v : AV} {ns : List Nat} (hX : X.length ≤ 1000000) (nd : (m.map fun p => p.1).Nodup) (lt : ∀ p ∈ m, p.1 < nx) (hb : ByAt 5 m v X ns) :
    CallG fz Try.prog 55 [v] wr m nx (NewJ X m nx) := by
  refine CallOk.more (CallG.any (dnewOk (wr := fun _ => true) (rdmT nd0) lt0 X hX)) (R := NewK X [] 0) ⟨hb.arg, trivial⟩ ?_
  rintro v' m' nx' ⟨g, ro, hif⟩
  have hro := ro rfl
  by_cases hE : newE X = 0
  · rw [if_pos hE] at hif
    obtain ⟨a, n, cap, sp, rfl, h1, h2, h3⟩ := hif
    refine ⟨rfl, hro, Gr.of_ren nd lt g, ?_⟩
    rw [if_pos hE]
    refine ⟨a + nx, n + nx, rfl, Nat.le_add_left _ _, Nat.le_add_left _ _, n + nx, cap, sp, rfl, ⟨?_, ?_, fun e => h3.ne (by omega), h3.len⟩⟩
    · rw [look_ren_hi _ _ _ _ lt, h3.at_]
      simp only [Option.map_some, dO, renO, renL, renA]
    · rw [look_ren_hi _ _ _ _ lt, h3.row]
      simp only [Option.map_some, rowO, renO, renL_append, bvs_ren, plnL_ren (val_pln _)]
  · rw [if_neg hE] at hif
    subst hif
    refine ⟨rfl, hro, Gr.of_ren nd lt g, ?_⟩
    rw [if_neg hE]
    rfl
def rngS (y : Sy) : Prop := (-9223372036854775808 ≤ y.k ∧ y.k < 9223372036854775808) ∧ (-9223372036854775808 ≤ y.l ∧ y.l < 9223372036854775808) ∧ (-9223372036854775808 ≤ y.d ∧ y.d < 9223372036854775808) ∧ (-9223372036854775808 ≤ y.r ∧ y.r < 9223372036854775808)
def litS (y : Sy) : List Lit := [Lit.int .i64 y.k, Lit.int .u8 (y.b.toNat : Int), Lit.int .i64 y.l, Lit.int .i64 y.d, Lit.int .i64 y.r]
theorem symLits (y : Sy) (h : rngS y) : aggLits Try.prog 71 (syL y) = some (litS y) := by
  have c56 : Try.prog.cellsOf 71 = 5 := by kernel_rfl
  have c3 : Try.prog.cellsOf 3 = 1 := by kernel_rfl
  have c5 : Try.prog.cellsOf 5 = 1 := by kernel_rfl
  have u3 : Try.prog.underlying 3 = some (.int .i64) := Try.underlying3
  have u5 : Try.prog.underlying 5 = some (.int .u8) := Try.underlying5
  have u56 := Try.underlying71
  have hf : (Value.agg [Value.int .i64 y.k, Value.int .u8 (y.b.toNat : Int), Value.int .i64 y.l, Value.int .i64 y.d, Value.int .i64 y.r].toArray).formed Try.prog 71 = true := by
    simp only [Value.formed, u56, c56, List.size_toArray, List.length_cons, List.length_nil]
    rfl
  simp only [syL, aggLits, avVals, Option.map_some, Option.bind_some, hf, if_true]
  unfold Program.keyLits
  simp only [u56, c56, List.length_cons, List.length_nil, Nat.reduceAdd]
  rw [if_pos (And.intro (by trivial) (by kernel_rfl))]
  have wb : (Lit.int .u8 (y.b.toNat : Int)).wf = true := wf_bv8 y.b
  simp only [List.mapM_cons, List.mapM_nil, List.drop_zero, c3, c5, List.take_succ_cons, List.take_zero, List.drop_succ_cons]
  unfold Program.keyLits
  simp only [u3, u5, wf_int64 h.1.1 h.1.2, wf_int64 h.2.1.1 h.2.1.2, wf_int64 h.2.2.1.1 h.2.2.1.2, wf_int64 h.2.2.2.1 h.2.2.2.2, wb, and_self, if_true]
  rfl
theorem plain_rng {y : Sy} (h : rngS y) : rngS (plainS y) := by
  unfold plainS
  obtain ⟨h1, h2, h3, h4⟩ := h
  have z0 : (-9223372036854775808 : Int) ≤ 0 ∧ (0 : Int) < 9223372036854775808 := by decide
  have z1 : (-9223372036854775808 : Int) ≤ 1 ∧ (1 : Int) < 9223372036854775808 := by decide
  have z2 : (-9223372036854775808 : Int) ≤ 2 ∧ (2 : Int) < 9223372036854775808 := by decide
  split
  · exact ⟨z0, z0, z0, z0⟩
  · split
    · exact ⟨z1, h2, h3, z0⟩
    · exact ⟨z2, h2, z0, h4⟩
theorem dis_step {X X' Y : List Nat} {nx : Nat} (h : ∀ k ∈ Y, k ∉ X) (hX : ∀ k ∈ X', k ∈ X ∨ nx ≤ k) (hY : ∀ k ∈ Y, k < nx) : ∀ k ∈ Y, k ∉ X' := fun k hk hm => by
  rcases hX k hm with g | g
  · exact h k hk g
  · have := hY k hk; omega
theorem dis_sym {X Y : List Nat} (h : ∀ k ∈ Y, k ∉ X) : ∀ k ∈ X, k ∉ Y := fun k hk hm => h k hm hk
theorem SlA.lt {ty s : Nat} {m : Mem} {nx : Nat} {v : AV} {k : Nat} {L : List AV} {ns : List Nat} (h : SlA ty s m v k L ns) (lt : ∀ p ∈ m, p.1 < nx) : ∀ i ∈ ns, i < nx := fun i hi => by
  obtain ⟨o, ho⟩ := h.live i hi
  exact look_ltm lt ho
theorem KD.live {Z : Rid} {c : Nat} {C : MC} {m : Mem} {P : List (BitVec 16)} {ns : List Nat} (H : KD Z c C m P ns) : ∀ j ∈ ns, ∃ o, Eng.look m j = some o := fun j hj => by
  obtain ⟨r, rc, q, qc, rs, qs, ne, rfl, hd, he, _⟩ := H
  rcases List.mem_cons.1 hj with rfl | hj
  · exact ⟨_, hd.co⟩
  rcases List.mem_cons.1 hj with rfl | hj
  · exact ⟨_, hd.re⟩
  rcases List.mem_cons.1 hj with rfl | hj
  · exact ⟨_, hd.ch⟩
  · exact Z.live he j hj
theorem KD.lt {Z : Rid} {c : Nat} {C : MC} {m : Mem} {nx : Nat} {P : List (BitVec 16)} {ns : List Nat} (H : KD Z c C m P ns) (lt : ∀ p ∈ m, p.1 < nx) : ∀ j ∈ ns, j < nx := fun j hj => by
  obtain ⟨o, ho⟩ := H.live j hj
  exact look_ltm lt ho
theorem KD.ext {Z : Rid} {c : Nat} {C : MC} {m m' : Mem} {P : List (BitVec 16)} {nd : List Nat} (H : KD Z c C m P nd) (h1 : ∀ k ∈ nd, ∀ o, Eng.look m k = some o → Eng.look m' k = some o) : KD Z c C m' P nd := by
  obtain ⟨r, rc, q, qc, rs, qs, ne, rfl, hd, he, h⟩ := H
  refine ⟨r, rc, q, qc, rs, qs, ne, rfl, hd.ext fun k hk o ho => h1 k ?_ o ho, Z.ext he fun k hk o ho => h1 k (.tail _ (.tail _ (.tail _ hk))) o ho, h⟩
  rcases hk with rfl | rfl | rfl
  · exact .head _
  · exact .tail _ (.head _)
  · exact .tail _ (.tail _ (.head _))
/-- things kept by one step -/
def Kept (X : List Nat) (m : Mem) (nx : Nat) (m' : Mem) (nx' : Nat) : Prop := nx ≤ nx' ∧ (m'.map fun p => p.1).Nodup ∧ (∀ p ∈ m', p.1 < nx') ∧ ∀ k o, k ∉ X → Eng.look m k = some o → Eng.look m' k = some o
end Go.Proofs.Ytmdeoikpiiambaa
end
