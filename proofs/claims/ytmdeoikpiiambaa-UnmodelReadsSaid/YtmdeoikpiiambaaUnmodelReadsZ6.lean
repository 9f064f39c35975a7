/- Part 6 of the proof of the statement UnmodelReads: Mqc, Mql. -/
import Derived.Test.YtmdeoikpiiambaaUnmodelReadsZ5
section
/- Reading symbols: bad arguments, the known rows. BRIEF -/
set_option linter.unusedVariables false
set_option linter.unusedSimpArgs false
set_option maxRecDepth 100000
namespace Go.Proofs.Ytmdeoikpiiambaa
open Go Go.Eng

theorem inBy : intT Try.prog 5 = some .u8 := by kernel_rfl
theorem stBy : isStrT Try.prog 9 = true := by kernel_rfl
section
variable {wr : Nat → Bool} {m : Mem} {nx : Nat}
theorem ureadNil (R : Rdm wr m nx) (cv : Nat) (hv : AV) (many dict : Int) :
    CallG false Try.prog 59 [.nilp, .ptr cv 0, hv, .int .i64 many, .int .i64 dict] wr m nx (PK (.tup [.nils, .int .i64 1]) m nx) := by
  refine fn_okG Try.func59 rfl (by show 5 ≤ _; decide) ?_
  simp (maxSteps := 1000000) -implicitDefEqProofs only [go_sem, seval, -List.reduceReplicate, Try.results59, Try.ntmps59]
  exact finP R _
theorem ureadBad (R : Rdm wr m nx) (av cv : Nat) (hv : AV) (many dict : Int) (h : many < 0 ∨ dict < 1) :
    CallG false Try.prog 59 [.ptr av 0, .ptr cv 0, hv, .int .i64 many, .int .i64 dict] wr m nx (PK (.tup [.nils, .int .i64 1]) m nx) := by
  refine fn_okG Try.func59 rfl (by show 5 ≤ _; decide) ?_
  by_cases h1 : many < 0
  · have e1 : decide (many < 0) = true := decide_eq_true h1
    simp (maxSteps := 1000000) -implicitDefEqProofs only [go_sem, seval, -List.reduceReplicate, Try.results59, Try.ntmps59, e1]
    exact finP R _
  · have e1 : decide (many < 0) = false := decide_eq_false h1
    have e2 : decide (dict < 1) = true := decide_eq_true (h.resolve_left h1)
    simp (maxSteps := 1000000) -implicitDefEqProofs only [go_sem, seval, -List.reduceReplicate, Try.results59, Try.ntmps59, e1, e2]
    exact finP R _
end
def yD : Sy := ⟨1, 0#8, 4, 1, 0⟩
theorem syD : AV.agg [.int .i64 1, .int .u8 0, .int .i64 4, .int .i64 1, .int .i64 0] = .agg (syL yD) := rfl
def TK : List Sy := [yA, yD]
theorem fitK : fitA (newC 3 0 2) [] TK := ⟨by decide, rfl, by decide, rfl, trivial⟩
theorem walkK : (walkS (newC 3 0 2) [] TK).2 = [65#8, 65#8, 65#8, 65#8, 65#8] := by decide
theorem farK : farA (newC 3 0 2) [] 1 TK = 1 := by decide
set_option maxHeartbeats 4000000 in
theorem knows08 : CallG false Try.prog 58 [] (fun _ => true) [] 0 (fun v m nx => v = .bool true ∧ m = [] ∧ nx = 0) := by
  refine fn_okG Try.func58 rfl (Nat.zero_le _) ?_
  have t5 : ∀ a b d e f : AV, List.take 5 [a, b, d, e, f] = [a, b, d, e, f] := fun _ _ _ _ _ => rfl
  have D : Rdm (fun _ => true) ([] : Mem) 0 := rdmT nd0
  have n1 := rnewY D lt0 3 0 2 (by decide)
  simp (maxSteps := 1000000) -implicitDefEqProofs only [go_sem, seval, -List.reduceReplicate, Try.results58, Try.ntmps58]
  refine CallG.weak n1 ?_
  rintro v m2 nx2 ⟨rfl, g1, co1⟩
  have D1 := g1.rdm D
  simp (maxSteps := 1000000) -implicitDefEqProofs only [go_sem, seval, -List.reduceReplicate]
  refine CallG.weak (enewOk D1 g1.lt) ?_
  rintro v mB nB ⟨rfl, rfl, rfl⟩
  have g2 := g1.trans (Gr.cons g1.nd g1.lt (eO .nils newS))
  have D2 := g2.rdm D
  have co1 : CoAt 1 0 (newC 3 0 2) (newP 3 0) m2 := co1
  have cl := look_ltm g1.lt co1.co
  have ql := look_ltm g1.lt co1.li
  have co2 := co1.ext (m' := (nx2, eO .nils newS) :: m2) (fun o h => (Gr.cons g1.nd g1.lt (eO .nils newS)).kp _ _ h) (fun o h => (Gr.cons g1.nd g1.lt (eO .nils newS)).kp _ _ h)
  have S0 : MS (encIo nx2) 1 0 .nils [] [] (newC 3 0 2) (newP 3 0) newS [nx2] ((nx2, eO .nils newS) :: m2) := ⟨co2, encAt_new m2 nx2, .nil _, (fun h => by cases List.mem_singleton.1 h; omega), (fun h => by cases List.mem_singleton.1 h; omega), (fun h => by cases h), (fun h => by cases h), fun k h => by cases h⟩
  have hC0 : MCok (newC 3 0 2) := CoAt.mok 3 0 2 (by decide) (by decide)
  have p1 := rputY D2 g2.lt S0 hC0 (by decide) (fun _ _ => rfl) (encB_new 24 (by decide)) yA (by decide)
  simp (maxSteps := 1000000) -implicitDefEqProofs only [go_sem, seval, -List.reduceReplicate, t5, syA]
  refine CallG.weak p1 ?_
  rintro v m3 nx3 ⟨rfl, fr3, ns3, S3, hn3⟩
  obtain ⟨r1, r2, b1, b2⟩ := put_rel (C := newC 3 0 2) (h := []) (P := newP 3 0) newRel yA (j := 24) (encB_new 48 (by decide)) (rencB_new 48 (by decide))
  have hcm : told rencM (cmdA (newC 3 0 2) [] TK) (newP 3 0) newR = told rencM (cmds (symP CA [65#8] yD)).2 (told rencM (cmds (symP (newC 3 0 2) [] yA)).2 (newP 3 0) newR).1 (told rencM (cmds (symP (newC 3 0 2) [] yA)).2 (newP 3 0) newR).2 := by
    show told rencM ((cmds (symP (newC 3 0 2) [] yA)).2 ++ ((cmds (symP CA [65#8] yD)).2 ++ [])) _ _ = _
    rw [List.append_nil, told_app]
  generalize told rencM (cmds (symP (newC 3 0 2) [] yA)).2 (newP 3 0) newR = z at *
  obtain ⟨P3, s3⟩ := z
  generalize (run encM (symP (newC 3 0 2) [] yA) (newP 3 0) newS).2.1 = P3' at *
  generalize (run encM (symP (newC 3 0 2) [] yA) (newP 3 0) newS).2.2 = e3 at *
  have r1 : P3' = P3 := r1
  subst r1
  have D3 := fr3.rdm D2 (fun _ _ => rfl)
  simp (maxSteps := 1000000) -implicitDefEqProofs only [go_sem, seval, -List.reduceReplicate, t5, syD]
  refine ⟨.inr trivial, ?_⟩
  have g4 := Gr.cons D3.nd fr3.lt (.cells ((bvs IntKind.u8 (List.replicate 1 0#8)).set 0 (AV.int IntKind.u8 65)) 5)
  have S3' := S3.gr g4
  have D4 := g4.rdm D3
  have cl3 := look_ltm fr3.lt S3.co.co
  have ql3 := look_ltm fr3.lt S3.co.li
  have S4 : MS (encIo nx2) 1 0 (.sl nx3 0 1 1) [65#8] [nx3] CA P3' e3 ns3 ((nx3, .cells ((bvs IntKind.u8 (List.replicate 1 0#8)).set 0 (AV.int IntKind.u8 65)) 5) :: m3) := ⟨S3'.co, S3'.io, .row (X := [65#8]) (sp := []) rfl (look_c0 _ _ _) rfl (by decide) rfl, S3'.nc, S3'.nq, (fun h => by cases List.mem_singleton.1 h; omega), (fun h => by cases List.mem_singleton.1 h; omega), fun k h hm => by
    cases List.mem_singleton.1 h
    obtain ⟨o, ho⟩ := (encIo nx2).live S3.io nx3 hm
    have := look_ltm fr3.lt ho
    omega⟩
  have hCA : MCok CA := by
    have h : 1 ≤ 1 ∧ 1 < 1099511627776 := by decide
    exact ⟨(by decide : 3 + 0 ≤ 4), (by decide : 2 ≤ 4), (by decide : 0 < 12), h, h, h, h⟩
  have p2 := rputY D4 g4.lt S4 hCA (by decide) (fun _ _ => rfl) b1 yD (by decide)
  refine CallG.weak p2 ?_
  rintro v m5 nx5 ⟨rfl, fr5, ns5, S5, hn5⟩
  obtain ⟨r3, r4, b3, b4⟩ := put_rel (C := CA) (h := [65#8]) (P := P3') r2 yD (j := 0) b1 b2
  have hcm : told rencM (cmdA (newC 3 0 2) [] TK) (newP 3 0) newR = told rencM (cmds (symP CA [65#8] yD)).2 P3' s3 := hcm
  generalize told rencM (cmds (symP CA [65#8] yD)).2 P3' s3 = z at *
  obtain ⟨P5, s5⟩ := z
  generalize (run encM (symP CA [65#8] yD) P3' e3).2.1 = P5' at *
  generalize (run encM (symP CA [65#8] yD) P3' e3).2.2 = e5 at *
  have D5 := fr5.rdm D4 (fun _ _ => rfl)
  have heq : bytE e5 = 0#8 :: s5.low := bytE_eq r4.1 (by have := b3.1; omega)
  have hlow := r4.1.len
  have hlow : s5.low.length = e5.out.length + e5.full + 4 := hlow
  have hx := bytEOk D5 fr5.lt (show EncAt nx2 m5 e5 ns5 from S5.io) (by have := b3.2; omega)
  rw [heq] at hx
  obtain ⟨F, hF⟩ : ∃ F, F = s5.low := ⟨_, rfl⟩
  rw [← hF] at hx hlow
  have hFt : (told rencM (cmdA (newC 3 0 2) [] TK) (newP 3 0) newR).2.low = F := by rw [hcm, hF]
  have hb3 := b3.2
  obtain ⟨hsyn, hdone⟩ := told_read (cmdA (newC 3 0 2) [] TK) (newP 3 0) (cmdA_bound _ _ _) hFt (by omega)
  have hno := told_nout (cmdA (newC 3 0 2) [] TK) (newP 3 0) (cmdA_bound _ _ _) hFt (by omega)
  have hDD : (F.drop 4).length ≤ 1000000 := by rw [List.length_drop]; omega
  have hrd := rdU_good 10 TK (newC 3 0 2) [] (newP 3 0) (start (0#8 :: F)) 1 5 hC0 fitK hsyn hno (by rw [walkK]; decide) (by rw [farK]; decide) (by decide) 5 (by rw [walkK]; rfl)
  rw [walkK] at hrd
  simp (maxSteps := 1000000) -implicitDefEqProofs only [go_sem, seval, -List.reduceReplicate, t5]
  refine CallG.weak hx ?_
  rintro v6 m6 n6 ⟨ns6, b6, b6r, b6n, g6⟩
  obtain ⟨q1, q2, q3, q4, q5⟩ := b6.facts
  simp (maxSteps := 1000000) -implicitDefEqProofs only [go_sem, seval, -List.reduceReplicate, t5, q1, q2, q3, q4, q5]
  have hnE : newE (0#8 :: F) = 0 := by
    rw [newE, if_neg (by rw [List.length_cons]; omega), if_neg (fun e => e rfl)]
  refine CallG.weak (dnewBy (by rw [List.length_cons]; omega) g6.nd g6.lt b6) ?_
  rintro v7 m7 n7 ⟨g7, hif⟩
  rw [if_pos hnE] at hif
  obtain ⟨a, an, rfl, ha, han, hd7⟩ := hif
  have D7 := (g6.trans g7).rdm D5
  simp (maxSteps := 1000000) -implicitDefEqProofs only [go_sem, seval, -List.reduceReplicate, t5]
  refine CallG.weak (rnewY D7 g7.lt 3 0 2 (by decide)) ?_
  rintro v8 m8 n8 ⟨rfl, g8, co8⟩
  have D8 := g8.rdm D7
  have co8 : CoAt (n7 + 1) n7 (newC 3 0 2) (newP 3 0) m8 := co8
  obtain ⟨oa, hoa⟩ := hd7.live a (.head _)
  obtain ⟨oan, hoan⟩ := hd7.live an (.tail _ (.head _))
  have al := look_ltm g7.lt hoa
  have anl := look_ltm g7.lt hoan
  have hd7 : DcAt a (F.drop 4) m7 (start (0#8 :: F)) [a, an] := hd7
  have S8 : MS (decIo a (F.drop 4) hDD) (n7 + 1) n7 .nils [] [] (newC 3 0 2) (newP 3 0) (start (0#8 :: F)) [a, an] m8 := ⟨co8, hd7.ext fun k _ => g8.kp k, .nil _, (by simp; omega), (by simp; omega), (fun h => by cases h), (fun h => by cases h), fun k h => by cases h⟩
  have hu := ureadOk D8 g8.lt S8 hC0 (fun _ _ => rfl) (start_ok (0#8 :: F)) 5 10 (by decide) (by decide)
  have hrd : rdU (F.drop 4) (([] : List (BitVec 8)).length + 5) 10 5 (newC 3 0 2) (newP 3 0) (start (0#8 :: F)) [] = _ := hrd
  rw [hrd] at hu
  simp (maxSteps := 1000000) -implicitDefEqProofs only [go_sem, seval, -List.reduceReplicate, t5]
  refine CallG.weak hu ?_
  rintro v9 m9 n9 ⟨fr9, s9, os, ns9, rfl, hb9, _, _, _, _, _, _⟩
  have D9 := fr9.rdm D8 (fun _ _ => rfl)
  obtain ⟨p1, p2, p3, p4, p5⟩ := hb9.facts
  simp (maxSteps := 1000000) -implicitDefEqProofs only [go_sem, seval, -List.reduceReplicate, t5, p1, p2, p3, p4, p5]
  refine CallG.pk (ureadNil D9 _ _ _ _) ?_
  simp (maxSteps := 1000000) -implicitDefEqProofs only [go_sem, seval, -List.reduceReplicate, t5, p1, p2, p3, p4, p5]
  rw [hb9.cvx elBy inBy stBy]
  have hse : ((strOf [65#8, 65#8, 65#8, 65#8, 65#8]).toList == (ByteArray.mk #[65, 65, 65, 65, 65]).toList) = true := by
    show ((strOf [65#8, 65#8, 65#8, 65#8, 65#8]).toList == (strOf [65#8, 65#8, 65#8, 65#8, 65#8]).toList) = true
    exact beq_self_eq_true _
  simp (maxSteps := 1000000) -implicitDefEqProofs only [go_sem, seval, -List.reduceReplicate, t5, p1, p2, p3, p4, p5, hse]
  exact Fin.flatv (fun _ => rfl) (fun _ => rfl) ⟨rfl, rfl, rfl⟩
theorem kn08 {fz : Bool} {wr : Nat → Bool} {m : Mem} {nx : Nat} {K : Kv} (h : K (.bool true) m nx) : CallG fz Try.prog 58 [] wr m nx K := knows08.flat0 trivial (fun _ => rfl) rfl h
end Go.Proofs.Ytmdeoikpiiambaa
end
section
/- The law on reading any bytes. BRIEF -/
set_option linter.unusedVariables false
set_option linter.unusedSimpArgs false
set_option maxRecDepth 100000
namespace Go.Proofs.Ytmdeoikpiiambaa
open Go Go.Eng

section
variable {wr : Nat → Bool} {m : Mem} {nx : Nat}
set_option maxHeartbeats 2000000 in
theorem kreps8 (D : Rdm wr m nx) (lt : ∀ p ∈ m, p.1 < nx) (C : MC) {r rc : Nat} {rs : List Value} (re : Eng.look m r = some (.cells (rpL C ++ rs.map AV.val) 3)) :
    CallG false Try.prog 62 [.agg (rpL C), .sl r 0 4 rc] wr m nx (fun v m' nx' => v = .bool true ∧ Gr m nx m' nx') := by
  refine fn_okG Try.func62 rfl (by show 2 ≤ _; decide) ?_
  have G1 := Gr.cons D.nd lt (.cells (rpL C) 82)
  have rl := look_ltm lt re
  have hrp : ∀ w, w < 4 → (rpL C ++ rs.map AV.val).getD w (.int .i64 0) = .int .i64 (repOf C w : Nat) := fun w h => by
    rcases (show w = 0 ∨ w = 1 ∨ w = 2 ∨ w = 3 by omega) with rfl | rfl | rfl | rfl <;> rfl
  have hrq : ∀ w, w < 4 → (rpL C).getD w (.int .i64 0) = .int .i64 (repOf C w : Nat) := fun w h => by
    rcases (show w = 0 ∨ w = 1 ∨ w = 2 ∨ w = 3 by omega) with rfl | rfl | rfl | rfl <;> rfl
  have hl : (rpL C ++ rs.map AV.val).length = rs.length + 4 := by rw [List.length_append, List.length_map, Nat.add_comm]; rfl
  have hl2 : (rpL C).length = 4 := rfl
  have t4 : List.take 4 (rpL C) = rpL C := rfl
  have fr : (nx = r) = False := eq_false (by omega)
  have f0 : decide (nx + 1 ≤ nx) = false := decide_eq_false (by omega)
  have f2 : decide (nx + 1 ≤ r) = false := decide_eq_false (by omega)
  generalize rpL C = L at *
  generalize L ++ rs.map AV.val = Lr at *
  simp (maxSteps := 1000000) -implicitDefEqProofs only [go_sem, seval, -List.reduceReplicate, Try.results62, Try.ntmps62, t4, hl2]
  refine LoopOk.upX (fun i (x : Unit) => True) 4 (fun i x => ([(5, .int .i64 (i : Nat)), (4, .bool false), (2, .ptr nx 0), (1, .sl r 0 4 rc)], (nx, .cells L 82) :: m, nx + 1)) () trivial ((G1.rdm D).leN G1.le ⟨rfl, rfl, rfl, rfl, trivial⟩) ?_
  rintro i ⟨⟩ ⟨hi, _⟩
  rcases Nat.lt_or_ge i 4 with h | h
  · have c1 : decide ((i : Int) < 4) = true := decide_eq_true (by omega)
    have wi : IntKind.i64.wrap ((i : Int) + 1) = ((i + 1 : Nat) : Int) := by rw [wrap_i64] <;> omega
    have e1 := hrp i h
    have e2 := hrq i h
    simp (maxSteps := 1000000) -implicitDefEqProofs only [go_sem, seval, -List.reduceReplicate, c1]
    refine ⟨Fx.mixed, .inl ⟨[(0, false), (1, false), (2, false), (3, false), (4, false), (5, false), (6, false), (7, false)], [], by kernel_rfl, (fun j hj => by cases hj), ?_⟩⟩
    simp (maxSteps := 1000000) -implicitDefEqProofs only [go_sem, seval, -List.reduceReplicate, c1, e1, e2, hl, hl2, re, fr, f0, f2, wi]
    exact ⟨by omega, by omega, by omega, by omega, UpX_normal h () trivial ((G1.rdm D).leN G1.le ⟨rfl, rfl, rfl, rfl, trivial⟩)⟩
  · have hi4 : i = 4 := by omega
    have c1 : decide ((i : Int) < 4) = false := decide_eq_false (by omega)
    simp (maxSteps := 1000000) -implicitDefEqProofs only [go_sem, seval, -List.reduceReplicate, c1]
    exact Fin.keepW (m0 := (nx, .cells L 82) :: m) G1.le (memSame_slf G1.nd) G1.nd (G1.rdm D).kp ⟨rfl, G1⟩
end
theorem rdOlds {m : Mem} {nx : Nat} {v : AV} {X : List (BitVec 8)} {ns : List Nat} {ty : TypeId} (h : ByAt ty m v X ns) (lt : ∀ p ∈ m, p.1 < nx) : ∀ n ∈ ns, Rd (wrD m nx []) n = true := fun n hn => by
  obtain ⟨o, ho⟩ := h.live n hn
  have h1 := h.lt lt n hn
  have h2 : decide (nx ≤ n) = false := decide_eq_false (by omega)
  simp [Rd, wrD, ho, h2]
set_option maxHeartbeats 8000000 in
theorem unmodelReadsOk (lc : Int) (l0 : -9223372036854775808 ≤ lc) (r0 : lc < 9223372036854775808) (lp : Int) (l1 : -9223372036854775808 ≤ lp) (r1 : lp < 9223372036854775808) (pb : Int) (l2 : -9223372036854775808 ≤ pb) (r2 : pb < 9223372036854775808) (b : List (BitVec 8)) (hb : b.length ≤ maxLen) (h : List (BitVec 8)) (hh : h.length ≤ maxLen) (many : Int) (l3 : -9223372036854775808 ≤ many) (r3 : many < 9223372036854775808) (dict : Int) (l4 : -9223372036854775808 ≤ dict) (r4 : dict < 9223372036854775808) :
    CallOk Try.prog 11 [.int .i64 lc, .int .i64 lp, .int .i64 pb, .ro b.length (bvs .u8 b), .ro h.length (bvs .u8 h), .int .i64 many, .int .i64 dict] (fun _ => true) [] 0 fun v _ _ => v = .bool true := by
  refine fn_ok Try.func11 rfl (by show 7 ≤ _; decide) ?_
  have fin : ∀ {m : Mem} {nx : Nat}, Eng.Fin 0 (fun _ => true) m nx (fun v _ _ => v = .bool true) (.bool true) := Fin.flatv (fun _ => rfl) (fun _ => rfl) rfl
  have D : Rdm (fun _ => true) ([] : Mem) 0 := rdmT nd0
  by_cases h1 : 300 < b.length
  · have e1 : decide ((b.length : Int) > 300) = true := decide_eq_true (by omega)
    simp (maxSteps := 1000000) -implicitDefEqProofs only [go_sem, seval, -List.reduceReplicate, Try.results11, Try.ntmps11, e1]
    refine kn08 ?_
    simp (maxSteps := 1000000) -implicitDefEqProofs only [go_sem, seval, -List.reduceReplicate]
    exact fin
  have e1 : decide ((b.length : Int) > 300) = false := decide_eq_false (by omega)
  by_cases h2 : 300 < h.length
  · have e2 : decide ((h.length : Int) > 300) = true := decide_eq_true (by omega)
    simp (maxSteps := 1000000) -implicitDefEqProofs only [go_sem, seval, -List.reduceReplicate, Try.results11, Try.ntmps11, e1, e2]
    refine kn08 ?_
    simp (maxSteps := 1000000) -implicitDefEqProofs only [go_sem, seval, -List.reduceReplicate]
    exact fin
  have e2 : decide ((h.length : Int) > 300) = false := decide_eq_false (by omega)
  by_cases h3 : many > 600
  · have e3 : decide (many > 600) = true := decide_eq_true h3
    simp (maxSteps := 1000000) -implicitDefEqProofs only [go_sem, seval, -List.reduceReplicate, Try.results11, Try.ntmps11, e1, e2, e3]
    refine kn08 ?_
    simp (maxSteps := 1000000) -implicitDefEqProofs only [go_sem, seval, -List.reduceReplicate]
    exact fin
  have e3 : decide (many > 600) = false := decide_eq_false h3
  have hk0 := kmay D lc lp pb
  simp (maxSteps := 1000000) -implicitDefEqProofs only [go_sem, seval, -List.reduceReplicate, Try.results11, Try.ntmps11, e1, e2, e3]
  refine CallG.any (CallG.pk hk0 ?_)
  cases hm : mayB lc lp pb with
  | false =>
    simp (maxSteps := 1000000) -implicitDefEqProofs only [go_sem, seval, -List.reduceReplicate]
    refine kn08 ?_
    simp (maxSteps := 1000000) -implicitDefEqProofs only [go_sem, seval, -List.reduceReplicate]
    exact fin
  | true =>
    obtain ⟨A, B, E, rfl, rfl, rfl, hAB, hE⟩ : ∃ A B E : Nat, lc = (A : Int) ∧ lp = (B : Int) ∧ pb = (E : Int) ∧ A + B ≤ 4 ∧ E ≤ 4 := by
      unfold mayB at hm
      simp only [Bool.and_eq_true, decide_eq_true_eq] at hm
      exact ⟨lc.toNat, lp.toNat, pb.toNat, by omega, by omega, by omega, by omega, by omega⟩
    have hC0 : MCok (newC A B E) := CoAt.mok A B E hAB hE
    simp (maxSteps := 1000000) -implicitDefEqProofs only [go_sem, seval, -List.reduceReplicate]
    refine CallG.weak (dnewBy (by omega) nd0 lt0 (.ro [] b)) ?_
    rintro v1 m1 n1 ⟨g1, hif⟩
    have D1 := g1.rdm D
    have nn2 := rnewY D1 g1.lt A B E hm
    rw [Int.toNat_natCast, Int.toNat_natCast, Int.toNat_natCast] at nn2
    by_cases hE0 : newE b = 0
    · rw [if_pos hE0] at hif
      obtain ⟨a, an, rfl, _, _, hd1⟩ := hif
      simp (maxSteps := 1000000) -implicitDefEqProofs only [go_sem, seval, -List.reduceReplicate]
      refine CallG.any (CallG.weak nn2 ?_)
      rintro v2 m2 n2 ⟨rfl, g2, co2⟩
      have D2 := g2.rdm D1
      have hq := qnewOk D2 g2.lt b (by omega)
      simp (maxSteps := 1000000) -implicitDefEqProofs only [go_sem, seval, -List.reduceReplicate]
      refine CallG.any (CallG.weak hq ?_)
      intro v3 m3 n3 hq3
      unfold QNewK at hq3
      rw [if_pos hE0] at hq3
      obtain ⟨rfl, g3, dq3⟩ := hq3
      have D3 := g3.rdm D2
      have g23 := g2.trans g3
      simp (maxSteps := 1000000) -implicitDefEqProofs only [go_sem, seval, -List.reduceReplicate]
      have co3 : CoAt (n1 + 1) n1 (newC A B E) (newP A B) m3 := co2.ext (fun o => g3.kp _ _) (fun o => g3.kp _ _)
      have hd3 : DcAt a (b.drop 5) m3 (start b) [a, an] := hd1.ext fun k _ => g23.kp k
      obtain ⟨oa, hoa⟩ := hd1.live a (.head _)
      obtain ⟨oan, hoan⟩ := hd1.live an (.tail _ (.head _))
      have al := look_ltm g1.lt hoa
      have anl := look_ltm g1.lt hoan
      have hDD : (b.drop 5).length ≤ 1000000 := by rw [List.length_drop]; omega
      have hb5 : 5 ≤ b.length := by
        unfold newE at hE0
        by_cases hl : b.length < 5
        · rw [if_pos hl] at hE0; cases hE0
        · omega
      have S3 : MS (decIo a (b.drop 5) hDD) (n1 + 1) n1 (.ro h.length (bvs .u8 h)) h [] (newC A B E) (newP A B) (start b) [a, an] m3 := ⟨co3, hd3, .ro _ _, (by simp; omega), (by simp; omega), (fun h => by cases h), (fun h => by cases h), fun k h => by cases h⟩
      by_cases hmn : many < 0
      · have c1 : decide (many < 0) = true := decide_eq_true hmn
        refine CallG.any (CallG.pk (ureadBad D3 _ _ _ _ _ (.inl hmn)) ?_)
        simp (maxSteps := 1000000) -implicitDefEqProofs only [go_sem, seval, -List.reduceReplicate, c1]
        refine kn08 ?_
        simp (maxSteps := 1000000) -implicitDefEqProofs only [go_sem, seval, -List.reduceReplicate]
        exact fin
      have c1 : decide (many < 0) = false := decide_eq_false hmn
      by_cases hdc : dict < 1
      · have c2 : decide (dict < 1) = true := decide_eq_true hdc
        refine CallG.any (CallG.pk (ureadBad D3 _ _ _ _ _ (.inr hdc)) ?_)
        simp (maxSteps := 1000000) -implicitDefEqProofs only [go_sem, seval, -List.reduceReplicate, c1, c2]
        refine kn08 ?_
        simp (maxSteps := 1000000) -implicitDefEqProofs only [go_sem, seval, -List.reduceReplicate]
        exact fin
      have c2 : decide (dict < 1) = false := decide_eq_false hdc
      obtain ⟨mn, rfl⟩ : ∃ mn : Nat, many = (mn : Int) := ⟨many.toNat, by omega⟩
      have hu := ureadOk D3 g3.lt S3 hC0 (fun _ _ => rfl) (start_ok b) mn dict (by omega) (by omega)
      refine CallG.any (CallG.weak hu ?_)
      rintro v4 m4 n4 ⟨F4, hr4⟩
      have D4 := F4.rdm D3 (fun _ _ => rfl)
      have l23 := g2.le
      have l3 := g3.le
      have l4 := F4.le
      have cl2 := look_ltm g2.lt co2.co
      have cl2' := look_ltm g2.lt co2.li
      have d2l := look_ltm g3.lt dq3
      have dq4 := F4.kp n2 _ (by simp; omega) dq3
      -- the document's side, whatever comes of it
      have hkn := knew D4 F4.lt A B E hAB hE
      obtain ⟨res, hres⟩ : ∃ res, res = rdU (b.drop 5) (h.length + mn) dict mn (newC A B E) (newP A B) (start b) h := ⟨_, rfl⟩
      rw [← hres] at hr4
      cases res with
      | none =>
        subst hr4
        simp (maxSteps := 1000000) -implicitDefEqProofs only [go_sem, seval, -List.reduceReplicate, c1, c2]
        refine CallG.any (CallG.weak hkn ?_)
        rintro v5 m5 n5 ⟨rfl, g5, q', qc, qs, hd5, hq'⟩
        have g6 := g5.trans (Gr.cons g5.nd g5.lt (.cells [.ptr n2 0, .ptr (n4 + 1) 0] 98))
        have D6 := g6.rdm D4
        have l5 := g5.le
        have ql := look_ltm g5.lt hd5.ch
        have dl2 := look_ltm F4.lt dq4
        have g56 := Gr.cons g5.nd g5.lt (.cells [.ptr n2 0, .ptr (n4 + 1) 0] 98)
        have U6 : UA n5 n2 (n4 + 1) b (newC A B E) ((n5, .cells [.ptr n2 0, .ptr (n4 + 1) 0] 98) :: m5) (newP A B, start b) [n5, n2, n4 + 1, n4, q'] := ⟨n4, 4, q', qc, [], qs, rfl, ⟨look_c0 _ _ _, g6.kp _ _ dq4, hd5.ext fun k _ o ho => g56.kp k o ho, by omega, ⟨by omega, by omega, by omega⟩, ⟨by omega, by omega, by omega⟩, hb5, by omega, start_ok b⟩⟩
        have hur := uread D6 g6.lt U6 (.ro _ h) hC0 (fun _ _ => rfl) mn dict (by omega) (by omega)
        rw [← hres] at hur
        simp (maxSteps := 1000000) -implicitDefEqProofs only [go_sem, seval, -List.reduceReplicate]
        refine CallG.any (CallG.weak hur ?_)
        rintro v7 m7 n7 ⟨F7, rfl⟩
        simp (maxSteps := 1000000) -implicitDefEqProofs only [go_sem, seval, -List.reduceReplicate]
        refine kn08 ?_
        simp (maxSteps := 1000000) -implicitDefEqProofs only [go_sem, seval, -List.reduceReplicate]
        exact fin
      | some q4 =>
        obtain ⟨C', P', t', all⟩ := q4
        obtain ⟨s4, os4, ns4, rfl, hb4, hos4, co4, hd4, hns4, hC', ok4⟩ := hr4
        obtain ⟨p1, p2, p3, p4, p5⟩ := hb4.facts
        simp (maxSteps := 1000000) -implicitDefEqProofs only [go_sem, seval, -List.reduceReplicate, c1, c2, p1, p2, p3, p4, p5]
        refine CallG.any (CallG.weak hkn ?_)
        rintro v5 m5 n5 ⟨rfl, g5, q', qc, qs, hd5, hq'⟩
        have g6 := g5.trans (Gr.cons g5.nd g5.lt (.cells [.ptr n2 0, .ptr (n4 + 1) 0] 98))
        have D6 := g6.rdm D4
        have l5 := g5.le
        have ql := look_ltm g5.lt hd5.ch
        have dl2 := look_ltm F4.lt dq4
        have g56 := Gr.cons g5.nd g5.lt (.cells [.ptr n2 0, .ptr (n4 + 1) 0] 98)
        have U6 : UA n5 n2 (n4 + 1) b (newC A B E) ((n5, .cells [.ptr n2 0, .ptr (n4 + 1) 0] 98) :: m5) (newP A B, start b) [n5, n2, n4 + 1, n4, q'] := ⟨n4, 4, q', qc, [], qs, rfl, ⟨look_c0 _ _ _, g6.kp _ _ dq4, hd5.ext fun k _ o ho => g56.kp k o ho, by omega, ⟨by omega, by omega, by omega⟩, ⟨by omega, by omega, by omega⟩, hb5, by omega, start_ok b⟩⟩
        have hur := uread D6 g6.lt U6 (.ro _ h) hC0 (fun _ _ => rfl) mn dict (by omega) (by omega)
        rw [← hres] at hur
        simp (maxSteps := 1000000) -implicitDefEqProofs only [go_sem, seval, -List.reduceReplicate]
        refine CallG.any (CallG.weak hur ?_)
        rintro v7 m7 n7 ⟨F7, s7, os7, ns7, rfl, hb7, hos7, U7, hns7⟩
        obtain ⟨o1, o2, o3, o4, o5⟩ := hb7.facts
        have D7 := F7.rdm D6 (fun _ _ => rfl)
        have D7T := rdmT F7.nd (nx := n7)
        have osl := hb4.lt F4.lt
        have ndis : ∀ k, k < n4 → k ≠ n2 → k ∉ [n5, n2, n4 + 1, n4, q'] := fun k hk hk2 hm => by simp at hm; omega
        have ns4l : ∀ k ∈ ns4, k < n4 := fun k hk => by obtain ⟨o, ho⟩ := hd4.live k hk; exact look_ltm F4.lt ho
        have ns4n : ∀ k ∈ ns4, k ≠ n2 := fun k hk e => by
          rcases hns4 k hk with hx | hx
          · simp at hx; omega
          · omega
        have hb47 : ByAt 5 m7 s4 (all.drop h.length) os4 := (hb4.grow g6).ext fun k hk o ho => F7.kp k o (ndis k (osl k hk) (by have := hos4 k hk; omega)) ho
        have hd47 : DcAt a (b.drop 5) m7 t' ns4 := (hd4.ext fun k _ => g6.kp k).ext fun k hk o ho => F7.kp k o (ndis k (ns4l k hk) (ns4n k hk)) ho
        have co47 : CoAt (n1 + 1) n1 C' P' m7 := (co4.ext (fun o => g6.kp _ _) (fun o => g6.kp _ _)).ext (fun o ho => F7.kp _ _ (ndis _ (by omega) (by omega)) ho) (fun o ho => F7.kp _ _ (ndis _ (by omega) (by omega)) ho)
        obtain ⟨dn, dcap, dsp, hdn, hdec⟩ := id hd47
        obtain ⟨e7, rc7, q7, qc7, rs7, qs7, hns7', UU7⟩ := id U7
        have rd7 := UU7.rd
        have cc7 := UU7.co.co
        have re7 := UU7.co.re
        have dq7 := UU7.dq
        have rl7 := look_ltm F7.lt rd7
        have cl7 := look_ltm F7.lt cc7
        have f1 : decide (n7 ≤ n5) = false := decide_eq_false (by omega)
        have f2 : decide (n7 ≤ n4 + 1) = false := decide_eq_false (by omega)
        have DW := D7T.drawn []
        have hst : CallG false Try.prog 48 [.ptr (n1 + 1) 0] (wrD m7 n7 []) m7 n7 (PK (.int .i64 (C'.st : Nat)) m7 n7) := rstate DW co47
        simp (maxSteps := 1000000) -implicitDefEqProofs only [go_sem, seval, -List.reduceReplicate, p1, p2, p3, p4, p5, o1, o2, o3, o4, o5]
        refine ⟨Fx.mixed, .inl ⟨[(0, false), (1, false), (2, false), (3, false), (4, false), (5, false), (6, false), (7, false), (8, false), (9, false), (10, false), (12, false), (13, false), (14, false), (15, false), (16, false), (17, false), (18, false), (11, true), (19, false), (20, false), (21, false), (22, false), (24, false), (25, false), (26, false), (27, false), (28, false), (29, false), (30, false), (23, true), (31, true), (32, false), (33, false), (34, false), (36, false), (35, true), (37, true), (38, false), (39, false), (40, false), (41, true), (42, false), (43, false)], [], by kernel_rfl, (fun n hn => by cases hn), ?_⟩⟩
        simp (maxSteps := 1000000) -implicitDefEqProofs only [go_sem, seval, -List.reduceReplicate, p1, p2, p3, p4, p5, o1, o2, o3, o4, o5, rd7, cc7, f1, f2]
        rw [hb47.conv (rdOlds hb47 F7.lt) elBy inBy stBy]
        simp (maxSteps := 1000000) -implicitDefEqProofs only [go_sem, seval, -List.reduceReplicate, p1, p2, p3, p4, p5, o1, o2, o3, o4, o5, rd7, cc7, f1, f2]
        rw [hb7.conv (rdOlds hb7 F7.lt) elBy inBy stBy]
        simp (maxSteps := 1000000) -implicitDefEqProofs only [go_sem, seval, -List.reduceReplicate, p1, p2, p3, p4, p5, o1, o2, o3, o4, o5, rd7, cc7, f1, f2, strEq]
        refine CallG.any (CallG.pk hst ?_)
        simp (maxSteps := 1000000) -implicitDefEqProofs only [go_sem, seval, -List.reduceReplicate, rd7, cc7, f1, f2]
        refine CallG.any (CallG.weak (rrepeats DW F7.lt co47) ?_)
        rintro v8 m8 n8 ⟨rfl, g8⟩
        have re8 := g8.kp _ _ re7
        simp (maxSteps := 1000000) -implicitDefEqProofs only [go_sem, seval, -List.reduceReplicate, rd7, cc7, f1, f2]
        refine CallG.any (CallG.weak (kreps8 (g8.rdm DW) g8.lt C' re8) ?_)
        rintro v9 m9 n9 ⟨rfl, g9⟩
        have g89 := g8.trans g9
        have D9 := g89.rdm DW
        have hdec9 : DecAt a dn dcap (b.drop 5) dsp m9 t' := ⟨g89.kp _ _ hdec.at_, g89.kp _ _ hdec.row, hdec.ne, hdec.len⟩
        have hdd : CallG false Try.prog 57 [.ptr a 0] (wrD m7 n7 []) m9 n9 (PK (.bool (doneS (b.drop 5) t')) m9 n9) := ddoneOk D9 hdec9 ok4.1
        simp (maxSteps := 1000000) -implicitDefEqProofs only [go_sem, seval, -List.reduceReplicate]
        refine CallG.any (CallG.pk hdd ?_)
        simp (maxSteps := 1000000) -implicitDefEqProofs only [go_sem, seval, -List.reduceReplicate]
        refine CallG.any (CallG.pk (qdoneOk D9 g9.lt (g89.kp _ _ dq7) hb5) ?_)
        simp (maxSteps := 1000000) -implicitDefEqProofs only [go_sem, seval, -List.reduceReplicate, beq_self_eq_true]
        refine kn08 ?_
        simp (maxSteps := 1000000) -implicitDefEqProofs only [go_sem, seval, -List.reduceReplicate]
        exact fin
    · rw [if_neg hE0] at hif
      subst hif
      simp (maxSteps := 1000000) -implicitDefEqProofs only [go_sem, seval, -List.reduceReplicate]
      refine CallG.any (CallG.weak nn2 ?_)
      rintro v2 m2 n2 ⟨rfl, g2, co2⟩
      have D2 := g2.rdm D1
      have hq := qnewOk D2 g2.lt b (by omega)
      simp (maxSteps := 1000000) -implicitDefEqProofs only [go_sem, seval, -List.reduceReplicate]
      refine CallG.any (CallG.weak hq ?_)
      intro v3 m3 n3 hq3
      unfold QNewK at hq3
      rw [if_neg hE0] at hq3
      obtain ⟨rfl, hm3, rfl⟩ := hq3
      rw [hm3]
      simp (maxSteps := 1000000) -implicitDefEqProofs only [go_sem, seval, -List.reduceReplicate, bne_self_eq_false]
      refine CallG.any (CallG.pk (ureadNil D2 _ _ _ _) ?_)
      simp (maxSteps := 1000000) -implicitDefEqProofs only [go_sem, seval, -List.reduceReplicate]
      refine kn08 ?_
      simp (maxSteps := 1000000) -implicitDefEqProofs only [go_sem, seval, -List.reduceReplicate]
      exact fin
end Go.Proofs.Ytmdeoikpiiambaa
end
