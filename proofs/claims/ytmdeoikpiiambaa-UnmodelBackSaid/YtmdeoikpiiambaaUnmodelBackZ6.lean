/- Part 6 of the proof of the statement UnmodelBack: Mqa, Mqb, Mqc, Mqd. -/
import Derived.Test.YtmdeoikpiiambaaUnmodelBackZ5
section
/- Reading symbols: unmodel.Read. BRIEF -/
set_option linter.unusedVariables false
set_option linter.unusedSimpArgs false
set_option maxRecDepth 100000
namespace Go.Proofs.Ytmdeoikpiiambaa
open Go Go.Eng

theorem by_tail {P : Program} {t e ty : TypeId} {m : Mem} {v : AV} {X : List (BitVec 8)} {ns : List Nat} (h : ByAt ty m v X ns) (k : Nat) (hk : k ≤ X.length) (he : elemT P t = some e) (hz : sizeT P e = some 1) {q : AV → Prop} (hq : ∀ v', ByAt ty m v' (X.drop k) ns → q v') : slcx P t v (some (.int .i64 (k : Nat))) none q := by
  rcases h with ⟨rfl, rfl, rfl⟩ | ⟨rfl, rfl⟩ | ⟨n, off, cap, pre, sp, rfl, rfl, h3, rfl, h5, h6, h7, h8, h9⟩
  · have hk0 : k = 0 := by simpa using hk
    subst hk0
    rw [slcx_nils, he, Asks_some, hz, Asks_some]
    exact ⟨rfl, rfl, hq _ (.nil _)⟩
  · rw [slcx_ro, he, Asks_some, hz, Asks_some]
    refine ⟨_, rfl, _, rfl, ⟨by omega, by omega, by omega⟩, ?_⟩
    have e1 : (((X.length : Nat) : Int).toNat - ((k : Nat) : Int).toNat) = (X.drop k).length := by rw [List.length_drop]; omega
    have e2 : (bvs IntKind.u8 X).drop (((k : Nat) : Int).toNat * 1) = bvs .u8 (X.drop k) := by rw [Nat.mul_one, Int.toNat_natCast]; simp only [bvs, List.map_drop]
    rw [e1, e2]
    have e3 : (bvs IntKind.u8 (X.drop k)).take ((X.drop k).length * 1) = bvs .u8 (X.drop k) := by rw [Nat.mul_one, List.take_of_length_le (by rw [bvs_length]; exact Nat.le_refl _)]
    rw [e3]
    exact hq _ (.ro _ _)
  · rw [slcx_sl, he, Asks_some, hz, Asks_some]
    refine ⟨_, rfl, _, rfl, ⟨by omega, by omega, by omega⟩, ?_⟩
    have e1 : (((X.length : Nat) : Int).toNat - ((k : Nat) : Int).toNat) = (X.drop k).length := by rw [List.length_drop]; omega
    rw [e1]
    refine hq _ (.inr (.inr ⟨n, _, _, pre ++ bvs .u8 (X.take k), sp, rfl, rfl, ?_, ?_, ?_, ?_, ?_, ?_, h9⟩))
    · rw [h3, List.append_assoc, ← List.append_assoc (bvs .u8 (X.take k)), bvs_append, List.take_append_drop]
    · rw [List.length_append, bvs_length, List.length_take, Int.toNat_natCast]; omega
    · rw [List.length_drop, Int.toNat_natCast]; omega
    · rw [List.length_drop, Int.toNat_natCast]; omega
    · omega
    · rw [List.all_append, h8, bvs_pln]; rfl
theorem elBy : elemT Try.prog 22 = some 5 := by kernel_rfl
theorem inSz : sizeT Try.prog 5 = some 1 := by kernel_rfl
/-- the history is grown in its place -/
theorem MS.newh {I : IoS} {c q : Nat} {hv hv' : AV} {h h' : List (BitVec 8)} {hs hs' : List Nat} {C : MC} {P : List (BitVec 16)} {s : I.σ} {ns : List Nat} {m m' : Mem} {nx : Nat} (S : MS I c q hv h hs C P s ns m) (lt : ∀ p ∈ m, p.1 < nx) (kp : ∀ k o, k ∉ hs → Eng.look m k = some o → Eng.look m' k = some o) (hi : ByAt 5 m' hv' h' hs') (hn : ∀ k ∈ hs', k ∈ hs ∨ nx ≤ k) : MS I c q hv' h' hs' C P s ns m' := by
  obtain ⟨x1, x2, x3, x4⟩ := S.live lt
  refine ⟨S.co.ext (fun o => kp _ _ S.hc) (fun o => kp _ _ S.hq), I.ext S.io fun k hk o ho => kp k o (fun hm => S.hn k hm hk) ho, hi, S.nc, S.nq, ?_, ?_, ?_⟩
  · intro hm
    rcases hn _ hm with h | h
    · exact S.hc h
    · omega
  · intro hm
    rcases hn _ hm with h | h
    · exact S.hq h
    · omega
  · intro k hk hm
    rcases hn k hk with h | h
    · exact S.hn k h hm
    · have := x3 k hm; omega
/-- what is read, symbol by symbol -/
def rdU (D : List (BitVec 8)) (en : Nat) (dict : Int) : Nat → MC → List (BitVec 16) → DS → List (BitVec 8) → Option (MC × List (BitVec 16) × DS × List (BitVec 8))
  | 0, C, P, t, all => if all.length < en then none else some (C, P, t, all)
  | f + 1, C, P, t, all =>
    if all.length < en then
      if (run (decM D) (symP C all syZ) P t).2.2.o = true then none
      else if (run (decM D) (symP C all syZ) P t).1.1.k = 0 then rdU D en dict f (run (decM D) (symP C all syZ) P t).1.2 (run (decM D) (symP C all syZ) P t).2.1 (run (decM D) (symP C all syZ) P t).2.2 (all ++ [(run (decM D) (symP C all syZ) P t).1.1.b])
      else if ((run (decM D) (symP C all syZ) P t).1.2.r0 : Int) > (all.length : Int) ∨ ((run (decM D) (symP C all syZ) P t).1.2.r0 : Int) > dict ∨ (run (decM D) (symP C all syZ) P t).1.1.l > (en : Int) - (all.length : Int) then none
      else rdU D en dict f (run (decM D) (symP C all syZ) P t).1.2 (run (decM D) (symP C all syZ) P t).2.1 (run (decM D) (symP C all syZ) P t).2.2 (growN all (run (decM D) (symP C all syZ) P t).1.2.r0 (run (decM D) (symP C all syZ) P t).1.1.l.toNat)
    else some (C, P, t, all)
/-- the call's end -/
def RdUK (a : Nat) (D : List (BitVec 8)) (c q : Nat) (h : List (BitVec 8)) (r : Option (MC × List (BitVec 16) × DS × List (BitVec 8))) (ns : List Nat) (m : Mem) (nx : Nat) : Kv := fun v m' nx' => Fr (c :: q :: ns) m nx m' nx' ∧ match r with
  | none => v = .tup [.nils, .int .i64 6]
  | some (C', P', t', all) => ∃ s os ns', v = .tup [s, .int .i64 0] ∧ ByAt 5 m' s (all.drop h.length) os ∧ (∀ k ∈ os, nx ≤ k) ∧ CoAt c q C' P' m' ∧ DcAt a D m' t' ns' ∧ (∀ k ∈ ns', k ∈ ns ∨ nx ≤ k) ∧ MCok C' ∧ okS D t'
structure UG where
  C : MC
  P : List (BitVec 16)
  t : DS
  all : List (BitVec 8)
  v : AV
  vs : List Nat
  ns : List Nat
  M : Mem
  n : Nat
structure UI (a : Nat) (D : List (BitVec 8)) (hD : D.length ≤ 1000000) (c q : Nat) (ns : List Nat) (m : Mem) (nx : Nat) (h : List (BitVec 8)) (en : Nat) (dict : Int) (many : Nat) (r : Option (MC × List (BitVec 16) × DS × List (BitVec 8))) (i : Nat) (g : UG) : Prop where
  S : MS (decIo a D hD) c q g.v g.all g.vs g.C g.P g.t g.ns g.M
  F : Fr (c :: q :: ns) m nx g.M g.n
  nr : g.v ≠ .ro g.all.length (bvs .u8 g.all)
  vn : ∀ k ∈ g.vs, nx ≤ k
  sn : ∀ k ∈ g.ns, k ∈ ns ∨ nx ≤ k
  r : rdU D en dict (many - i) g.C g.P g.t g.all = r
  l1 : h.length + i ≤ g.all.length
  l2 : g.all.length ≤ en
  C : MCok g.C
  ok : okS D g.t
section
variable {wr : Nat → Bool} {m : Mem} {nx a c q : Nat} {D : List (BitVec 8)} {hD : D.length ≤ 1000000} {hv : AV} {h : List (BitVec 8)} {hs : List Nat} {C : MC} {P : List (BitVec 16)} {t : DS} {ns : List Nat}
set_option maxHeartbeats 8000000 in
theorem ureadOk (R : Rdm wr m nx) (lt : ∀ p ∈ m, p.1 < nx) (S : MS (decIo a D hD) c q hv h hs C P t ns m) (hC : MCok C) (hw : ∀ k ∈ c :: q :: ns, wr k = true) (hok : okS D t) (many : Nat) (dict : Int) (hh : h.length + many ≤ 50000000) (hd1 : 1 ≤ dict) :
    CallG false Try.prog 59 [.ptr a 0, .ptr c 0, hv, .int .i64 (many : Nat), .int .i64 dict] wr m nx (RdUK a D c q h (rdU D (h.length + many) dict many C P t h) ns m nx) := by
  refine fn_okG Try.func59 rfl (by show 5 ≤ _; decide) ?_
  have e1 : decide (((many : Nat) : Int) < 0) = false := decide_eq_false (by omega)
  have e2 : decide (dict < 1) = false := decide_eq_false (by omega)
  have G1 := Gr.cons R.nd lt (.cells [] 5)
  obtain ⟨q1, q2, q3, q4, q5⟩ := S.hi.facts
  have q6 := S.hi.len Try.prog 22
  have zs := (S.hi.grow G1).src
  simp only [srcx, Nat.mul_one, Eng.look] at zs
  simp (maxSteps := 1000000) -implicitDefEqProofs only [go_sem, seval, -List.reduceReplicate, Try.results59, Try.ntmps59, e1, e2, q1, q2, q3, q4, q5, q6, zs, one1_bvs]
  have r0 : ByAt 5 ((nx, .cells [] 5) :: m) (.sl nx 0 0 0) [] [nx] := .row (X := []) (sp := []) rfl (by rw [look_cons, if_pos rfl]; rfl) rfl (by decide) rfl
  refine ⟨.inr trivial, ?_⟩
  refine appk_by (Y := h) r0 (fun e => by cases e) G1.nd (fun n hn => R.wn n (by omega)) G1.lt (fun k hk => R.wn k (by cases List.mem_singleton.1 hk; omega)) (by rw [List.length_nil]; omega) ?_
  intro v1 m1 nx1 ns1 b1 b2 b3 b4 b5 b6 b7 b8
  rw [List.nil_append] at b1 b2
  have n1 : ∀ k ∈ ns1, nx ≤ k := fun k hk => by
    rcases b4 k hk with h | h
    · cases List.mem_singleton.1 h; exact Nat.le_refl _
    · omega
  have g1 : Gr m nx m1 nx1 := gr_app G1 lt (ns1 := [nx]) (fun k hk => by cases List.mem_singleton.1 hk; omega) b3 b5 b6 b7
  have wE : IntKind.i64.wrap (((h.length : Nat) : Int) + ((many : Nat) : Int)) = ((h.length + many : Nat) : Int) := by rw [wrap_i64] <;> omega
  obtain ⟨x1, x2, x3, x4⟩ := S.live lt
  have S1 := (S.gr g1).his b1 (fun hm => by have := n1 _ hm; omega) (fun hm => by have := n1 _ hm; omega) (fun k hk hm => by have := n1 k hk; have := x3 k hm; omega)
  simp (maxSteps := 1000000) -implicitDefEqProofs only [go_sem, seval, -List.reduceReplicate, q1, q2, q3, q4, q5, q6, wE]
  refine LoopOk.upX (UI a D hD c q ns m nx h (h.length + many) dict many (rdU D (h.length + many) dict many C P t h)) many
    (fun i g => ([(13, .int .i64 ((h.length + many : Nat) : Int)), (12, g.v), (11, .int .i64 0), (10, .nils), (0, .ptr a 0), (1, .ptr c 0), (2, hv), (3, .int .i64 (many : Nat)), (4, .int .i64 dict)], g.M, g.n)) ⟨C, P, t, h, v1, ns1, ns, m1, nx1⟩
    ⟨S1, Fr.gr g1, b2, n1, fun k hk => .inl hk, rfl, Nat.le_refl _, Nat.le_add_right _ _, hC, hok⟩ ((g1.rdm R).leN g1.le ⟨rfl, rfl, rfl, rfl, rfl, rfl, rfl, rfl, rfl, trivial⟩) ?_
  rintro i g ⟨hi, I⟩
  have RM := I.F.rdm R hw
  have hi' : i ≤ many := hi
  obtain ⟨p1, p2, p3, p4, p5⟩ := I.S.hi.facts
  have p6 := I.S.hi.len Try.prog 22
  have l1 := I.l1
  have l2 := I.l2
  by_cases hlt : g.all.length < h.length + many
  · have c1 : decide (((g.all.length : Nat) : Int) < ((h.length + many : Nat) : Int)) = true := decide_eq_true (by omega)
    have hwg := sub3 (c := c) (q := q) I.sn
    have hww : ∀ k ∈ c :: q :: g.ns, wr k = true := wrT R hw hwg
    have hcode := rcode RM I.F.lt I.S I.C (by omega) hww (show (decIo a D hD).Ok g.t 24 from I.ok) syZ (.inl ⟨by decide, by decide, by decide, by decide⟩)
    have hr := I.r
    obtain ⟨f, hf⟩ : ∃ f, many - i = f + 1 := ⟨many - i - 1, by omega⟩
    rw [hf, rdU, if_pos hlt] at hr
    obtain ⟨hsy, hCm, hkin⟩ := All.run (decM D) g.P g.t (symP_all I.C g.all syZ)
    have hok2 := (decBud D).run 24 0 (symP g.C g.all syZ) g.P g.t (symP_le _ _ _) I.ok
    have hrun : ∃ r, r = run (decM D) (symP g.C g.all syZ) g.P g.t := ⟨_, rfl⟩
    obtain ⟨⟨⟨y, C2⟩, P2, t2⟩, hrr⟩ := hrun
    have key : ∀ (r r' : (Sy × MC) × List (BitVec 16) × DS), r = r' → CallG false Try.prog 56 [.ptr c 0, .iface (decIo a D hD).ty (decIo a D hD).rc, g.v, .agg (syL syZ)] wr g.M g.n (CK (decIo a D hD) c q g.v g.all g.vs (fun y => .agg (syL y)) r g.ns g.M g.n) → CallG false Try.prog 56 [.ptr c 0, .iface (decIo a D hD).ty (decIo a D hD).rc, g.v, .agg (syL syZ)] wr g.M g.n (CK (decIo a D hD) c q g.v g.all g.vs (fun y => .agg (syL y)) r' g.ns g.M g.n) := fun _ _ e h => e ▸ h
    have hcode2 := key _ _ hrr.symm hcode
    rw [← hrr] at hr hsy hCm hok2
    dsimp only at hr hsy hCm hok2
    have sp5 : spl [AV.int IntKind.i64 0, AV.int IntKind.u8 0, AV.int IntKind.i64 0, AV.int IntKind.i64 0, AV.int IntKind.i64 0] 0 (syL y) = syL y := rfl
    have sp5' : ∀ a b d e f : AV, spl [AV.int IntKind.i64 0, AV.int IntKind.u8 0, AV.int IntKind.i64 0, AV.int IntKind.i64 0, AV.int IntKind.i64 0] 0 [a, b, d, e, f] = [a, b, d, e, f] := fun _ _ _ _ _ => rfl
    simp (maxSteps := 1000000) -implicitDefEqProofs only [go_sem, seval, -List.reduceReplicate, p1, p2, p3, p4, p5, p6, c1]
    refine CallG.weak hcode2 ?_
    rintro v m2 n2 ⟨rfl, fr2, ns2, S2, hn2⟩
    have R2 := fr2.rdm RM hww
    simp (maxSteps := 1000000) -implicitDefEqProofs only [go_sem, seval, -List.reduceReplicate, p1, p2, p3, p4, p5, p6, syL, sp5']
    refine ⟨R2.wn n2 (Nat.le_refl _), ?_⟩
    have gA := Gr.cons R2.nd fr2.lt (.cells (syL y) 71)
    have RA := gA.rdm R2
    have SA := S2.gr gA
    have n2l := fr2.le
    have FA : Fr (c :: q :: ns) m nx ((n2, .cells (syL y) 71) :: m2) (n2 + 1) := (I.F.trans fr2 lt hwg).trans (Fr.gr (ns := []) gA) lt (fun k hk => by cases hk)
    have bxA : Eng.look ((n2, AObj.cells (syL y) 71) :: m2) n2 = some (.cells (syL y) 71) := look_c0 _ _ _
    have hio : DcAt a D ((n2, AObj.cells (syL y) 71) :: m2) t2 ns2 := SA.io
    obtain ⟨dn, dcap, dsp, hdn, hdec⟩ := id hio
    have hout : CallG false Try.prog 114 [.ptr a 0] wr ((n2, AObj.cells (syL y) 71) :: m2) (n2 + 1) (PK (.bool t2.o) ((n2, AObj.cells (syL y) 71) :: m2) (n2 + 1)) := doutOk RA hdec
    have sn2 : ∀ k ∈ ns2, k ∈ ns ∨ nx ≤ k := subT I.sn hn2 I.F.le
    have Fl := I.F.le
    refine CallG.pk hout ?_
    cases ho : t2.o with
    | true =>
      rw [if_pos ho] at hr
      simp (maxSteps := 1000000) -implicitDefEqProofs only [go_sem, seval, -List.reduceReplicate]
      rw [← hr]
      exact Fin.keepW (m0 := _) FA.le (memSame_slf FA.nd) FA.nd (FA.rdm R hw).kp ⟨FA, rfl⟩
    | false =>
      rw [if_neg (by rw [ho]; decide)] at hr
      unfold syL at bxA
      by_cases hk : y.k = 0
      · rw [if_pos hk] at hr
        have k0 : (y.k == 0) = true := by simp [hk]
        simp (maxSteps := 1000000) -implicitDefEqProofs only [go_sem, seval, -List.reduceReplicate, p1, p2, p3, p4, p5, p6, bxA, k0]
        refine ⟨.inr trivial, rfl, ?_⟩
        have gc := Gr.cons gA.nd gA.lt (.cells (bvs .u8 [y.b]) 5)
        have gAc := gA.trans gc
        have SB := S2.gr gAc
        have vnA : ∀ k ∈ g.vs, wr k = true := fun k hk => R.wn k (I.vn k hk)
        change appk g.v ((n2 + 1, .cells (bvs .u8 [y.b]) 5) :: _) (n2 + 1 + 1) wr 5 1 1 (([y.b] : List (BitVec 8)).length, bvs .u8 [y.b]) _
        refine appk_by SB.hi I.nr gc.nd (fun n hn => R.wn n (by omega)) gc.lt vnA (by show g.all.length + 1 ≤ _; omega) ?_
        intro v3 m3 n3 vs3 d1 d2 d3 d4 d5 d6 d7 d8
        have S3 := SB.newh gc.lt d7 d1 (fun k hk => d4 k hk)
        have F3 : Fr (c :: q :: ns) m nx m3 n3 := ⟨by omega, d5, d6, fun k o hk ho => d7 k o (fun hm => by have := I.vn k hm; have := look_ltm lt ho; omega) (gAc.kp k o ((I.F.trans fr2 lt hwg).kp k o hk ho))⟩
        simp (maxSteps := 1000000) -implicitDefEqProofs only [go_sem, seval, -List.reduceReplicate]
        refine UpX_normal (show i < many by omega) ⟨C2, P2, t2, g.all ++ [y.b], v3, vs3, ns2, m3, n3⟩ ⟨S3, F3, d2, fun k hk => ?_, sn2, ?_, ?_, ?_, hCm, hok2⟩ ((F3.rdm R hw).leN F3.le ⟨rfl, rfl, rfl, rfl, rfl, rfl, rfl, rfl, rfl, trivial⟩)
        · rcases d4 k hk with h | h
          · exact I.vn k h
          · omega
        · rw [← hr]; show rdU _ _ _ (many - (i + 1)) _ _ _ _ = _; rw [show many - (i + 1) = f by omega]
        · rw [List.length_append]; show _ ≤ _ + 1; omega
        · rw [List.length_append]; show _ + 1 ≤ _; omega
      · rw [if_neg hk] at hr
        have k0 : (y.k == 0) = false := by simp [hk]
        have hyl : 1 ≤ y.l ∧ y.l ≤ 273 := by
          rcases hsy with ⟨h, _⟩ | ⟨h, h1, h2, _⟩ | ⟨h, h1, h2, _⟩
          · exact absurd h hk
          · omega
          · omega
        obtain ⟨l, hl⟩ : ∃ l : Nat, y.l = (l : Int) := ⟨y.l.toNat, by omega⟩
        have hr0 := hCm.r0
        simp (maxSteps := 1000000) -implicitDefEqProofs only [go_sem, seval, -List.reduceReplicate, p1, p2, p3, p4, p5, p6, bxA, k0]
        refine CallG.weak (rrepeats RA gA.lt SA.co) ?_
        rintro v m6 n6 ⟨rfl, g6⟩
        have gA6 := gA.trans g6
        have S6 := S2.gr gA6
        have bx6 := g6.kp _ _ bxA
        have n6l := g6.le
        have F6 : Fr (c :: q :: ns) m nx m6 n6 := (I.F.trans fr2 lt hwg).trans (Fr.gr (ns := []) gA6) lt (fun k hk => by cases hk)
        have wl : IntKind.i64.wrap (((h.length + many : Nat) : Int) - ((g.all.length : Nat) : Int)) = ((h.length + many : Nat) : Int) - ((g.all.length : Nat) : Int) := by rw [wrap_i64] <;> omega
        have fin6 : rdU D (h.length + many) dict many C P t h = none → Eng.Fin nx wr m6 n6 (RdUK a D c q h (rdU D (h.length + many) dict many C P t h) ns m nx) (.tup [.nils, .int .i64 6]) := fun e => by
          rw [e]; exact Fin.keepW (m0 := _) F6.le (memSame_slf F6.nd) F6.nd (F6.rdm R hw).kp ⟨F6, rfl⟩
        by_cases a1 : ((C2.r0 : Nat) : Int) > ((g.all.length : Nat) : Int)
        · have d1 : decide (((C2.r0 : Nat) : Int) > ((g.all.length : Nat) : Int)) = true := decide_eq_true a1
          rw [if_pos (.inl a1)] at hr
          simp (maxSteps := 1000000) -implicitDefEqProofs only [go_sem, seval, -List.reduceReplicate, rpL, p1, p2, p3, p4, p5, p6, bx6, d1]
          exact fin6 hr.symm
        have d1 : decide (((C2.r0 : Nat) : Int) > ((g.all.length : Nat) : Int)) = false := decide_eq_false a1
        by_cases a2 : ((C2.r0 : Nat) : Int) > dict
        · have d2 : decide (((C2.r0 : Nat) : Int) > dict) = true := decide_eq_true a2
          rw [if_pos (.inr (.inl a2))] at hr
          simp (maxSteps := 1000000) -implicitDefEqProofs only [go_sem, seval, -List.reduceReplicate, rpL, p1, p2, p3, p4, p5, p6, bx6, d1, d2]
          exact fin6 hr.symm
        have d2 : decide (((C2.r0 : Nat) : Int) > dict) = false := decide_eq_false a2
        rw [hl] at bx6
        by_cases a3 : y.l > ((h.length + many : Nat) : Int) - ((g.all.length : Nat) : Int)
        · have d3 : decide (((l : Nat) : Int) > ((h.length + many : Nat) : Int) - ((g.all.length : Nat) : Int)) = true := decide_eq_true (by rw [← hl]; exact a3)
          rw [if_pos (.inr (.inr a3))] at hr
          simp (maxSteps := 1000000) -implicitDefEqProofs only [go_sem, seval, -List.reduceReplicate, rpL, p1, p2, p3, p4, p5, p6, bx6, d1, d2, d3, wl]
          exact fin6 hr.symm
        have d3 : decide (((l : Nat) : Int) > ((h.length + many : Nat) : Int) - ((g.all.length : Nat) : Int)) = false := decide_eq_false (by rw [← hl]; exact a3)
        rw [if_neg (by rintro (h | h | h) <;> contradiction), hl, Int.toNat_natCast] at hr
        simp (maxSteps := 1000000) -implicitDefEqProofs only [go_sem, seval, -List.reduceReplicate, rpL, p1, p2, p3, p4, p5, p6, bx6, d1, d2, d3, wl]
        have R6 := F6.rdm R hw
        have vnA : ∀ k ∈ g.vs, wr k = true := fun k hk => R.wn k (I.vn k hk)
        have b6 : ByAt 5 m6 g.v g.all g.vs := S6.hi
        refine LoopOk.upX (fun j (x : AV × List Nat × Mem × Nat) => Fr g.vs m6 n6 x.2.2.1 x.2.2.2 ∧ ByAt 5 x.2.2.1 x.1 (growN g.all C2.r0 j) x.2.1 ∧ x.1 ≠ .ro (growN g.all C2.r0 j).length (bvs .u8 (growN g.all C2.r0 j)) ∧ ∀ k ∈ x.2.1, k ∈ g.vs ∨ n6 ≤ k) l
          (fun j x => ([(80, .int .i64 (j : Nat)), (79, .int .i64 (l : Nat)), (15, .int .i64 (C2.r0 : Nat)), (13, .int .i64 ((h.length + many : Nat) : Int)), (12, x.1), (11, .int .i64 0), (10, .nils), (0, .ptr a 0), (1, .ptr c 0), (2, hv), (3, .int .i64 (many : Nat)), (4, .int .i64 dict)], x.2.2.1, x.2.2.2)) (g.v, g.vs, m6, n6) ⟨.refl F6.nd F6.lt, b6, I.nr, fun k hk => .inl hk⟩ (R6.leN F6.le ⟨rfl, rfl, rfl, rfl, rfl, rfl, rfl, rfl, rfl, rfl, rfl, rfl, trivial⟩) ?_
        rintro j ⟨v7, vs7, m7, n7⟩ ⟨hj, u1, u2, u3, u4⟩
        have u1 : Fr g.vs m6 n6 m7 n7 := u1
        have u2 : ByAt 5 m7 v7 (growN g.all C2.r0 j) vs7 := u2
        have u3 : v7 ≠ .ro (growN g.all C2.r0 j).length (bvs .u8 (growN g.all C2.r0 j)) := u3
        have u4 : ∀ k ∈ vs7, k ∈ g.vs ∨ n6 ≤ k := u4
        have hgl := growN_len g.all C2.r0 j
        obtain ⟨o1, o2, o3, o4, o5⟩ := u2.facts
        have o6 := u2.len Try.prog 22
        have R7 := u1.rdm R6 vnA
        have vnB : ∀ k ∈ vs7, wr k = true := fun k hk => R.wn k (by
          rcases u4 k hk with h | h
          · exact I.vn k h
          · have := F6.le; omega)
        rcases Nat.lt_or_ge j l with h' | h'
        · have c3 : decide (((j : Nat) : Int) < ((l : Nat) : Int)) = true := decide_eq_true (by omega)
          have wj : IntKind.i64.wrap (((j : Nat) : Int) + 1) = ((j + 1 : Nat) : Int) := by rw [wrap_i64] <;> omega
          have w1 : IntKind.i64.wrap (((growN g.all C2.r0 j).length : Int) - (C2.r0 : Int)) = (((growN g.all C2.r0 j).length - C2.r0 : Nat) : Int) := by rw [wrap_i64] <;> omega
          obtain ⟨p, hp1, hp2⟩ := u2.idx (t := 22) ((growN g.all C2.r0 j).length - C2.r0) (by omega) el5 sz5 kn5 ag5 df5
          simp (maxSteps := 1000000) -implicitDefEqProofs only [go_sem, seval, -List.reduceReplicate, c3, o1, o2, o3, o4, o5, o6, w1]
          refine hp1 _ ?_
          simp (maxSteps := 1000000) -implicitDefEqProofs only [go_sem, seval, -List.reduceReplicate, o1, o2, o3, o4, o5, o6]
          refine hp2 _ _ (fun _ _ => rfl) ?_
          simp (maxSteps := 1000000) -implicitDefEqProofs only [go_sem, seval, -List.reduceReplicate, o1, o2, o3, o4, o5, o6, one1_bvs]
          refine ⟨.inr trivial, rfl, ?_⟩
          change appk v7 ((n7, .cells (bvs .u8 [(growN g.all C2.r0 j).getD ((growN g.all C2.r0 j).length - C2.r0) 0#8]) 5) :: m7) (n7 + 1) wr 5 1 1 (([(growN g.all C2.r0 j).getD ((growN g.all C2.r0 j).length - C2.r0) 0#8] : List (BitVec 8)).length, bvs .u8 [(growN g.all C2.r0 j).getD ((growN g.all C2.r0 j).length - C2.r0) 0#8]) _
          have gc := Gr.cons u1.nd u1.lt (.cells (bvs .u8 [(growN g.all C2.r0 j).getD ((growN g.all C2.r0 j).length - C2.r0) 0#8]) 5)
          refine appk_by (u2.grow gc) u3 gc.nd (fun n hn => R7.wn n (by omega)) gc.lt vnB (by rw [hgl]; show _ + 1 ≤ _; omega) ?_
          intro v8 m8 n8 vs8 d1 d2 d3 d4 d5 d6 d7 d8
          have F8 : Fr vs7 m7 n7 m8 n8 := ⟨by omega, d5, d6, fun k o hk ho => d7 k o hk (gc.kp k o ho)⟩
          have F8' := u1.trans F8 F6.lt u4
          simp (maxSteps := 1000000) -implicitDefEqProofs only [go_sem, seval, -List.reduceReplicate, wj]
          exact UpX_normal h' (v8, vs8, m8, n8) ⟨F8', d1, d2, subT u4 (fun k hk => (d4 k hk).imp id fun h => by omega) u1.le⟩ ((F8'.rdm R6 vnA).leN (Nat.le_trans F6.le F8'.le) ⟨rfl, rfl, rfl, rfl, rfl, rfl, rfl, rfl, rfl, rfl, rfl, rfl, trivial⟩)
        · have hjl : j = l := by
            have : j ≤ l := hj
            omega
          subst hjl
          have c3 : decide (((j : Nat) : Int) < ((j : Nat) : Int)) = false := decide_eq_false (by omega)
          have S7 := S6.newh F6.lt u1.kp u2 u4
          have F7 : Fr (c :: q :: ns) m nx m7 n7 := F6.trans u1 lt (fun k hk => .inr (I.vn k hk))
          simp (maxSteps := 1000000) -implicitDefEqProofs only [go_sem, seval, -List.reduceReplicate, c3]
          refine UpX_normal (show i < many by omega) ⟨C2, P2, t2, growN g.all C2.r0 j, v7, vs7, ns2, m7, n7⟩ ⟨S7, F7, u3, fun k hk => ?_, sn2, ?_, ?_, ?_, hCm, hok2⟩ ((F7.rdm R hw).leN F7.le ⟨rfl, rfl, rfl, rfl, rfl, rfl, rfl, rfl, rfl, trivial⟩)
          · rcases u4 k hk with h | h
            · exact I.vn k h
            · have := F6.le; omega
          · rw [← hr]; show rdU _ _ _ (many - (i + 1)) _ _ _ _ = _; rw [show many - (i + 1) = f by omega]
          · rw [hgl]; omega
          · rw [hgl]; omega
  · have c1 : decide (((g.all.length : Nat) : Int) < ((h.length + many : Nat) : Int)) = false := decide_eq_false (by omega)
    have hr := I.r
    have hr' : some (g.C, g.P, g.t, g.all) = rdU D (h.length + many) dict many C P t h := by
      rw [← hr]
      cases hf : many - i with
      | zero => rw [rdU, if_neg hlt]
      | succ f => rw [rdU, if_neg hlt]
    simp (maxSteps := 1000000) -implicitDefEqProofs only [go_sem, seval, -List.reduceReplicate, p1, p2, p3, p4, p5, p6, c1, q1, q2, q3, q4, q5, q6]
    refine by_tail I.S.hi h.length (by omega) elBy inSz ?_
    intro s hs'
    simp (maxSteps := 1000000) -implicitDefEqProofs only [go_sem, seval, -List.reduceReplicate]
    rw [← hr']
    exact Fin.keepW (m0 := _) I.F.le (memSame_slf I.F.nd) I.F.nd RM.kp ⟨I.F, s, g.vs, g.ns, rfl, hs', I.vn, I.S.co, I.S.io, I.sn, I.C, I.ok⟩
end
end Go.Proofs.Ytmdeoikpiiambaa
end
section
/- What was coded is read, with dictionaries and numbers of bytes: no program in sight. BRIEF -/
set_option linter.unusedVariables false
set_option linter.unusedSimpArgs false
set_option maxRecDepth 100000
namespace Go.Proofs.Ytmdeoikpiiambaa
open Go Go.Eng

/-- the reader is never out -/
def Nout (D : List (BitVec 8)) (L : List Ded) (t : DS) : Prop := ∀ j, ((L.take j).foldl (stepD D) t).o = false
theorem Nout.app {D : List (BitVec 8)} {a b : List Ded} {t : DS} (h : Nout D (a ++ b) t) : Nout D a t ∧ Nout D b (a.foldl (stepD D) t) := by
  refine ⟨fun j => ?_, fun j => ?_⟩
  · have := h (min j a.length)
    rw [List.take_append_of_le_length (Nat.min_le_right _ _)] at this
    by_cases hj : j ≤ a.length
    · rw [Nat.min_eq_left hj] at this; exact this
    · rw [Nat.min_eq_right (by omega), List.take_length] at this
      rw [List.take_of_length_le (by omega)]; exact this
  · have := h (a.length + j)
    rw [List.take_append, List.take_of_length_le (by omega), List.foldl_append, Nat.add_sub_cancel_left] at this
    exact this
theorem Nout.all {D : List (BitVec 8)} {a : List Ded} {t : DS} (h : Nout D a t) : (a.foldl (stepD D) t).o = false := by
  have := h a.length
  rw [List.take_length] at this; exact this
theorem told_nout (a : List Cmd) (P : List (BitVec 16)) (hb : boundL a) {F : List (BitVec 8)} (hF : (told rencM a P newR).2.low = F) (h4 : 4 ≤ F.length) : Nout (F.drop 4) (deeds a P) (start (0#8 :: F)) := by
  have ht := (told_deeds a P (newS, newR) hb).2
  have e1 := runE_foldl (deeds a P) _ (Nat.le_refl _)
  rw [List.take_length] at e1
  have hF' : (runE (deeds a P) (deeds a P).length).2.low = F := by rw [e1, ← ht]; exact hF
  subst hF'
  have hA : Agr (runE (deeds a P) (deeds a P).length).2.low ((runE (deeds a P) (deeds a P).length).2.low.drop 4) := fun i hi => ⟨by rw [List.length_drop]; omega, by simp [List.getD_eq_getElem?_getD, Nat.add_comm]⟩
  have h0 := start_dr (0#8 :: (runE (deeds a P) (deeds a P).length).2.low) (runE (deeds a P) (deeds a P).length).2.low h4 (fun i _ => rfl)
  have key : ∀ j, j ≤ (deeds a P).length → (((deeds a P).take j).foldl (stepD ((runE (deeds a P) (deeds a P).length).2.low.drop 4)) (start (0#8 :: (runE (deeds a P) (deeds a P).length).2.low))).o = false := fun j hj => by
    rw [← runD_foldl _ _ _ _ hj]
    obtain ⟨o, k, r, c⟩ := dr_all (deeds a P) (deeds a P).length hA h0 j hj
    exact o
  intro j
  by_cases hj : j ≤ (deeds a P).length
  · exact key j hj
  · have := key _ (Nat.le_refl _)
    rw [List.take_length] at this
    rw [List.take_of_length_le (by omega)]; exact this
/-- how many bytes a symbol stands for -/
def lenS (y : Sy) : Nat := if y.k = 0 then 1 else y.l.toNat
theorem fits_len {C : MC} {n : Nat} {y : Sy} (h : fitsB C n y = true) : 1 ≤ lenS y ∧ lenS y ≤ 273 ∧ (y.k ≠ 0 → (lenS y : Int) = y.l) := by
  unfold fitsB at h
  unfold lenS
  by_cases h0 : y.k = 0
  · rw [if_pos h0]; exact ⟨by decide, by decide, fun e => absurd h0 e⟩
  rw [if_neg h0] at h ⊢
  by_cases h1 : y.k = 1
  · rw [if_pos h1] at h
    simp only [Bool.and_eq_true, decide_eq_true_eq] at h
    exact ⟨by omega, by omega, fun _ => by omega⟩
  rw [if_neg h1] at h
  by_cases h2 : y.k = 2
  · rw [if_pos h2] at h
    simp only [Bool.and_eq_true, Bool.or_eq_true, decide_eq_true_eq] at h
    exact ⟨by omega, by omega, fun _ => by omega⟩
  · rw [if_neg h2] at h; cases h
theorem grow_len (h : List (BitVec 8)) (y : Sy) (d : Nat) : (growS h y d).length = h.length + lenS y := by
  unfold growS lenS
  split
  · rw [List.length_append]; rfl
  · rw [growN_len]
theorem bec_r0 {C : MC} {n : Nat} {y : Sy} (h : fitsB C n y = true) (hk : y.k ≠ 0) : (becC C y).r0 = distN C y := by
  rcases fitsB_kind h with h0 | ⟨h1, h2⟩ | ⟨h1, h2⟩
  · exact absurd h0 hk
  · unfold becC distN distS
    rw [if_neg hk, if_pos h1, if_pos h1]; rfl
  · unfold becC distN distS
    have n1 : ¬ y.k = 1 := by omega
    rw [if_neg hk, if_neg n1, if_neg n1, if_pos h1, Int.toNat_natCast]
    have hf : ∀ p d, (front C p d).r0 = d := fun p d => by
      unfold front
      split
      · rfl
      · split
        · rfl
        · split <;> rfl
    split <;> exact hf _ _
/-- one symbol -/
theorem rdU_step {D : List (BitVec 8)} {C : MC} {h : List (BitVec 8)} {z : Sy} {P : List (BitVec 16)} {t : DS} (hC : MCok C) (hs : Syn D (deeds (cmds (symP C h z)).2 P) t) (ho : Nout D (deeds (cmds (symP C h z)).2 P) t) (hf : fitsB C h.length z = true) (hp : plainS z = z) (en : Nat) (dict : Int) (f : Nat) (hlt : h.length < en) :
    rdU D en dict (f + 1) C P t h = if z.k ≠ 0 ∧ ((distN C z : Int) > dict ∨ (lenS z : Int) > (en : Int) - (h.length : Int)) then none else rdU D en dict f (becC C z) (chs (cmds (symP C h z)).2 P) ((deeds (cmds (symP C h z)).2 P).foldl (stepD D) t) (growS h z (distN C z)) := by
  have hr := run_dec D 24 (symP C h z) P t (symP_le _ _ _) hs
  have e : run (decM D) (symP C h syZ) P t = ((z, becC C z), chs (cmds (symP C h z)).2 P, (deeds (cmds (symP C h z)).2 P).foldl (stepD D) t) := by
    rw [(symP_alike C h syZ z).dec D, hr, symP_val _ _ _ hf, hp]
  rw [rdU, if_pos hlt, e]
  dsimp only
  rw [if_neg (by rw [ho.all]; decide)]
  by_cases hk : z.k = 0
  · rw [if_pos hk, if_neg (fun e => e.1 hk)]
    have : growS h z (distN C z) = h ++ [z.b] := if_pos hk
    rw [this]
  · rw [if_neg hk, bec_r0 hf hk]
    obtain ⟨l1, l2, l3⟩ := fits_len hf
    have l3 := l3 hk
    obtain ⟨d1, d2, d3⟩ := distN_eq hC hf
    have d2 := d2.resolve_left hk
    have hg : growS h z (distN C z) = growN h (distN C z) z.l.toNat := if_neg hk
    by_cases hb : (distN C z : Int) > dict ∨ (lenS z : Int) > (en : Int) - (h.length : Int)
    · have hL : (distN C z : Int) > (h.length : Int) ∨ (distN C z : Int) > dict ∨ z.l > (en : Int) - (h.length : Int) := by
        rcases hb with hb | hb
        · exact .inr (.inl hb)
        · exact .inr (.inr (by rw [← l3]; exact hb))
      have hR : z.k ≠ 0 ∧ ((distN C z : Int) > dict ∨ (lenS z : Int) > (en : Int) - (h.length : Int)) := ⟨hk, hb⟩
      rw [if_pos hL, if_pos hR]
    · have hL : ¬ ((distN C z : Int) > (h.length : Int) ∨ (distN C z : Int) > dict ∨ z.l > (en : Int) - (h.length : Int)) := by
        rintro (hx | hx | hx)
        · omega
        · exact hb (.inl hx)
        · exact hb (.inr (by rw [l3]; exact hx))
      have hR : ¬ (z.k ≠ 0 ∧ ((distN C z : Int) > dict ∨ (lenS z : Int) > (en : Int) - (h.length : Int))) := fun e => hb e.2
      rw [if_neg hL, if_neg hR, hg]
def farA : MC → List (BitVec 8) → Nat → List Sy → Nat
  | C, h, a, [] => a
  | C, h, a, z :: T => farA (becC C z) (growS h z (distN C z)) (max a (distN C z)) T
theorem farA_ge : ∀ (T : List Sy) (C : MC) (h : List (BitVec 8)) (a : Nat), a ≤ farA C h a T
  | [], C, h, a => Nat.le_refl _
  | z :: T, C, h, a => Nat.le_trans (Nat.le_max_left _ _) (farA_ge T _ _ _)
theorem farA_snoc (z : Sy) : ∀ (T : List Sy) (C : MC) (h : List (BitVec 8)) (a : Nat), farA C h a (T ++ [z]) = max (farA C h a T) (distN (walkS C h T).1 z)
  | [], C, h, a => rfl
  | y :: T, C, h, a => farA_snoc z T _ _ _
theorem walk_len : ∀ (T : List Sy) (C : MC) (h : List (BitVec 8)), fitA C h T → h.length + T.length ≤ (walkS C h T).2.length ∧ (walkS C h T).2.length ≤ h.length + 273 * T.length
  | [], C, h, _ => ⟨Nat.le_refl _, Nat.le_refl _⟩
  | z :: T, C, h, hf => by
    obtain ⟨f1, f2, f3⟩ := hf
    obtain ⟨a, b⟩ := walk_len T _ _ f3
    rw [grow_len] at a b
    obtain ⟨l1, l2, _⟩ := fits_len f1
    rw [List.length_cons]
    show _ ≤ (walkS (becC C z) (growS h z (distN C z)) T).2.length ∧ (walkS (becC C z) (growS h z (distN C z)) T).2.length ≤ _
    omega
/-- all is read -/
theorem rdU_good {D : List (BitVec 8)} (dict : Int) : ∀ (T : List Sy) (C : MC) (h : List (BitVec 8)) (P : List (BitVec 16)) (t : DS) (a f : Nat), MCok C → fitA C h T → Syn D (deeds (cmdA C h T) P) t → Nout D (deeds (cmdA C h T) P) t → (walkS C h T).2.length ≤ 1000000 → (farA C h a T : Int) ≤ dict → T.length ≤ f → ∀ en, en = (walkS C h T).2.length →
    rdU D en dict f C P t h = some ((walkS C h T).1, chs (cmdA C h T) P, (deeds (cmdA C h T) P).foldl (stepD D) t, (walkS C h T).2)
  | [], C, h, P, t, a, f, hC, hf, hs, ho, hl, hd, hT, en, he => by
    have hn : ¬ h.length < en := by rw [he]; exact Nat.lt_irrefl _
    cases f with
    | zero => rw [rdU, if_neg hn]; rfl
    | succ f => rw [rdU, if_neg hn]; rfl
  | z :: T, C, h, P, t, a, f, hC, hf, hs, ho, hl, hd, hT, en, he => by
    have hw := walk_len (z :: T) C h hf
    obtain ⟨f1, f2, f3⟩ := hf
    rw [List.length_cons] at hT hw
    obtain ⟨f', rfl⟩ : ∃ f', f = f' + 1 := ⟨f - 1, by omega⟩
    rw [cmdA, deeds_app] at hs ho
    have hw3 := walk_len T _ _ f3
    rw [grow_len] at hw3
    have he' : en = (walkS (becC C z) (growS h z (distN C z)) T).2.length := he
    rw [rdU_step hC hs.app.1 ho.app.1 f1 f2 en dict f' (by omega), if_neg]
    · rw [rdU_good dict T _ _ _ _ (max a (distN C z)) f' (becC_ok hC f1 (by omega)).1 f3 hs.app.2 ho.app.2 hl hd (by omega) en he']
      show _ = some ((walkS (becC C z) (growS h z (distN C z)) T).1, chs (_ ++ _) P, (deeds (_ ++ _) P).foldl (stepD D) t, (walkS (becC C z) (growS h z (distN C z)) T).2)
      rw [chs_app, deeds_app, List.foldl_append]
    · rintro ⟨_, hx | hx⟩
      · have h1 := farA_ge T (becC C z) (growS h z (distN C z)) (max a (distN C z))
        have hd : (farA (becC C z) (growS h z (distN C z)) (max a (distN C z)) T : Int) ≤ dict := hd
        omega
      · omega
/-- a distance is too great -/
theorem rdU_far {D : List (BitVec 8)} (dict : Nat) : ∀ (T : List Sy) (C : MC) (h : List (BitVec 8)) (P : List (BitVec 16)) (t : DS) (a f : Nat), MCok C → fitA C h T → Syn D (deeds (cmdA C h T) P) t → Nout D (deeds (cmdA C h T) P) t → (walkS C h T).2.length ≤ 1000000 → a ≤ dict → dict < farA C h a T → T.length ≤ f → ∀ en, (walkS C h T).2.length ≤ en →
    rdU D en dict f C P t h = none
  | [], C, h, P, t, a, f, hC, hf, hs, ho, hl, ha, hd, hT, en, he => by
    have hd : dict < a := hd
    omega
  | z :: T, C, h, P, t, a, f, hC, hf, hs, ho, hl, ha, hd, hT, en, he => by
    have hw := walk_len (z :: T) C h hf
    obtain ⟨f1, f2, f3⟩ := hf
    rw [List.length_cons] at hT hw
    obtain ⟨f', rfl⟩ : ∃ f', f = f' + 1 := ⟨f - 1, by omega⟩
    rw [cmdA, deeds_app] at hs ho
    have hw3 := walk_len T _ _ f3
    rw [grow_len] at hw3
    have he' : (walkS (becC C z) (growS h z (distN C z)) T).2.length ≤ en := he
    rw [rdU_step hC hs.app.1 ho.app.1 f1 f2 en dict f' (by omega)]
    by_cases hx : distN C z > dict
    · have hk : z.k ≠ 0 := fun e => by
        unfold distN distS at hx
        rw [if_neg (by omega), if_neg (by omega)] at hx
        have : (0 : Int).toNat > dict := hx
        omega
      rw [if_pos ⟨hk, .inl (by omega)⟩]
    · rw [if_neg]
      · exact rdU_far dict T _ _ _ _ (max a (distN C z)) f' (becC_ok hC f1 (by omega)).1 f3 hs.app.2 ho.app.2 hl (by omega) hd (by omega) en he'
      · rintro ⟨_, hy | hy⟩
        · omega
        · omega
/-- fewer bytes than the last symbol has -/
theorem rdU_less {D : List (BitVec 8)} (dict : Int) (z : Sy) (h2 : 2 ≤ lenS z) : ∀ (T : List Sy) (C : MC) (h : List (BitVec 8)) (P : List (BitVec 16)) (t : DS) (a f : Nat), MCok C → fitA C h (T ++ [z]) → Syn D (deeds (cmdA C h (T ++ [z])) P) t → Nout D (deeds (cmdA C h (T ++ [z])) P) t → (walkS C h (T ++ [z])).2.length ≤ 1000000 → (farA C h a (T ++ [z]) : Int) ≤ dict → T.length + 1 ≤ f → ∀ en, en + 1 = (walkS C h (T ++ [z])).2.length →
    rdU D en dict f C P t h = none
  | [], C, h, P, t, a, f, hC, hf, hs, ho, hl, hd, hT, en, he => by
    obtain ⟨f1, f2, f3⟩ := hf
    obtain ⟨f', rfl⟩ : ∃ f', f = f' + 1 := ⟨f - 1, by omega⟩
    have hs : Syn D (deeds ((cmds (symP C h z)).2 ++ []) P) t := hs
    have ho : Nout D (deeds ((cmds (symP C h z)).2 ++ []) P) t := ho
    rw [List.append_nil] at hs ho
    have he : en + 1 = (growS h z (distN C z)).length := he
    rw [grow_len] at he
    have hk : z.k ≠ 0 := fun e => by unfold lenS at h2; rw [if_pos e] at h2; omega
    rw [rdU_step hC hs ho f1 f2 en dict f' (by omega), if_pos ⟨hk, .inr (by omega)⟩]
  | y :: T, C, h, P, t, a, f, hC, hf, hs, ho, hl, hd, hT, en, he => by
    obtain ⟨f1, f2, f3⟩ := hf
    have f3 : fitA (becC C y) (growS h y (distN C y)) (T ++ [z]) := f3
    rw [List.length_cons] at hT
    obtain ⟨f', rfl⟩ : ∃ f', f = f' + 1 := ⟨f - 1, by omega⟩
    rw [List.cons_append, cmdA, deeds_app] at hs ho
    have hw3 : ((growS h y (distN C y)).length + T.length + 1 + 1 ≤ (walkS (becC C y) (growS h y (distN C y)) (T ++ [z])).2.length) := by
      have f4 := f3
      rw [fitA_app] at f4
      have := walk_len T _ _ f4.1
      rw [walk_app]
      have e := grow_len (walkS (becC C y) (growS h y (distN C y)) T).2 z (distN (walkS (becC C y) (growS h y (distN C y)) T).1 z)
      show _ ≤ (growS (walkS (becC C y) (growS h y (distN C y)) T).2 z (distN (walkS (becC C y) (growS h y (distN C y)) T).1 z)).length
      omega
    rw [grow_len] at hw3
    have he' : en + 1 = (walkS (becC C y) (growS h y (distN C y)) (T ++ [z])).2.length := he
    have hl' : (walkS (becC C y) (growS h y (distN C y)) (T ++ [z])).2.length ≤ 1000000 := hl
    rw [rdU_step hC hs.app.1 ho.app.1 f1 f2 en dict f' (by omega), if_neg]
    · exact rdU_less dict z h2 T _ _ _ _ (max a (distN C y)) f' (becC_ok hC f1 (by omega)).1 f3 hs.app.2 ho.app.2 hl hd (by omega) en he'
    · rintro ⟨_, hx | hx⟩
      · have h1 := farA_ge (T ++ [z]) (becC C y) (growS h y (distN C y)) (max a (distN C y))
        have hd : (farA (becC C y) (growS h y (distN C y)) (max a (distN C y)) (T ++ [z]) : Int) ≤ dict := hd
        omega
      · omega
end Go.Proofs.Ytmdeoikpiiambaa
end
section
/- Reading symbols: bad arguments, the known rows. BRIEF -/
set_option linter.unusedVariables false
set_option linter.unusedSimpArgs false
set_option maxRecDepth 100000
namespace Go.Proofs.Ytmdeoikpiiambaa
open Go Go.Eng

theorem inBy : intT Try.prog 5 = some .u8 := by kernel_rfl
theorem stBy : isStrT Try.prog 9 = true := by kernel_rfl
section
variable {wr : Nat → Bool} {m : Mem} {nx : Nat}
theorem ureadNil (R : Rdm wr m nx) (cv : Nat) (hv : AV) (many dict : Int) :
    CallG false Try.prog 59 [.nilp, .ptr cv 0, hv, .int .i64 many, .int .i64 dict] wr m nx (PK (.tup [.nils, .int .i64 1]) m nx) := by
  refine fn_okG Try.func59 rfl (by show 5 ≤ _; decide) ?_
  simp (maxSteps := 1000000) -implicitDefEqProofs only [go_sem, seval, -List.reduceReplicate, Try.results59, Try.ntmps59]
  exact finP R _
theorem ureadBad (R : Rdm wr m nx) (av cv : Nat) (hv : AV) (many dict : Int) (h : many < 0 ∨ dict < 1) :
    CallG false Try.prog 59 [.ptr av 0, .ptr cv 0, hv, .int .i64 many, .int .i64 dict] wr m nx (PK (.tup [.nils, .int .i64 1]) m nx) := by
  refine fn_okG Try.func59 rfl (by show 5 ≤ _; decide) ?_
  by_cases h1 : many < 0
  · have e1 : decide (many < 0) = true := decide_eq_true h1
    simp (maxSteps := 1000000) -implicitDefEqProofs only [go_sem, seval, -List.reduceReplicate, Try.results59, Try.ntmps59, e1]
    exact finP R _
  · have e1 : decide (many < 0) = false := decide_eq_false h1
    have e2 : decide (dict < 1) = true := decide_eq_true (h.resolve_left h1)
    simp (maxSteps := 1000000) -implicitDefEqProofs only [go_sem, seval, -List.reduceReplicate, Try.results59, Try.ntmps59, e1, e2]
    exact finP R _
end
def yD : Sy := ⟨1, 0#8, 4, 1, 0⟩
theorem syD : AV.agg [.int .i64 1, .int .u8 0, .int .i64 4, .int .i64 1, .int .i64 0] = .agg (syL yD) := rfl
def TK : List Sy := [yA, yD]
theorem fitK : fitA (newC 3 0 2) [] TK := ⟨by decide, rfl, by decide, rfl, trivial⟩
theorem walkK : (walkS (newC 3 0 2) [] TK).2 = [65#8, 65#8, 65#8, 65#8, 65#8] := by decide
theorem farK : farA (newC 3 0 2) [] 1 TK = 1 := by decide
set_option maxHeartbeats 4000000 in
theorem knows08 : CallG false Try.prog 58 [] (fun _ => true) [] 0 (fun v m nx => v = .bool true ∧ m = [] ∧ nx = 0) := by
  refine fn_okG Try.func58 rfl (Nat.zero_le _) ?_
  have t5 : ∀ a b d e f : AV, List.take 5 [a, b, d, e, f] = [a, b, d, e, f] := fun _ _ _ _ _ => rfl
  have D : Rdm (fun _ => true) ([] : Mem) 0 := rdmT nd0
  have n1 := rnewY D lt0 3 0 2 (by decide)
  simp (maxSteps := 1000000) -implicitDefEqProofs only [go_sem, seval, -List.reduceReplicate, Try.results58, Try.ntmps58]
  refine CallG.weak n1 ?_
  rintro v m2 nx2 ⟨rfl, g1, co1⟩
  have D1 := g1.rdm D
  simp (maxSteps := 1000000) -implicitDefEqProofs only [go_sem, seval, -List.reduceReplicate]
  refine CallG.weak (enewOk D1 g1.lt) ?_
  rintro v mB nB ⟨rfl, rfl, rfl⟩
  have g2 := g1.trans (Gr.cons g1.nd g1.lt (eO .nils newS))
  have D2 := g2.rdm D
  have co1 : CoAt 1 0 (newC 3 0 2) (newP 3 0) m2 := co1
  have cl := look_ltm g1.lt co1.co
  have ql := look_ltm g1.lt co1.li
  have co2 := co1.ext (m' := (nx2, eO .nils newS) :: m2) (fun o h => (Gr.cons g1.nd g1.lt (eO .nils newS)).kp _ _ h) (fun o h => (Gr.cons g1.nd g1.lt (eO .nils newS)).kp _ _ h)
  have S0 : MS (encIo nx2) 1 0 .nils [] [] (newC 3 0 2) (newP 3 0) newS [nx2] ((nx2, eO .nils newS) :: m2) := ⟨co2, encAt_new m2 nx2, .nil _, (fun h => by cases List.mem_singleton.1 h; omega), (fun h => by cases List.mem_singleton.1 h; omega), (fun h => by cases h), (fun h => by cases h), fun k h => by cases h⟩
  have hC0 : MCok (newC 3 0 2) := CoAt.mok 3 0 2 (by decide) (by decide)
  have p1 := rputY D2 g2.lt S0 hC0 (by decide) (fun _ _ => rfl) (encB_new 24 (by decide)) yA (by decide)
  simp (maxSteps := 1000000) -implicitDefEqProofs only [go_sem, seval, -List.reduceReplicate, t5, syA]
  refine CallG.weak p1 ?_
  rintro v m3 nx3 ⟨rfl, fr3, ns3, S3, hn3⟩
  obtain ⟨r1, r2, b1, b2⟩ := put_rel (C := newC 3 0 2) (h := []) (P := newP 3 0) newRel yA (j := 24) (encB_new 48 (by decide)) (rencB_new 48 (by decide))
  have hcm : told rencM (cmdA (newC 3 0 2) [] TK) (newP 3 0) newR = told rencM (cmds (symP CA [65#8] yD)).2 (told rencM (cmds (symP (newC 3 0 2) [] yA)).2 (newP 3 0) newR).1 (told rencM (cmds (symP (newC 3 0 2) [] yA)).2 (newP 3 0) newR).2 := by
    show told rencM ((cmds (symP (newC 3 0 2) [] yA)).2 ++ ((cmds (symP CA [65#8] yD)).2 ++ [])) _ _ = _
    rw [List.append_nil, told_app]
  generalize told rencM (cmds (symP (newC 3 0 2) [] yA)).2 (newP 3 0) newR = z at *
  obtain ⟨P3, s3⟩ := z
  generalize (run encM (symP (newC 3 0 2) [] yA) (newP 3 0) newS).2.1 = P3' at *
  generalize (run encM (symP (newC 3 0 2) [] yA) (newP 3 0) newS).2.2 = e3 at *
  have r1 : P3' = P3 := r1
  subst r1
  have D3 := fr3.rdm D2 (fun _ _ => rfl)
  simp (maxSteps := 1000000) -implicitDefEqProofs only [go_sem, seval, -List.reduceReplicate, t5, syD]
  refine ⟨.inr trivial, ?_⟩
  have g4 := Gr.cons D3.nd fr3.lt (.cells ((bvs IntKind.u8 (List.replicate 1 0#8)).set 0 (AV.int IntKind.u8 65)) 5)
  have S3' := S3.gr g4
  have D4 := g4.rdm D3
  have cl3 := look_ltm fr3.lt S3.co.co
  have ql3 := look_ltm fr3.lt S3.co.li
  have S4 : MS (encIo nx2) 1 0 (.sl nx3 0 1 1) [65#8] [nx3] CA P3' e3 ns3 ((nx3, .cells ((bvs IntKind.u8 (List.replicate 1 0#8)).set 0 (AV.int IntKind.u8 65)) 5) :: m3) := ⟨S3'.co, S3'.io, .row (X := [65#8]) (sp := []) rfl (look_c0 _ _ _) rfl (by decide) rfl, S3'.nc, S3'.nq, (fun h => by cases List.mem_singleton.1 h; omega), (fun h => by cases List.mem_singleton.1 h; omega), fun k h hm => by
    cases List.mem_singleton.1 h
    obtain ⟨o, ho⟩ := (encIo nx2).live S3.io nx3 hm
    have := look_ltm fr3.lt ho
    omega⟩
  have hCA : MCok CA := by
    have h : 1 ≤ 1 ∧ 1 < 1099511627776 := by decide
    exact ⟨(by decide : 3 + 0 ≤ 4), (by decide : 2 ≤ 4), (by decide : 0 < 12), h, h, h, h⟩
  have p2 := rputY D4 g4.lt S4 hCA (by decide) (fun _ _ => rfl) b1 yD (by decide)
  refine CallG.weak p2 ?_
  rintro v m5 nx5 ⟨rfl, fr5, ns5, S5, hn5⟩
  obtain ⟨r3, r4, b3, b4⟩ := put_rel (C := CA) (h := [65#8]) (P := P3') r2 yD (j := 0) b1 b2
  have hcm : told rencM (cmdA (newC 3 0 2) [] TK) (newP 3 0) newR = told rencM (cmds (symP CA [65#8] yD)).2 P3' s3 := hcm
  generalize told rencM (cmds (symP CA [65#8] yD)).2 P3' s3 = z at *
  obtain ⟨P5, s5⟩ := z
  generalize (run encM (symP CA [65#8] yD) P3' e3).2.1 = P5' at *
  generalize (run encM (symP CA [65#8] yD) P3' e3).2.2 = e5 at *
  have D5 := fr5.rdm D4 (fun _ _ => rfl)
  have heq : bytE e5 = 0#8 :: s5.low := bytE_eq r4.1 (by have := b3.1; omega)
  have hlow := r4.1.len
  have hlow : s5.low.length = e5.out.length + e5.full + 4 := hlow
  have hx := bytEOk D5 fr5.lt (show EncAt nx2 m5 e5 ns5 from S5.io) (by have := b3.2; omega)
  rw [heq] at hx
  obtain ⟨F, hF⟩ : ∃ F, F = s5.low := ⟨_, rfl⟩
  rw [← hF] at hx hlow
  have hFt : (told rencM (cmdA (newC 3 0 2) [] TK) (newP 3 0) newR).2.low = F := by rw [hcm, hF]
  have hb3 := b3.2
  obtain ⟨hsyn, hdone⟩ := told_read (cmdA (newC 3 0 2) [] TK) (newP 3 0) (cmdA_bound _ _ _) hFt (by omega)
  have hno := told_nout (cmdA (newC 3 0 2) [] TK) (newP 3 0) (cmdA_bound _ _ _) hFt (by omega)
  have hDD : (F.drop 4).length ≤ 1000000 := by rw [List.length_drop]; omega
  have hrd := rdU_good 10 TK (newC 3 0 2) [] (newP 3 0) (start (0#8 :: F)) 1 5 hC0 fitK hsyn hno (by rw [walkK]; decide) (by rw [farK]; decide) (by decide) 5 (by rw [walkK]; rfl)
  rw [walkK] at hrd
  simp (maxSteps := 1000000) -implicitDefEqProofs only [go_sem, seval, -List.reduceReplicate, t5]
  refine CallG.weak hx ?_
  rintro v6 m6 n6 ⟨ns6, b6, b6r, b6n, g6⟩
  obtain ⟨q1, q2, q3, q4, q5⟩ := b6.facts
  simp (maxSteps := 1000000) -implicitDefEqProofs only [go_sem, seval, -List.reduceReplicate, t5, q1, q2, q3, q4, q5]
  have hnE : newE (0#8 :: F) = 0 := by
    rw [newE, if_neg (by rw [List.length_cons]; omega), if_neg (fun e => e rfl)]
  refine CallG.weak (dnewBy (by rw [List.length_cons]; omega) g6.nd g6.lt b6) ?_
  rintro v7 m7 n7 ⟨g7, hif⟩
  rw [if_pos hnE] at hif
  obtain ⟨a, an, rfl, ha, han, hd7⟩ := hif
  have D7 := (g6.trans g7).rdm D5
  simp (maxSteps := 1000000) -implicitDefEqProofs only [go_sem, seval, -List.reduceReplicate, t5]
  refine CallG.weak (rnewY D7 g7.lt 3 0 2 (by decide)) ?_
  rintro v8 m8 n8 ⟨rfl, g8, co8⟩
  have D8 := g8.rdm D7
  have co8 : CoAt (n7 + 1) n7 (newC 3 0 2) (newP 3 0) m8 := co8
  obtain ⟨oa, hoa⟩ := hd7.live a (.head _)
  obtain ⟨oan, hoan⟩ := hd7.live an (.tail _ (.head _))
  have al := look_ltm g7.lt hoa
  have anl := look_ltm g7.lt hoan
  have hd7 : DcAt a (F.drop 4) m7 (start (0#8 :: F)) [a, an] := hd7
  have S8 : MS (decIo a (F.drop 4) hDD) (n7 + 1) n7 .nils [] [] (newC 3 0 2) (newP 3 0) (start (0#8 :: F)) [a, an] m8 := ⟨co8, hd7.ext fun k _ => g8.kp k, .nil _, (by simp; omega), (by simp; omega), (fun h => by cases h), (fun h => by cases h), fun k h => by cases h⟩
  have hu := ureadOk D8 g8.lt S8 hC0 (fun _ _ => rfl) (start_ok (0#8 :: F)) 5 10 (by decide) (by decide)
  have hrd : rdU (F.drop 4) (([] : List (BitVec 8)).length + 5) 10 5 (newC 3 0 2) (newP 3 0) (start (0#8 :: F)) [] = _ := hrd
  rw [hrd] at hu
  simp (maxSteps := 1000000) -implicitDefEqProofs only [go_sem, seval, -List.reduceReplicate, t5]
  refine CallG.weak hu ?_
  rintro v9 m9 n9 ⟨fr9, s9, os, ns9, rfl, hb9, _, _, _, _, _, _⟩
  have D9 := fr9.rdm D8 (fun _ _ => rfl)
  obtain ⟨p1, p2, p3, p4, p5⟩ := hb9.facts
  simp (maxSteps := 1000000) -implicitDefEqProofs only [go_sem, seval, -List.reduceReplicate, t5, p1, p2, p3, p4, p5]
  refine CallG.pk (ureadNil D9 _ _ _ _) ?_
  simp (maxSteps := 1000000) -implicitDefEqProofs only [go_sem, seval, -List.reduceReplicate, t5, p1, p2, p3, p4, p5]
  rw [hb9.cvx elBy inBy stBy]
  have hse : ((strOf [65#8, 65#8, 65#8, 65#8, 65#8]).toList == (ByteArray.mk #[65, 65, 65, 65, 65]).toList) = true := by
    show ((strOf [65#8, 65#8, 65#8, 65#8, 65#8]).toList == (strOf [65#8, 65#8, 65#8, 65#8, 65#8]).toList) = true
    exact beq_self_eq_true _
  simp (maxSteps := 1000000) -implicitDefEqProofs only [go_sem, seval, -List.reduceReplicate, t5, p1, p2, p3, p4, p5, hse]
  exact Fin.flatv (fun _ => rfl) (fun _ => rfl) ⟨rfl, rfl, rfl⟩
theorem kn08 {fz : Bool} {wr : Nat → Bool} {m : Mem} {nx : Nat} {K : Kv} (h : K (.bool true) m nx) : CallG fz Try.prog 58 [] wr m nx K := knows08.flat0 trivial (fun _ => rfl) rfl h
end Go.Proofs.Ytmdeoikpiiambaa
end
section
/- The law on reading what was coded. BRIEF -/
set_option linter.unusedVariables false
set_option linter.unusedSimpArgs false
set_option maxRecDepth 100000
namespace Go.Proofs.Ytmdeoikpiiambaa
open Go Go.Eng

structure GU where
  C : MC
  P : List (BitVec 16)
  e : ES
  s : RS
  h : List (BitVec 8)
  hv : AV
  hs : List Nat
  ns : List Nat
  nd : List Nat
  M : Mem
  n : Nat
  T : List Sy
  far : Nat
  last : Nat
/-- what is under way while symbols are coded -/
structure BU (c q x d : Nat) (C0 : MC) (P0 : List (BitVec 16)) (b : List (BitVec 8)) (Pd : List (BitVec 16)) (i : Nat) (g : GU) : Prop where
  S : MS (encIo x) c q g.hv g.h g.hs g.C g.P g.e g.ns g.M
  K : KD noR d g.C g.M Pd g.nd
  nd : (g.M.map fun p => p.1).Nodup
  lt : ∀ p ∈ g.M, p.1 < g.n
  d1 : ∀ k ∈ g.nd, k ∉ c :: q :: g.ns
  d2 : ∀ k ∈ g.hs, k ∉ g.nd
  R : RelE g.e g.s
  C : MCok g.C
  t : (g.P, g.s) = told rencM (cmdA C0 b g.T) P0 newR
  w : (g.C, g.h) = walkS C0 b g.T
  f : fitA C0 b g.T
  fr : g.far = farA C0 b 1 g.T
  la : (g.T = [] ∧ g.last = 0) ∨ ∃ T' z, g.T = T' ++ [z] ∧ g.last = lenS z
  tl : g.T.length ≤ i
  b1 : encB g.e (24 * (60 - i) + 24)
  b2 : rencB g.s (24 * (60 - i) + 24)
  hl : g.h.length ≤ 500 + 273 * i
  ff : g.far ≤ 100000
set_option maxHeartbeats 8000000 in
theorem unmodelBackOk (lc : Int) (l0 : -9223372036854775808 ≤ lc) (r0 : lc < 9223372036854775808) (lp : Int) (l1 : -9223372036854775808 ≤ lp) (r1 : lp < 9223372036854775808) (pb : Int) (l2 : -9223372036854775808 ≤ pb) (r2 : pb < 9223372036854775808) (b : List (BitVec 8)) (hb : b.length ≤ maxLen) (L : List SyE) (hL : L.length ≤ maxLen ∧ ∀ z ∈ L, (-9223372036854775808 ≤ z.1 ∧ z.1 < 9223372036854775808) ∧ True ∧ (-9223372036854775808 ≤ z.2.2.1 ∧ z.2.2.1 < 9223372036854775808) ∧ (-9223372036854775808 ≤ z.2.2.2.1 ∧ z.2.2.2.1 < 9223372036854775808) ∧ (-9223372036854775808 ≤ z.2.2.2.2.1 ∧ z.2.2.2.2.1 < 9223372036854775808) ∧ True) :
    CallOk Try.prog 10 [.int .i64 lc, .int .i64 lp, .int .i64 pb, .ro b.length (bvs .u8 b), .ro L.length (L.flatMap syC)] (fun _ => true) [] 0 fun v _ _ => v = .bool true := by
  refine fn_ok Try.func10 rfl (by show 5 ≤ _; decide) ?_
  have fin : ∀ {m : Mem} {nx : Nat}, Eng.Fin 0 (fun _ => true) m nx (fun v _ _ => v = .bool true) (.bool true) := Fin.flatv (fun _ => rfl) (fun _ => rfl) rfl
  obtain ⟨Y, hY⟩ : ∃ Y, Y = syE L := ⟨_, rfl⟩
  have hYl : L.length = Y.length := by rw [hY, syE_len]
  rw [syE_sys, ← hY, hYl]
  have D : Rdm (fun _ => true) ([] : Mem) 0 := rdmT nd0
  by_cases h1 : 300 < b.length
  · have e1 : decide ((b.length : Int) > 300) = true := decide_eq_true (by omega)
    simp (maxSteps := 1000000) -implicitDefEqProofs only [go_sem, seval, -List.reduceReplicate, Try.results10, Try.ntmps10, e1]
    refine kn08 ?_
    simp (maxSteps := 1000000) -implicitDefEqProofs only [go_sem, seval, -List.reduceReplicate]
    exact fin
  have e1 : decide ((b.length : Int) > 300) = false := decide_eq_false (by omega)
  by_cases h2 : 60 < Y.length
  · have e2 : decide ((Y.length : Int) > 60) = true := decide_eq_true (by omega)
    simp (maxSteps := 1000000) -implicitDefEqProofs only [go_sem, seval, -List.reduceReplicate, Try.results10, Try.ntmps10, e1, e2]
    refine kn08 ?_
    simp (maxSteps := 1000000) -implicitDefEqProofs only [go_sem, seval, -List.reduceReplicate]
    exact fin
  have e2 : decide ((Y.length : Int) > 60) = false := decide_eq_false (by omega)
  have hk0 := kmay D lc lp pb
  simp (maxSteps := 1000000) -implicitDefEqProofs only [go_sem, seval, -List.reduceReplicate, Try.results10, Try.ntmps10, e1, e2]
  refine CallG.any (CallG.pk hk0 ?_)
  cases hm : mayB lc lp pb with
  | false =>
    simp (maxSteps := 1000000) -implicitDefEqProofs only [go_sem, seval, -List.reduceReplicate]
    refine kn08 ?_
    simp (maxSteps := 1000000) -implicitDefEqProofs only [go_sem, seval, -List.reduceReplicate]
    exact fin
  | true =>
    obtain ⟨A, B, E, rfl, rfl, rfl, hAB, hE⟩ : ∃ A B E : Nat, lc = (A : Int) ∧ lp = (B : Int) ∧ pb = (E : Int) ∧ A + B ≤ 4 ∧ E ≤ 4 := by
      unfold mayB at hm
      simp only [Bool.and_eq_true, decide_eq_true_eq] at hm
      exact ⟨lc.toNat, lp.toNat, pb.toNat, by omega, by omega, by omega, by omega, by omega⟩
    simp (maxSteps := 1000000) -implicitDefEqProofs only [go_sem, seval, -List.reduceReplicate]
    have n1 := rnewY D lt0 A B E hm
    rw [Int.toNat_natCast, Int.toNat_natCast, Int.toNat_natCast] at n1
    refine CallG.any (CallG.weak n1 ?_)
    rintro v m1 nx1 ⟨rfl, g1, co1⟩
    have co1 : CoAt 1 0 (newC A B E) (newP A B) m1 := co1
    have D1 := g1.rdm D
    simp (maxSteps := 1000000) -implicitDefEqProofs only [go_sem, seval, -List.reduceReplicate]
    refine CallG.any (CallG.weak (enewOk D1 g1.lt) ?_)
    rintro v m3 nx3 ⟨rfl, hm3, rfl⟩
    have g3 := Gr.cons g1.nd g1.lt (eO .nils newS)
    rw [← hm3] at g3
    have D3 := g3.rdm D1
    have en3 : EncAt nx1 m3 newS [nx1] := by rw [hm3]; exact encAt_new m1 nx1
    simp (maxSteps := 1000000) -implicitDefEqProofs only [go_sem, seval, -List.reduceReplicate]
    refine CallG.any (CallG.weak (knew D3 g3.lt A B E hAB hE) ?_)
    rintro v m4 nx4 ⟨rfl, g4, q', qc, qs, hd4, hq'⟩
    have cl1 := look_ltm g1.lt co1.co
    have le4 := g4.le
    have ql4 := look_ltm g4.lt hd4.ch
    have g14 := g3.trans g4
    have S0 : MS (encIo nx1) 1 0 (.ro b.length (bvs .u8 b)) b [] (newC A B E) (newP A B) newS [nx1] m4 := ⟨co1.ext (fun o h => g14.kp _ _ h) (fun o h => g14.kp _ _ h), en3.ext fun k _ o ho => g4.kp _ _ ho, .ro _ _, (fun h => by cases List.mem_singleton.1 h; omega), (fun h => by cases List.mem_singleton.1 h; omega), (fun h => by cases h), (fun h => by cases h), fun k h => by cases h⟩
    have K0 : KD noR (nx1 + 1 + 1) (newC A B E) m4 (newP A B) [nx1 + 1 + 1, nx1 + 1, q'] := ⟨nx1 + 1, 4, q', qc, [], qs, [], rfl, hd4, rfl, (fun h => by cases h), (fun h => by cases h), fun h => by cases h⟩
    simp (maxSteps := 1000000) -implicitDefEqProofs only [go_sem, seval, -List.reduceReplicate]
    refine LoopOk.upX (BU 1 0 nx1 (nx1 + 1 + 1) (newC A B E) (newP A B) b (newP A B)) Y.length
      (fun i g => ([(18, .int .i64 (i : Nat)), (17, .int .i64 (g.last : Nat)), (16, .int .i64 (g.far : Nat)), (15, g.hv), (14, .ptr (nx1 + 1 + 1) 0), (13, .ptr nx1 0), (11, .ptr 1 0), (10, .bool false), (3, .ro b.length (bvs .u8 b)), (0, .int .i64 (A : Nat)), (1, .int .i64 (B : Nat)), (2, .int .i64 (E : Nat)), (4, .ro Y.length (sys Y))], g.M, g.n)) ⟨newC A B E, newP A B, newS, newR, b, .ro b.length (bvs .u8 b), [], [nx1], [nx1 + 1 + 1, nx1 + 1, q'], m4, nx4, [], 1, 0⟩
      ⟨S0, K0, g4.nd, g4.lt, (by simp; omega), (fun k hk => by cases hk), newRel, CoAt.mok A B E hAB hE, rfl, rfl, trivial, rfl, .inl ⟨rfl, rfl⟩, Nat.le_refl _, encB_new _ (by decide), rencB_new _ (by decide), (by show b.length ≤ 500 + 273 * 0; omega), (by show 1 ≤ 100000; decide)⟩ ((rdmT g4.nd).leN (Nat.zero_le _) ⟨rfl, rfl, rfl, rfl, rfl, rfl, rfl, rfl, rfl, rfl, rfl, rfl, rfl, trivial⟩) ?_
    rintro i g ⟨hi, I⟩
    have D := rdmT I.nd (nx := g.n)
    have wi : IntKind.i64.wrap ((i : Int) + 1) = ((i + 1 : Nat) : Int) := by rw [wrap_i64] <;> omega
    have hlen := I.hl
    rcases Nat.lt_or_ge i Y.length with h | h
    · have c1 : decide ((i : Int) < (Y.length : Int)) = true := decide_eq_true (by omega)
      obtain ⟨q1, q2, q3, q4, q5⟩ := I.S.hi.facts
      have q6 := I.S.hi.len Try.prog 22
      obtain ⟨y, hy⟩ : ∃ y, y = Y.getD i syZ := ⟨_, rfl⟩
      have s5 := sys_take Y i h
      rw [← hy] at s5
      have s6 : i * 5 < (sys Y).length := by rw [sys_len]; omega
      have s7 : 5 ≤ (List.drop (i * 5) (sys Y)).length := by rw [List.length_drop, sys_len]; omega
      have s8 : (i : Int) < (Y.length : Int) := by omega
      have hw : ∀ k ∈ 1 :: 0 :: g.ns, (fun _ : Nat => true) k = true := fun _ _ => rfl
      have b24 : encB g.e 24 := encBud.less _ _ 24 I.b1 (by omega)
      obtain ⟨r, rc, qq, qc', rs, qs', ne, e0, hd5, he5⟩ := id I.K
      have hfit := kfits D I.lt hd5 I.S.hi (by omega) y
      simp (maxSteps := 1000000) -implicitDefEqProofs only [go_sem, seval, -List.reduceReplicate, c1, q1, q2, q3, q4, q5, s5]
      refine ⟨s8, s6, s7, ?_⟩
      refine CallG.any (CallG.weak hfit ?_)
      rintro v m5 n5 ⟨rfl, g5⟩
      cases hf : fitsB g.C g.h.length y with
      | false =>
        simp (maxSteps := 1000000) -implicitDefEqProofs only [go_sem, seval, -List.reduceReplicate, wi]
        exact UpX_normal h { g with M := m5, n := n5 } ⟨I.S.gr g5, I.K.ext (fun k _ => g5.kp k), g5.nd, g5.lt, I.d1, I.d2, I.R, I.C, I.t, I.w, I.f, I.fr, I.la, by have := I.tl; show g.T.length ≤ i + 1; omega, encBud.less _ _ _ I.b1 (by omega), rencBud.less _ _ _ I.b2 (by omega), by show g.h.length ≤ _; omega, I.ff⟩ ((rdmT g5.nd).leN (Nat.zero_le _) ⟨rfl, rfl, rfl, rfl, rfl, rfl, rfl, rfl, rfl, rfl, rfl, rfl, rfl, trivial⟩)
      | true =>
        obtain ⟨dq, hkd, hkr⟩ := distN_eq I.C hf
        obtain ⟨hC', kc1, kc2, kc3⟩ := becC_ok I.C hf (by omega)
        obtain ⟨zf, zp, zb, zd, zg, zc⟩ := plain_same I.C hf
        obtain ⟨fl1, fl2, fl3⟩ := fits_len hf
        obtain ⟨z1, z2, z3, z4⟩ := put_rel (C := g.C) (h := g.h) (P := g.P) I.R y (j := 24 * (60 - (i + 1)) + 24) (encBud.less _ _ _ I.b1 (by omega)) (rencBud.less _ _ _ I.b2 (by omega))
        have D5 := g5.rdm D
        have S5 := I.S.gr g5
        have K5 := I.K.ext (fun k _ => g5.kp k)
        simp (maxSteps := 1000000) -implicitDefEqProofs only [go_sem, seval, -List.reduceReplicate, q1, q2, q3, q4, q5, s5]
        refine ⟨s8, s6, s7, ?_⟩
        refine CallG.any (CallG.weak (rputY D5 g5.lt S5 I.C (by omega) hw b24 y hf) ?_)
        rintro v m6 n6 ⟨rfl, fr6, ns6, S6, hn6⟩
        have D6 := fr6.rdm D5 hw
        have K6 := K5.ext (fun k hk o ho => fr6.kp k o (I.d1 k hk) ho)
        have h6 := sub3 (c := 1) (q := 0) hn6
        have d1 := dis_step I.d1 h6 (K5.lt g5.lt)
        obtain ⟨r, rc, qq, qc', rs, qs', ne, e0, hd6, he6⟩ := id K6
        simp (maxSteps := 1000000) -implicitDefEqProofs only [go_sem, seval, -List.reduceReplicate, q1, q2, q3, q4, q5, s5]
        refine ⟨s8, s6, s7, ?_⟩
        refine CallG.any (CallG.weak (kdist D6 fr6.lt hd6 y hkr) ?_)
        rintro v m7 n7 ⟨rfl, g7⟩
        rw [dq]
        have D7 := g7.rdm D6
        have S7 := S6.gr g7
        have K7 := K6.ext (fun k _ => g7.kp k)
        simp (maxSteps := 1000000) -implicitDefEqProofs only [go_sem, seval, -List.reduceReplicate, q1, q2, q3, q4, q5, s5]
        refine ⟨s8, s6, s7, ?_⟩
        refine CallG.any (CallG.weak (kbecD D7 g7.lt K7 (fun _ _ => rfl) I.C y hf) ?_)
        rintro v m8 n8 ⟨rfl, fr8, nd8, K8, hn8⟩
        have D8 := fr8.rdm D7 (fun _ _ => rfl)
        have d1s := dis_sym d1
        obtain ⟨x1, x2, x3, x4⟩ := S7.live g7.lt
        have S8 := S7.frm fr8 (d1s _ (.head _)) (d1s _ (.tail _ (.head _))) (fun k hk => d1s k (.tail _ (.tail _ hk))) I.d2
        have d1' : ∀ k ∈ 1 :: 0 :: ns6, k ∉ nd8 := dis_step d1s hn8 (fun k hk => by
          rcases List.mem_cons.1 hk with rfl | hk
          · exact x1
          rcases List.mem_cons.1 hk with rfl | hk
          · exact x2
          · exact x3 k hk)
        have n8l := fr8.le
        obtain ⟨y1, y2, y3, y4⟩ := S8.live fr8.lt
        simp (maxSteps := 1000000) -implicitDefEqProofs only [go_sem, seval, -List.reduceReplicate, q1, q2, q3, q4, q5, q6, s5]
        refine ⟨s8, s6, s7, ?_⟩
        refine CallG.any (CallG.weak (kgrow D8 fr8.lt S8.hi (by omega) y (distN g.C y) hkd) ?_)
        rintro hv9 m9 n9 ⟨g9, hv9r, hs9, hi9, hn9⟩
        have D9 := g9.rdm D8
        obtain ⟨p1, p2, p3, p4, p5⟩ := hi9.facts
        have p6 := hi9.len Try.prog 22
        have S12 := ((S8.gr g9).his hi9 (fun h => by have := hn9 _ h; omega) (fun h => by have := hn9 _ h; omega) (fun k hk hm => by have := hn9 k hk; have := y3 k hm; omega))
        have K12 := K8.ext (fun k _ => g9.kp k)
        have hgl := grow_len g.h y (distN g.C y)
        have wl : IntKind.i64.wrap ((((growS g.h y (distN g.C y)).length : Nat) : Int) - ((g.h.length : Nat) : Int)) = ((lenS y : Nat) : Int) := by rw [wrap_i64] <;> omega
        have hw2 : walkS (newC A B E) b (g.T ++ [plainS y]) = (becC g.C y, growS g.h y (distN g.C y)) := by
          rw [walk_app, ← I.w]
          show (becC g.C (plainS y), growS g.h (plainS y) (distN g.C (plainS y))) = _
          rw [zb, zd, zg]
        have ht2 : told rencM (cmdA (newC A B E) b (g.T ++ [plainS y])) (newP A B) newR = told rencM (cmds (symP g.C g.h y)).2 g.P g.s := by
          rw [cmdA_app, told_app, ← I.t, ← I.w]
          show told rencM ((cmds (symP g.C g.h (plainS y))).2 ++ []) g.P g.s = _
          rw [List.append_nil, zc]
        have hls : lenS (plainS y) = lenS y := by
          have e1 := zg g.h (distN g.C y)
          have e2 := grow_len g.h (plainS y) (distN g.C y)
          rw [e1] at e2
          omega
        have hfr2 : farA (newC A B E) b 1 (g.T ++ [plainS y]) = max g.far (distN g.C y) := by
          rw [farA_snoc, ← I.fr, ← I.w, zd]
        have hnew2 : ∀ k ∈ hs9, k ∉ nd8 := fun k hk hm => by have := hn9 k hk; have := K8.lt fr8.lt k hm; omega
        have hdl : distN g.C y ≤ 100000 := by
          rcases hkd with h0 | h0
          · unfold distN distS; rw [if_neg (by omega), if_neg (by omega)]; decide
          · omega
        have step : ∀ fr' : Nat, fr' = max g.far (distN g.C y) → BU 1 0 nx1 (nx1 + 1 + 1) (newC A B E) (newP A B) b (newP A B) (i + 1) ⟨becC g.C y, (run encM (symP g.C g.h y) g.P g.e).2.1, (run encM (symP g.C g.h y) g.P g.e).2.2, (told rencM (cmds (symP g.C g.h y)).2 g.P g.s).2, growS g.h y (distN g.C y), hv9, hs9, ns6, nd8, m9, n9, g.T ++ [plainS y], fr', lenS y⟩ := fun fr' hfr' => ⟨S12, K12, g9.nd, g9.lt, dis_sym d1', hnew2, z2, hC', by rw [ht2, z1], hw2.symm, by rw [fitA_app, ← I.w]; exact ⟨I.f, zf, zp, trivial⟩, by rw [hfr2]; exact hfr', .inr ⟨g.T, plainS y, rfl, hls.symm⟩, by have := I.tl; rw [List.length_append]; show _ + 1 ≤ _; omega, z3, z4, by rw [hgl]; omega, by have := I.ff; show fr' ≤ 100000; omega⟩
        by_cases hfar : distN g.C y > g.far
        · have cf : decide (((distN g.C y : Nat) : Int) > ((g.far : Nat) : Int)) = true := decide_eq_true (by omega)
          simp (maxSteps := 1000000) -implicitDefEqProofs only [go_sem, seval, -List.reduceReplicate, p1, p2, p3, p4, p5, p6, wl, cf, wi]
          exact UpX_normal h _ (step (distN g.C y) (by omega)) ((rdmT g9.nd).leN (Nat.zero_le _) ⟨rfl, rfl, rfl, rfl, rfl, rfl, rfl, rfl, rfl, rfl, rfl, rfl, rfl, trivial⟩)
        · have cf : decide (((distN g.C y : Nat) : Int) > ((g.far : Nat) : Int)) = false := decide_eq_false (by omega)
          simp (maxSteps := 1000000) -implicitDefEqProofs only [go_sem, seval, -List.reduceReplicate, p1, p2, p3, p4, p5, p6, wl, cf, wi]
          exact UpX_normal h _ (step g.far (by omega)) ((rdmT g9.nd).leN (Nat.zero_le _) ⟨rfl, rfl, rfl, rfl, rfl, rfl, rfl, rfl, rfl, rfl, rfl, rfl, rfl, trivial⟩)
    · have hil : i = Y.length := by omega
      have c1 : decide ((i : Int) < (Y.length : Int)) = false := decide_eq_false (by omega)
      obtain ⟨q1, q2, q3, q4, q5⟩ := I.S.hi.facts
      have wl := walk_len g.T (newC A B E) b I.f
      rw [← I.w] at wl
      dsimp only at wl
      have htl := I.tl
      obtain ⟨W, hW⟩ : ∃ W, W = g.h.length - b.length := ⟨_, rfl⟩
      have hfar1 : 1 ≤ g.far := by rw [I.fr]; exact farA_ge _ _ _ _
      have hff := I.ff
      have heq : bytE g.e = 0#8 :: g.s.low := bytE_eq I.R.1 (by have := I.R.2; omega)
      have hlow := I.R.1.len
      have hbd := I.b2.2.2
      obtain ⟨F, hF⟩ : ∃ F, F = g.s.low := ⟨_, rfl⟩
      rw [← hF] at hlow hbd heq
      have hFt : (told rencM (cmdA (newC A B E) b g.T) (newP A B) newR).2.low = F := by rw [← I.t, hF]
      obtain ⟨hsyn, hdone⟩ := told_read (cmdA (newC A B E) b g.T) (newP A B) (cmdA_bound _ _ _) hFt (by omega)
      have hno := told_nout (cmdA (newC A B E) b g.T) (newP A B) (cmdA_bound _ _ _) hFt (by omega)
      have hDD : (F.drop 4).length ≤ 1000000 := by rw [List.length_drop]; omega
      have hC0 : MCok (newC A B E) := CoAt.mok A B E hAB hE
      have hwl : (walkS (newC A B E) b g.T).2.length = g.h.length := by rw [← I.w]
      have R0 : rdU (F.drop 4) (b.length + W) (g.far : Int) W (newC A B E) (newP A B) (start (0#8 :: F)) b = some (g.C, chs (cmdA (newC A B E) b g.T) (newP A B), (deeds (cmdA (newC A B E) b g.T) (newP A B)).foldl (stepD (F.drop 4)) (start (0#8 :: F)), g.h) := by
        have := rdU_good (g.far : Int) g.T (newC A B E) b (newP A B) (start (0#8 :: F)) 1 W hC0 I.f hsyn hno (by rw [hwl]; omega) (by rw [← I.fr]; exact Int.le_refl _) (by omega) (b.length + W) (by rw [hwl]; omega)
        rw [this, ← I.w]
      have R1 : 1 < g.far → rdU (F.drop 4) (b.length + W) ((g.far - 1 : Nat) : Int) W (newC A B E) (newP A B) (start (0#8 :: F)) b = none := fun h1 =>
        rdU_far (g.far - 1) g.T (newC A B E) b (newP A B) (start (0#8 :: F)) 1 W hC0 I.f hsyn hno (by rw [hwl]; omega) (by omega) (by rw [← I.fr]; omega) (by omega) (b.length + W) (by rw [hwl]; omega)
      have R2 : 1 < g.last → 1 ≤ W ∧ rdU (F.drop 4) (b.length + (W - 1)) (g.far : Int) (W - 1) (newC A B E) (newP A B) (start (0#8 :: F)) b = none := fun h1 => by
        rcases I.la with ⟨_, h0⟩ | ⟨T', z, hT, hz⟩
        · omega
        · have hf := I.f
          have hs := hsyn
          have hn := hno
          have hl := hwl
          have hfr := I.fr
          rw [hT] at hf hs hn hl hfr
          have hwz : b.length + T'.length + lenS z ≤ (walkS (newC A B E) b (T' ++ [z])).2.length := by
            have f4 := hf
            rw [fitA_app] at f4
            have := walk_len T' _ _ f4.1
            rw [walk_app]
            have e := grow_len (walkS (newC A B E) b T').2 z (distN (walkS (newC A B E) b T').1 z)
            show _ ≤ (growS (walkS (newC A B E) b T').2 z (distN (walkS (newC A B E) b T').1 z)).length
            omega
          exact ⟨by omega, rdU_less (g.far : Int) z (by omega) T' (newC A B E) b (newP A B) (start (0#8 :: F)) 1 (W - 1) hC0 hf hs hn (by rw [hl]; omega) (by rw [← hfr]; exact Int.le_refl _) (by omega) (b.length + (W - 1)) (by rw [hl]; omega)⟩
      simp (maxSteps := 1000000) -implicitDefEqProofs only [go_sem, seval, -List.reduceReplicate, c1, q1, q2, q3, q4, q5]
      refine by_tail I.S.hi b.length (by omega) elBy inSz ?_
      intro wv hwv
      have hwn : (g.h.drop b.length).length = W := by rw [List.length_drop, hW]
      obtain ⟨w1, w2, w3, w4, w5⟩ := hwv.facts
      have w6 := hwv.len Try.prog 22
      rw [hwn] at w6
      simp (maxSteps := 1000000) -implicitDefEqProofs only [go_sem, seval, -List.reduceReplicate, w1, w2, w3, w4, w5]
      refine LoopOk.upX (fun k (x : Mem × Nat) => Gr g.M g.n x.1 x.2) 3
        (fun k x => ([(22, .int .i64 (k : Nat)), (21, wv), (17, .int .i64 (g.last : Nat)), (16, .int .i64 (g.far : Nat)), (13, .ptr nx1 0), (10, .bool false), (3, .ro b.length (bvs .u8 b)), (0, .int .i64 (A : Nat)), (1, .int .i64 (B : Nat)), (2, .int .i64 (E : Nat))], x.1, x.2)) (g.M, g.n) (.refl I.nd I.lt) (D.leN (Nat.zero_le _) ⟨rfl, rfl, rfl, rfl, rfl, rfl, rfl, rfl, rfl, rfl, trivial⟩) ?_
      rintro k ⟨mk, nk⟩ ⟨hk, gk⟩
      have gk : Gr g.M g.n mk nk := gk
      have hk : k ≤ 3 := hk
      rcases Nat.lt_or_ge k 3 with h' | h'
      · have c3 : decide ((k : Int) < 3) = true := decide_eq_true (by omega)
        have wk : IntKind.i64.wrap ((k : Int) + 1) = ((k + 1 : Nat) : Int) := by rw [wrap_i64] <;> omega
        have Dk := rdmT gk.nd (nx := nk)
        have hx := bytEOk Dk gk.lt (show EncAt nx1 mk g.e g.ns from (I.S.gr gk).io) (by have := I.b1.2; omega)
        rw [heq] at hx
        simp (maxSteps := 1000000) -implicitDefEqProofs only [go_sem, seval, -List.reduceReplicate, c3]
        refine CallG.any (CallG.weak hx ?_)
        rintro v6 m6 n6 ⟨ns6, b6, b6r, b6n, g6⟩
        obtain ⟨o1, o2, o3, o4, o5⟩ := b6.facts
        simp (maxSteps := 1000000) -implicitDefEqProofs only [go_sem, seval, -List.reduceReplicate, o1, o2, o3, o4, o5]
        have hnE : newE (0#8 :: F) = 0 := by
          rw [newE, if_neg (by rw [List.length_cons]; omega), if_neg (fun e => e rfl)]
        refine CallG.weak (dnewBy (by rw [List.length_cons]; omega) g6.nd g6.lt b6) ?_
        rintro v7 m7 n7 ⟨g7, hif⟩
        rw [if_pos hnE] at hif
        obtain ⟨a, an, rfl, ha, han, hd7⟩ := hif
        have g67 := (gk.trans g6).trans g7
        have D7 := rdmT g7.nd (nx := n7)
        simp (maxSteps := 1000000) -implicitDefEqProofs only [go_sem, seval, -List.reduceReplicate]
        have n8 := rnewY D7 g7.lt A B E hm
        rw [Int.toNat_natCast, Int.toNat_natCast, Int.toNat_natCast] at n8
        refine CallG.any (CallG.weak n8 ?_)
        rintro v8 m8 n8 ⟨rfl, g8, co8⟩
        have D8 := rdmT g8.nd (nx := n8)
        have G8 := g67.trans g8
        obtain ⟨oa, hoa⟩ := hd7.live a (.head _)
        obtain ⟨oan, hoan⟩ := hd7.live an (.tail _ (.head _))
        have al := look_ltm g7.lt hoa
        have anl := look_ltm g7.lt hoan
        have hd7 : DcAt a (F.drop 4) m7 (start (0#8 :: F)) [a, an] := hd7
        have S8 : MS (decIo a (F.drop 4) hDD) (n7 + 1) n7 (.ro b.length (bvs .u8 b)) b [] (newC A B E) (newP A B) (start (0#8 :: F)) [a, an] m8 := ⟨co8, hd7.ext fun k _ => g8.kp k, .ro _ _, (by simp; omega), (by simp; omega), (fun h => by cases h), (fun h => by cases h), fun k h => by cases h⟩
        have lk := gk.le
        have l6 := g6.le
        have l7 := g7.le
        have hnew : ∀ k ∈ (n7 + 1) :: n7 :: [a, an], g.n ≤ k := fun k hk => by simp at hk; omega
        have hu := fun (many : Nat) (dict : Int) (h1 : b.length + many ≤ 50000000) (h2 : 1 ≤ dict) => ureadOk D8 g8.lt S8 hC0 (fun _ _ => rfl) (start_ok (0#8 :: F)) many dict h1 h2
        have next : ∀ {m9 : Mem} {n9 : Nat}, Fr ((n7 + 1) :: n7 :: [a, an]) m8 n8 m9 n9 → Gr g.M g.n m9 n9 := fun f => gr_app G8 I.lt hnew f.le f.nd f.lt f.kp
        rcases (show k = 0 ∨ k = 1 ∨ k = 2 by omega) with k0 | k0 | k0
        · have z0 : (((k : Nat) : Int) == 0) = true := by simp [k0]
          have z1 : (((k : Nat) : Int) == 1) = false := by simp [k0]
          have z2 : (((k : Nat) : Int) == 2) = false := by simp [k0]
          simp (maxSteps := 1000000) -implicitDefEqProofs only [go_sem, seval, -List.reduceReplicate, w1, w2, w3, w4, w5, w6, z0, z1, z2]
          have hu0 := hu W (g.far : Int) (by omega) (by omega)
          rw [R0] at hu0
          refine CallG.any (CallG.weak hu0 ?_)
          rintro v9 m9 n9 ⟨fr9, s9, os, ns9, rfl, hb9, hos, co9, hd9, hns9, _, hok9⟩
          have G9 := next fr9
          have D9 := rdmT fr9.nd (nx := n9)
          obtain ⟨p1, p2, p3, p4, p5⟩ := hb9.facts
          obtain ⟨dn, dcap, dsp, hdn, hdec⟩ := id hd9
          have hdd : CallG false Try.prog 57 [.ptr a 0] (fun _ => true) m9 n9 (PK (.bool true) m9 n9) := by
            have := ddoneOk D9 hdec hok9.1
            rw [hdone] at this
            exact this
          simp (maxSteps := 1000000) -implicitDefEqProofs only [go_sem, seval, -List.reduceReplicate, w1, w2, w3, w4, w5, w6, z0, z1, z2, p1, p2, p3, p4, p5]
          rw [hb9.cvx elBy inBy stBy]
          simp (maxSteps := 1000000) -implicitDefEqProofs only [go_sem, seval, -List.reduceReplicate, w1, w2, w3, w4, w5, w6, z0, z1, z2, p1, p2, p3, p4, p5]
          rw [(hwv.grow G9).cvx elBy inBy stBy]
          simp (maxSteps := 1000000) -implicitDefEqProofs only [go_sem, seval, -List.reduceReplicate, w1, w2, w3, w4, w5, w6, z0, z1, z2, p1, p2, p3, p4, p5, strEq, bne_self_eq_false]
          refine CallG.any (CallG.pk hdd ?_)
          simp (maxSteps := 1000000) -implicitDefEqProofs only [go_sem, seval, -List.reduceReplicate, w1, w2, w3, w4, w5, w6, z0, z1, z2, p1, p2, p3, p4, p5, wk]
          exact UpX_normal h' (m9, n9) G9 ((rdmT G9.nd).leN (Nat.zero_le _) ⟨rfl, rfl, rfl, rfl, rfl, rfl, rfl, rfl, rfl, rfl, trivial⟩)
        · have z0 : (((k : Nat) : Int) == 0) = false := by simp [k0]
          have z1 : (((k : Nat) : Int) == 1) = true := by simp [k0]
          have z2 : (((k : Nat) : Int) == 2) = false := by simp [k0]
          have wf : IntKind.i64.wrap (((g.far : Nat) : Int) - 1) = ((g.far - 1 : Nat) : Int) := by rw [wrap_i64] <;> omega
          by_cases hf1 : 1 < g.far
          · have cf : decide (((g.far : Nat) : Int) > 1) = true := decide_eq_true (by omega)
            simp (maxSteps := 1000000) -implicitDefEqProofs only [go_sem, seval, -List.reduceReplicate, w1, w2, w3, w4, w5, w6, z0, z1, z2, wf]
            have hu0 := hu W ((g.far - 1 : Nat) : Int) (by omega) (by omega)
            rw [R1 hf1] at hu0
            refine CallG.any (CallG.weak hu0 ?_)
            rintro v9 m9 n9 ⟨fr9, rfl⟩
            have G9 := next fr9
            simp (maxSteps := 1000000) -implicitDefEqProofs only [go_sem, seval, -List.reduceReplicate, w1, w2, w3, w4, w5, w6, z0, z1, z2, cf, wk]
            exact UpX_normal h' (m9, n9) G9 ((rdmT G9.nd).leN (Nat.zero_le _) ⟨rfl, rfl, rfl, rfl, rfl, rfl, rfl, rfl, rfl, rfl, trivial⟩)
          · have cf : decide (((g.far : Nat) : Int) > 1) = false := decide_eq_false (by omega)
            simp (maxSteps := 1000000) -implicitDefEqProofs only [go_sem, seval, -List.reduceReplicate, w1, w2, w3, w4, w5, w6, z0, z1, z2, wf]
            refine CallG.any (CallG.pk (ureadBad D8 _ _ _ _ _ (.inr (by omega))) ?_)
            simp (maxSteps := 1000000) -implicitDefEqProofs only [go_sem, seval, -List.reduceReplicate, w1, w2, w3, w4, w5, w6, z0, z1, z2, cf, wk]
            exact UpX_normal h' (m8, n8) G8 ((rdmT G8.nd).leN (Nat.zero_le _) ⟨rfl, rfl, rfl, rfl, rfl, rfl, rfl, rfl, rfl, rfl, trivial⟩)
        · have z0 : (((k : Nat) : Int) == 0) = false := by simp [k0]
          have z1 : (((k : Nat) : Int) == 1) = false := by simp [k0]
          have z2 : (((k : Nat) : Int) == 2) = true := by simp [k0]
          by_cases hl1 : 1 < g.last
          · have cl : decide (((g.last : Nat) : Int) > 1) = true := decide_eq_true (by omega)
            obtain ⟨hW1, hR2⟩ := R2 hl1
            have wf : IntKind.i64.wrap (((W : Nat) : Int) - 1) = ((W - 1 : Nat) : Int) := by rw [wrap_i64] <;> omega
            simp (maxSteps := 1000000) -implicitDefEqProofs only [go_sem, seval, -List.reduceReplicate, w1, w2, w3, w4, w5, w6, z0, z1, z2, wf, cl]
            have hu0 := hu (W - 1) (g.far : Int) (by omega) (by omega)
            rw [hR2] at hu0
            refine CallG.any (CallG.weak hu0 ?_)
            rintro v9 m9 n9 ⟨fr9, rfl⟩
            have G9 := next fr9
            simp (maxSteps := 1000000) -implicitDefEqProofs only [go_sem, seval, -List.reduceReplicate, w1, w2, w3, w4, w5, w6, z0, z1, z2, cl, wk]
            exact UpX_normal h' (m9, n9) G9 ((rdmT G9.nd).leN (Nat.zero_le _) ⟨rfl, rfl, rfl, rfl, rfl, rfl, rfl, rfl, rfl, rfl, trivial⟩)
          · have cl : decide (((g.last : Nat) : Int) > 1) = false := decide_eq_false (by omega)
            simp (maxSteps := 1000000) -implicitDefEqProofs only [go_sem, seval, -List.reduceReplicate, w1, w2, w3, w4, w5, w6, z0, z1, z2, cl]
            have hu0 := hu W (g.far : Int) (by omega) (by omega)
            rw [R0] at hu0
            refine CallG.any (CallG.weak hu0 ?_)
            rintro v9 m9 n9 ⟨fr9, s9, os, ns9, rfl, hb9, _⟩
            have G9 := next fr9
            obtain ⟨p1, p2, p3, p4, p5⟩ := hb9.facts
            simp (maxSteps := 1000000) -implicitDefEqProofs only [go_sem, seval, -List.reduceReplicate, w1, w2, w3, w4, w5, w6, z0, z1, z2, cl, wk, p1, p2, p3, p4, p5]
            exact UpX_normal h' (m9, n9) G9 ((rdmT G9.nd).leN (Nat.zero_le _) ⟨rfl, rfl, rfl, rfl, rfl, rfl, rfl, rfl, rfl, rfl, trivial⟩)
      · have hk3 : k = 3 := by omega
        have c3 : decide ((k : Int) < 3) = false := decide_eq_false (by omega)
        simp (maxSteps := 1000000) -implicitDefEqProofs only [go_sem, seval, -List.reduceReplicate, c3]
        refine kn08 ?_
        simp (maxSteps := 1000000) -implicitDefEqProofs only [go_sem, seval, -List.reduceReplicate]
        exact fin
end Go.Proofs.Ytmdeoikpiiambaa
end
