/- Parsing: what each symbol does, told alike. -/
import Derived.Test.YtmnbbpckglppjaaEng26
import Derived.Test.YtmnbbpckglppjaaPrj
set_option linter.unusedVariables false
set_option linter.unusedSimpArgs false
set_option maxRecDepth 100000
namespace Go.Proofs.Ytmnbbpckglppjaa
open Go Go.Eng

def BecG (c : Nat) (r' : R4) (P : AV) (wr : Nat → Bool) (m : Mem) (nx : Nat) : Kv := fun v m' nx' => v = .tup [] ∧ nx ≤ nx' ∧ Rdm wr m' nx' ∧ (∀ x ∈ m', x.1 < nx') ∧
  (∃ (n' cap' : Nat) (sp' : List Value) (st' : Int), CodAt m' nx' c 0 0 0 st' n' r' cap' sp' P ∧ 0 ≤ st' ∧ st' < 12) ∧ ∀ k X, k ≠ c → Eng.look m k = some X → Eng.look m' k = some X
structure SymW (d : List (BitVec 8)) (dict : Int) (p : Nat) (s : Sym) (r r' : R4) (e : Int) : Prop where
  le : e ≤ dict
  ad : 1 ≤ advS s
  lits : aggLits Try.prog 83 (symC s) = some [Lit.int .i64 s.kind, Lit.int .u8 (s.byte.toNat : Int), Lit.int .i64 s.len, Lit.int .i64 s.dist, Lit.int .i64 s.rep]
  fits : ∀ {wr : Nat → Bool} {m : Mem} {nx c n cap : Nat} {st : Int} {sp : List Value} {P : AV} (h hc : Nat), Rdm wr m nx → (∀ x ∈ m, x.1 < nx) → CodAt m nx c 0 0 0 st n r cap sp P →
    CallG false Try.prog 48 [.ptr c 0, .sl h 0 (d.take p).length hc, .agg (symC s)] wr m nx (Ku (.bool true) m nx)
  dist : ∀ {wr : Nat → Bool} {m : Mem} {nx c n cap : Nat} {st : Int} {sp : List Value} {P : AV}, Rdm wr m nx → (∀ x ∈ m, x.1 < nx) → CodAt m nx c 0 0 0 st n r cap sp P →
    CallG false Try.prog 49 [.ptr c 0, .agg (symC s)] wr m nx (Ku (.int .i64 e) m nx)
  plain : ∀ {wr : Nat → Bool} {m : Mem} {nx : Nat}, Rdm wr m nx → (∀ x ∈ m, x.1 < nx) →
    CallG false Try.prog 50 [.agg (symC s)] wr m nx (Ku (.agg (symC s)) m nx)
  bec : ∀ {wr : Nat → Bool} {m : Mem} {nx c n cap : Nat} {st : Int} {sp : List Value} {P : AV}, Rdm wr m nx → (∀ x ∈ m, x.1 < nx) → CodAt m nx c 0 0 0 st n r cap sp P → wr c = true → 0 ≤ st ∧ st < 12 →
    CallG false Try.prog 51 [.ptr c 0, .agg (symC s)] wr m nx (BecG c r' P wr m nx)
  grow : ∀ {wr : Nat → Bool} {m : Mem} {nx h hc : Nat} {sp : List Value}, Rdm wr m nx → (∀ x ∈ m, x.1 < nx) → Eng.look m h = some (rowO (d.take p) sp) → h < nx →
    CallG false Try.prog 52 [.sl h 0 (d.take p).length hc, .agg (symC s), .int .i64 e] wr m nx (GrowK (d.take (p + advS s)) m nx)
theorem BecG_of {c : Nat} {r' : R4} {P : AV} {wr : Nat → Bool} {m : Mem} {nx : Nat} {st st' : Int} {n : Nat} {r : R4} {cap : Nat} {sp : List Value} (R : Rdm wr m nx) (hlt : ∀ x ∈ m, x.1 < nx) (Q : CodAt m nx c 0 0 0 st n r cap sp P) (h1 : 0 ≤ st') (h2 : st' < 12) {v : AV} {m' : Mem} {nx' : Nat} (h : BecK m nx c 0 0 0 st' r' P v m' nx') : BecG c r' P wr m nx v m' nx' := by
  obtain ⟨rfl, n', cap', sp', rfl, a1, a2⟩ := h
  have cn := Q.cn
  refine ⟨rfl, by omega, ((R.upd c _).up (by omega)).consN (fun x hx => by have := upd_lt hlt _ _ x hx; omega) _, ?_, ⟨n', cap', sp', st', ⟨?_, ?_, by omega, by omega, by omega⟩, h1, h2⟩, ?_⟩
  · intro x hx
    rcases List.mem_cons.1 hx with rfl | hx
    · exact a2
    · have := upd_lt hlt _ _ x hx; omega
  · rw [look_cons, if_neg (by omega)]
    exact look_upd_same _ Q.o
  · rw [look_cons, if_pos rfl]
  · intro k X hk hX
    obtain ⟨y, hy, e⟩ := look_lt hX
    have := hlt y hy
    rw [look_cons, if_neg (by omega), look_upd_other _ (by omega)]
    exact hX
theorem stL_ok {st : Int} (h : 0 ≤ st ∧ st < 12) : 0 ≤ stL st ∧ stL st < 12 := by rw [stL]; split; omega; split <;> omega
theorem stM_ok {st : Int} (h : 0 ≤ st ∧ st < 12) : 0 ≤ stM st ∧ stM st < 12 := by rw [stM]; split <;> omega
theorem stR_ok {st : Int} (l : Nat) (h : 0 ≤ st ∧ st < 12) : 0 ≤ stR st l ∧ stR st l < 12 := by rw [stR]; split; omega; split <;> omega
theorem tkLen (d : List (BitVec 8)) (p : Nat) (h : p ≤ d.length) : (d.take p).length = p := by rw [List.length_take]; omega
theorem goesW {d : List (BitVec 8)} {dict : Int} {p q : Nat} {r r' : R4} {s : Sym} (hd : 1 ≤ dict) (hl : d.length ≤ 1000) (hq : q ≤ d.length) (G : Goes d dict p q r s r') : ∃ e, SymW d dict p s r r' e ∧ p + advS s ≤ d.length := by
  rcases G with hp | ⟨l, e, h1, h2, h3, h4, h5, h6, h7⟩ | ⟨l, w, e, h1, h2, h3, h4, h5, h6, h7, h8⟩
  · refine ⟨0, ⟨by omega, Nat.le_refl _, symLits _ (show (-9223372036854775808 : Int) ≤ 0 ∧ (0 : Int) < 9223372036854775808 by decide) (show (-9223372036854775808 : Int) ≤ 0 ∧ (0 : Int) < 9223372036854775808 by decide) (show (-9223372036854775808 : Int) ≤ 0 ∧ (0 : Int) < 9223372036854775808 by decide) (show (-9223372036854775808 : Int) ≤ 0 ∧ (0 : Int) < 9223372036854775808 by decide), ?_, ?_, ?_, ?_, ?_⟩, hp⟩
    · intro wr m nx c n cap st sp P h hc R hlt Q
      exact fitsLit R hlt _ _ _
    · intro wr m nx c n cap st sp P R hlt Q
      exact distLit R hlt _ _
    · intro wr m nx R hlt
      exact plainLit R hlt _
    · intro wr m nx c n cap st sp P R hlt Q hw hst
      refine (becLit R hlt Q hw hst _).weak ?_
      rintro v m' nx' ⟨rfl, rfl, hx⟩
      have cn := Q.cn
      have nn := Q.nn
      refine ⟨rfl, hx, (R.upd c _).up hx, fun x hx' => by have := upd_lt hlt _ _ x hx'; omega, ⟨n, cap, sp, stL st, ⟨look_upd_same _ Q.o, by rw [look_upd_other _ Q.ne]; exact Q.q, by omega, by omega, Q.ne⟩, stL_ok hst⟩, fun k X hk hX => ?_⟩
      rw [look_upd_other _ (fun e => hk e.symm)]; exact hX
    · intro wr m nx h hc sp R hlt hh hn
      rw [show advS (Lit (d.getD p 0)) = 1 from rfl, take_succ_getD d p hp]
      exact growLit R hlt hh hn (by rw [tkLen d p (by omega)]; omega) _ _
  · have ha : advS (Mat l e) = l := by show (max (l : Int) 1).toNat = l; omega
    refine ⟨e, ⟨h6, by omega, symLits _ (show (-9223372036854775808 : Int) ≤ 1 ∧ (1 : Int) < 9223372036854775808 by decide) (show (-9223372036854775808 : Int) ≤ (l : Int) ∧ (l : Int) < 9223372036854775808 by omega) (show (-9223372036854775808 : Int) ≤ (e : Int) ∧ (e : Int) < 9223372036854775808 by omega) (show (-9223372036854775808 : Int) ≤ 0 ∧ (0 : Int) < 9223372036854775808 by decide), ?_, ?_, ?_, ?_, ?_⟩, by omega⟩
    · intro wr m nx c n cap st sp P h hc R hlt Q
      exact fitsMat R hlt _ _ _ _ _ _ h1 h2 h4 (by rw [tkLen d p (by omega)]; exact h5) (by omega)
    · intro wr m nx c n cap st sp P R hlt Q
      exact distMat R hlt _ _ _
    · intro wr m nx R hlt
      exact plainMat R hlt _ _
    · intro wr m nx c n cap st sp P R hlt Q hw hst
      exact (becMat R hlt Q hw l e).weak fun v m' nx' h => BecG_of R hlt Q (stM_ok hst).1 (stM_ok hst).2 h
    · intro wr m nx h hc sp R hlt hh hn
      have := growBack R hlt (hc := hc) hh hn (by rw [tkLen d p (by omega)]; omega) (Mat l e) l e (by show (1 : Int) ≠ 0; decide) rfl h2 (by rw [tkLen d p (by omega)]; omega)
      rw [grw_take d p e h4 h5 l (by omega) h7] at this
      rw [ha]; exact this
  · have ha : advS (Rpt l w) = l := by show (max (l : Int) 1).toNat = l; omega
    refine ⟨e, ⟨h6, by omega, symLits _ (show (-9223372036854775808 : Int) ≤ 2 ∧ (2 : Int) < 9223372036854775808 by decide) (show (-9223372036854775808 : Int) ≤ (l : Int) ∧ (l : Int) < 9223372036854775808 by omega) (show (-9223372036854775808 : Int) ≤ 0 ∧ (0 : Int) < 9223372036854775808 by decide) (show (-9223372036854775808 : Int) ≤ (w : Int) ∧ (w : Int) < 9223372036854775808 by omega), ?_, ?_, ?_, ?_, ?_⟩, by omega⟩
    · intro wr m nx c n cap st sp P h hc R hlt Q
      exact fitsRpt R hlt Q _ _ _ _ _ h1 h2 (by rw [h7, tkLen d p (by omega)]; omega)
    · intro wr m nx c n cap st sp P R hlt Q
      rw [← h7]
      exact distRpt R hlt Q _ _ h1
    · intro wr m nx R hlt
      exact plainRpt R hlt _ _
    · intro wr m nx c n cap st sp P R hlt Q hw hst
      exact (becRpt R hlt Q hw l w h1).weak fun v m' nx' h => BecG_of R hlt Q (stR_ok l hst).1 (stR_ok l hst).2 h
    · intro wr m nx h hc sp R hlt hh hn
      have := growBack R hlt (hc := hc) hh hn (by rw [tkLen d p (by omega)]; omega) (Rpt l w) l e (by show (2 : Int) ≠ 0; decide) rfl (by omega) (by rw [tkLen d p (by omega)]; omega)
      rw [grw_take d p e h4 h5 l (by omega) h8] at this
      rw [ha]; exact this
end Go.Proofs.Ytmnbbpckglppjaa
