/- Parsing: what symbols stand for. -/
import Derived.Test.YtmnbbpckglppjaaEng26
import Derived.Test.YtmnbbpckglppjaaPri
set_option linter.unusedVariables false
set_option linter.unusedSimpArgs false
set_option maxRecDepth 100000
namespace Go.Proofs.Ytmnbbpckglppjaa
open Go Go.Eng

theorem front0 (r : R4) : r.front r.a 0 = r := rfl
theorem LikeV_pos {d : List (BitVec 8)} {dict e M : Int} {p : Nat} (h : 0 < LikeV d dict p e M) : p < d.length ∧ 1 ≤ e ∧ e ≤ p ∧ e ≤ dict ∧ LikeV d dict p e M ≤ 273 ∧ LikeV d dict p e M ≤ M ∧ LikeV d dict p e M ≤ ((d.length - p : Nat) : Int) ∧ ∀ j : Nat, (j : Int) < LikeV d dict p e M → d.getD (p + j) 0 = d.getD (p - e.toNat + j) 0 := by
  rw [LikeV] at h ⊢
  split at h
  · omega
  · rename_i hc
    rw [if_neg hc, Int.toNat_natCast] at *
    have hle := lkn_le d (min (min M 273) ((d.length - p : Nat) : Int)).toNat p (p - e.toNat)
    refine ⟨by omega, by omega, by omega, by omega, by omega, by omega, by omega, fun j hj => ?_⟩
    exact lkn_eq d (min (min M 273) ((d.length - p : Nat) : Int)).toNat p (p - e.toNat) j (by omega)
/-- how the repeats' search ends -/
theorem repN_spec (d : List (BitVec 8)) (dict p left : Int) (r : R4) : ∀ i, (repN d dict p left r i).2 = 0 ∨ ((repN d dict p left r i).1 < i ∧ (repN d dict p left r i).2 = LikeV d dict p (r.get (repN d dict p left r i).1) left)
  | 0 => .inl rfl
  | i + 1 => by
    rw [repN]
    split
    · exact .inr ⟨Nat.lt_succ_self _, rfl⟩
    · rcases repN_spec d dict p left r i with h | ⟨h1, h2⟩
      · exact .inl h
      · exact .inr ⟨by omega, h2⟩
/-- a symbol that goes: what it is, and what it stands for -/
inductive Goes (d : List (BitVec 8)) (dict : Int) (p q : Nat) (r : R4) : Sym → R4 → Prop
  | lit : p < d.length → Goes d dict p q r (Lit (d.getD p 0)) r
  | mat (l e : Nat) : 2 ≤ l → l ≤ 273 → p + l ≤ q → 1 ≤ e → e ≤ p → (e : Int) ≤ dict → (∀ j, j < l → d.getD (p + j) 0 = d.getD (p - e + j) 0) → Goes d dict p q r (Mat l e) (r.front e 3)
  | rpt (l w e : Nat) : w < 4 → (2 ≤ l ∧ l ≤ 273 ∨ l = 1 ∧ w = 0) → p + l ≤ q → 1 ≤ e → e ≤ p → (e : Int) ≤ dict → r.get w = e → (∀ j, j < l → d.getD (p + j) 0 = d.getD (p - e + j) 0) → Goes d dict p q r (Rpt l w) (r.front (r.get w) w)
theorem nextF_goes (d : List (BitVec 8)) (dict nice : Int) (hn : nice ≤ 273) (p q : Nat) (h : p < q) (hq : q ≤ d.length) (r : R4) : Goes d dict p q r (nextF d dict nice p ((q : Int) - p) r).1 (nextF d dict nice p ((q : Int) - p) r).2 := by
  unfold nextF
  split
  · rename_i hc
    rcases repN_spec d dict p ((q : Int) - p) r 4 with h0 | ⟨h1, h2⟩
    · omega
    · obtain ⟨hc1, _⟩ := hc
      generalize repN d dict p ((q : Int) - p) r 4 = z at h1 h2 hc1
      obtain ⟨w, n⟩ := z
      have h1 : w < 4 := h1
      have h2 : n = LikeV d dict p (r.get w) ((q : Int) - p) := h2
      have hc1 : 2 ≤ n := hc1
      obtain ⟨a1, a2, a3, a4, a5, a6, a7, a8⟩ := LikeV_pos (show 0 < LikeV d dict p (r.get w) ((q : Int) - p) by omega)
      rw [← h2] at a5 a6 a7 a8
      obtain ⟨l, rfl⟩ : ∃ l : Nat, n = (l : Int) := ⟨n.toNat, by omega⟩
      obtain ⟨e, he⟩ : ∃ e : Nat, r.get w = (e : Int) := ⟨(r.get w).toNat, by omega⟩
      rw [he, Int.toNat_natCast] at a8
      exact .rpt l w e h1 (.inl ⟨by omega, by omega⟩) (by omega) (by omega) (by omega) (by omega) he (fun j hj => a8 j (by omega))
  · split
    · rename_i hc
      rw [BestP, if_neg (by omega), Int.toNat_natCast] at hc ⊢
      rcases bestR_spec' d p (min (min ((q : Int) - p) nice) ((d.length - p : Nat) : Int)).toNat (min (p : Int) dict).toNat with hz | ⟨s1, s2, s3, s4, s5, s6⟩
      · rw [hz] at hc
        rcases hc with hc | hc
        · exact absurd hc (by decide)
        · exact absurd hc.1 (by decide)
      · generalize bestR d p (min (min ((q : Int) - p) nice) ((d.length - p : Nat) : Int)).toNat (min (p : Int) dict).toNat = z at s1 s2 s3 s4 s5 s6
        obtain ⟨l, e⟩ := z
        have s1 : 2 ≤ l := s1
        have s2 : l ≤ (min (min ((q : Int) - p) nice) ((d.length - p : Nat) : Int)).toNat := s2
        have s3 : 1 ≤ e := s3
        have s4 : e ≤ (min (p : Int) dict).toNat := s4
        exact .mat l e s1 (by omega) (by omega) s3 (by omega) (by omega) (fun j hj => lkn_eq d _ p (p - e) j (by rw [← s5]; exact hj))
    · split
      · rename_i hc
        obtain ⟨a1, a2, a3, a4, a5, a6, a7, a8⟩ := LikeV_pos hc
        obtain ⟨e, he⟩ : ∃ e : Nat, r.a = (e : Int) := ⟨r.a.toNat, by omega⟩
        rw [he, Int.toNat_natCast] at a8
        have := Goes.rpt (d := d) (dict := dict) (p := p) (q := q) (r := r) 1 0 e (by decide) (.inr ⟨rfl, rfl⟩) (by omega) (by omega) (by omega) (by omega) he (fun j hj => a8 j (by rw [← he]; omega))
        exact this
      · exact .lit (by omega)
theorem take_succ_getD (d : List (BitVec 8)) (k : Nat) (h : k < d.length) : d.take (k + 1) = d.take k ++ [d.getD k 0] := by
  rw [List.take_add_one, List.getElem?_eq_getElem h, List.getD_eq_getElem?_getD, List.getElem?_eq_getElem h]; rfl
theorem grw_take (d : List (BitVec 8)) (p e : Nat) (h1 : 1 ≤ e) (he : e ≤ p) : ∀ l, p + l ≤ d.length → (∀ j, j < l → d.getD (p + j) 0 = d.getD (p - e + j) 0) → grw (d.take p) e l = d.take (p + l)
  | 0, _, _ => rfl
  | l + 1, hl, hj => by
    have ih := grw_take d p e h1 he l (by omega) fun j hj' => hj j (by omega)
    rw [grw, ih, show p + (l + 1) = p + l + 1 by omega, take_succ_getD d (p + l) (by omega), hj l (by omega)]
    have e1 : (d.take (p + l)).length = p + l := by rw [List.length_take]; omega
    rw [e1, List.getD_eq_getElem?_getD, List.getElem?_take, if_pos (by omega), ← List.getD_eq_getElem?_getD, show p + l - e = p - e + l by omega]
/-- a symbol among others -/
theorem sym_at (L : List Sym) (S : List AV) (i : Nat) (s : Sym) (h : L[i]? = some s) : List.take 5 (List.drop (i * 5) (L.flatMap symC ++ S)) = symC s ∧ i * 5 + 5 ≤ (L.flatMap symC ++ S).length := by
  have key : ∀ (L : List Sym) (i : Nat), L[i]? = some s → List.take 5 (List.drop (i * 5) (L.flatMap symC ++ S)) = symC s := fun L => by
    induction L with
    | nil => intro i h; simp at h
    | cons x r ih =>
      intro i h
      cases i with
      | zero => simp at h; subst h; rfl
      | succ i =>
        rw [List.getElem?_cons_succ] at h
        have := ih i h
        rw [List.flatMap_cons, show (i + 1) * 5 = 5 + i * 5 by omega, List.append_assoc, ← List.drop_drop]
        exact this
  refine ⟨key L i h, ?_⟩
  have hi : i < L.length := (List.getElem?_eq_some_iff.1 h).1
  rw [List.length_append, flat_len]
  omega
theorem symLits (s : Sym) (h1 : -9223372036854775808 ≤ s.kind ∧ s.kind < 9223372036854775808) (h2 : -9223372036854775808 ≤ s.len ∧ s.len < 9223372036854775808) (h3 : -9223372036854775808 ≤ s.dist ∧ s.dist < 9223372036854775808) (h4 : -9223372036854775808 ≤ s.rep ∧ s.rep < 9223372036854775808) :
    aggLits Try.prog 83 (symC s) = some [Lit.int .i64 s.kind, Lit.int .u8 (s.byte.toNat : Int), Lit.int .i64 s.len, Lit.int .i64 s.dist, Lit.int .i64 s.rep] := by
  have c83 : Try.prog.cellsOf 83 = 5 := by kernel_rfl
  have c3 : Try.prog.cellsOf 3 = 1 := by kernel_rfl
  have c5 : Try.prog.cellsOf 5 = 1 := by kernel_rfl
  have u3 : Try.prog.underlying 3 = some (.int .i64) := Try.underlying3
  have u5 : Try.prog.underlying 5 = some (.int .u8) := Try.underlying5
  have u83 := Try.underlying83
  have hf : (Value.agg [Value.int .i64 s.kind, Value.int .u8 (s.byte.toNat : Int), Value.int .i64 s.len, Value.int .i64 s.dist, Value.int .i64 s.rep].toArray).formed Try.prog 83 = true := by
    simp only [Value.formed, u83, c83, List.size_toArray, List.length_cons, List.length_nil]
    rfl
  simp only [aggLits, symC, avVals, Option.map_some, Option.bind_some, hf, if_true]
  unfold Program.keyLits
  simp only [u83, c83, List.length_cons, List.length_nil, Nat.reduceAdd]
  rw [if_pos (And.intro (by trivial) (by kernel_rfl))]
  simp only [List.mapM_cons, List.mapM_nil, List.drop_zero, c3, c5, List.take_succ_cons, List.take_zero, List.drop_succ_cons]
  unfold Program.keyLits
  simp only [u3, u5, wf_int64 h1.1 h1.2, wf_int64 h2.1 h2.2, wf_int64 h3.1 h3.2, wf_int64 h4.1 h4.2, wf_bv8, and_self, if_true]
  rfl
end Go.Proofs.Ytmnbbpckglppjaa
