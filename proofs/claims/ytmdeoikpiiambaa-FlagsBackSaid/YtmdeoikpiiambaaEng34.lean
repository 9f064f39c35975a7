/- The engine, part 34: bytes that lie somewhere: what a call answers, what it is lent, what is appended to. Own work. -/
import Derived.Test.YtmdeoikpiiambaaEng33
set_option linter.unusedVariables false
set_option linter.unusedSimpArgs false
namespace Go.Eng
open Go
/-- memory that only grew -/
structure Gr (m : Mem) (nx : Nat) (m' : Mem) (nx' : Nat) : Prop where
  le : nx ≤ nx'
  nd : (m'.map fun p => p.1).Nodup
  lt : ∀ p ∈ m', p.1 < nx'
  kp : ∀ k X, look m k = some X → look m' k = some X
theorem Gr.rdm {wr : Nat → Bool} {m m' : Mem} {nx nx' : Nat} (g : Gr m nx m' nx') (D : Rdm wr m nx) : Rdm wr m' nx' :=
  ⟨g.nd, fun n hn => by obtain ⟨o, ho⟩ := D.kp n hn; exact ⟨o, g.kp _ _ ho⟩, fun n hn => D.wn n (Nat.le_trans g.le hn)⟩
theorem Gr.trans {m m' m2 : Mem} {nx nx' nx2 : Nat} (g : Gr m nx m' nx') (h : Gr m' nx' m2 nx2) : Gr m nx m2 nx2 :=
  ⟨Nat.le_trans g.le h.le, h.nd, h.lt, fun k X e => h.kp _ _ (g.kp _ _ e)⟩
theorem Gr.refl {m : Mem} {nx : Nat} (nd : (m.map fun p => p.1).Nodup) (lt : ∀ p ∈ m, p.1 < nx) : Gr m nx m nx := ⟨Nat.le_refl _, nd, lt, fun _ _ h => h⟩
theorem Gr.of_ren {m m0 : Mem} {nx k : Nat} (nd : (m.map fun p => p.1).Nodup) (lt : ∀ p ∈ m, p.1 < nx) (h : Gr [] 0 m0 k) : Gr m nx (renM (fun n => n + nx) m0 ++ m) (nx + k) :=
  ⟨Nat.le_add_right _ _, ren_nodup h.nd nd lt, ren_lt h.lt lt, fun n X e => by
    obtain ⟨p, hp, e2⟩ := look_lt e
    have := lt p hp
    rw [look_ren_low _ _ _ _ (by omega)]; exact e⟩
theorem Gr.cons {m : Mem} {nx : Nat} (nd : (m.map fun p => p.1).Nodup) (lt : ∀ p ∈ m, p.1 < nx) (o : AObj) : Gr m nx ((nx, o) :: m) (nx + 1) := by
  have D := (rdmT nd (nx := nx)).cons lt o
  refine ⟨Nat.le_succ _, D.nd, cons_lt lt o, fun k X e => ?_⟩
  obtain ⟨p, hp, e2⟩ := look_lt e
  have := lt p hp
  rw [look_cons, if_neg (by omega)]; exact e
/-- plain: no names in it, nothing read only -/
def pln : AV → Bool
  | .val _ => true
  | x => flat x
theorem pln_ren {a : AV} (h : pln a = true) (f : Nat → Nat) : renA f a = a := by
  unfold pln at h
  split at h
  · rfl
  · exact flat_ren h f
theorem pln_noRo {a : AV} (h : pln a = true) : noRo a = true := by
  unfold pln at h
  split at h
  · rfl
  · exact flat_noRo h
theorem plnL_ren : ∀ {l : List AV}, l.all pln = true → ∀ f, renL f l = l
  | [], _, _ => rfl
  | x :: r, h, f => by
    simp only [List.all_cons, Bool.and_eq_true] at h
    show renA f x :: renL f r = _
    rw [pln_ren h.1, plnL_ren h.2]
theorem plnL_noRo : ∀ {l : List AV}, l.all pln = true → noRoL l = true
  | [], _ => rfl
  | x :: r, h => by
    simp only [List.all_cons, Bool.and_eq_true] at h
    show (noRo x && noRoL r) = true
    rw [pln_noRo h.1, plnL_noRo h.2]; rfl
theorem bvs_pln (k : IntKind) {w : Nat} (X : List (BitVec w)) : (bvs k X).all pln = true := by
  induction X with
  | nil => rfl
  | cons q r ih => rw [bvs_cons, List.all_cons, ih]; rfl
theorem val_pln : ∀ l : List Value, (l.map AV.val).all pln = true
  | [] => rfl
  | x :: r => by rw [List.map_cons, List.all_cons, val_pln r]; rfl
theorem pln_drop {l : List AV} (h : l.all pln = true) (n : Nat) : (l.drop n).all pln = true := List.all_eq_true.2 fun x hx => List.all_eq_true.1 h x (List.mem_of_mem_drop hx)
/-- bytes somewhere: none, read only, or a slice of a row -/
def ByAt (ty : TypeId) (m : Mem) (v : AV) (X : List (BitVec 8)) (ns : List Nat) : Prop :=
  (v = .nils ∧ X = [] ∧ ns = []) ∨ (v = .ro X.length (bvs .u8 X) ∧ ns = []) ∨ ∃ (n off cap : Nat) (pre sp : List AV), v = .sl n off X.length cap ∧ ns = [n] ∧ look m n = some (.cells (pre ++ (bvs .u8 X ++ sp)) ty) ∧ pre.length = off ∧ X.length ≤ cap ∧ cap ≤ X.length + sp.length ∧ cap ≤ maxI ∧ pre.all pln = true ∧ sp.all pln = true
theorem ByAt.ro {ty : TypeId} (m : Mem) (X : List (BitVec 8)) : ByAt ty m (.ro X.length (bvs .u8 X)) X [] := .inr (.inl ⟨rfl, rfl⟩)
theorem ByAt.nil {ty : TypeId} (m : Mem) : ByAt ty m .nils [] [] := .inl ⟨rfl, rfl, rfl⟩
theorem ByAt.row {ty : TypeId} {m : Mem} {n cap len : Nat} {X : List (BitVec 8)} {sp : List AV} (hl : len = X.length) (h : look m n = some (.cells (bvs .u8 X ++ sp) ty)) (h1 : X.length + sp.length = cap) (h2 : cap ≤ maxI) (h3 : sp.all pln = true) : ByAt ty m (.sl n 0 len cap) X [n] := by
  subst hl
  exact .inr (.inr ⟨n, 0, cap, [], sp, rfl, rfl, h, rfl, by omega, by omega, h2, rfl, h3⟩)
theorem ByAt.ext {ty : TypeId} {m m' : Mem} {v : AV} {X : List (BitVec 8)} {ns : List Nat} (h : ByAt ty m v X ns) (hk : ∀ k ∈ ns, ∀ o, look m k = some o → look m' k = some o) : ByAt ty m' v X ns := by
  rcases h with h | h | ⟨n, off, cap, pre, sp, h1, rfl, h3, h4⟩
  · exact .inl h
  · exact .inr (.inl h)
  · exact .inr (.inr ⟨n, off, cap, pre, sp, h1, rfl, hk n (.head _) _ h3, h4⟩)
theorem ByAt.grow {ty : TypeId} {m m' : Mem} {nx nx' : Nat} {v : AV} {X : List (BitVec 8)} {ns : List Nat} (h : ByAt ty m v X ns) (g : Gr m nx m' nx') : ByAt ty m' v X ns := h.ext fun k _ => g.kp k
theorem ByAt.live {ty : TypeId} {m : Mem} {v : AV} {X : List (BitVec 8)} {ns : List Nat} (h : ByAt ty m v X ns) : ∀ k ∈ ns, ∃ o, look m k = some o := by
  rcases h with ⟨_, _, rfl⟩ | ⟨_, rfl⟩ | ⟨n, off, cap, pre, sp, h1, rfl, h3, h4⟩
  · intro k hk; cases hk
  · intro k hk; cases hk
  · intro k hk; cases List.mem_singleton.1 hk; exact ⟨_, h3⟩
theorem ByAt.lt {ty : TypeId} {m : Mem} {nx : Nat} {v : AV} {X : List (BitVec 8)} {ns : List Nat} (h : ByAt ty m v X ns) (lt : ∀ p ∈ m, p.1 < nx) : ∀ k ∈ ns, k < nx := fun k hk => by
  obtain ⟨o, ho⟩ := h.live k hk
  obtain ⟨p, hp, rfl⟩ := look_lt ho
  exact lt p hp
theorem ByAt.argx {ty : TypeId} {m : Mem} {v : AV} {X : List (BitVec 8)} {ns own : List Nat} {f : Nat → Nat} (h : ByAt ty m v X ns) (ho : ∀ k ∈ ns, own.contains k = false) : argx m own f v (.ro X.length (bvs .u8 X)) := by
  rcases h with ⟨rfl, rfl, rfl⟩ | ⟨rfl, rfl⟩ | ⟨n, off, cap, pre, sp, rfl, rfl, h3, rfl, h5, h6, h7, h8, h9⟩
  · exact ⟨rfl, rfl⟩
  · show AV.ro _ _ = renA f (AV.ro _ _)
    simp only [renA, bvs_ren]
  · refine ⟨rfl, ho n (.head _), ?_⟩
    rw [h3]
    refine ⟨bvs_flat .u8 X, fun h0 => by rw [bvs_length]; exact h0, by rw [List.length_append, List.length_append]; omega, ?_⟩
    rw [List.drop_left, bvs_length, List.take_append_of_le_length (by rw [bvs_length]; exact Nat.le_refl _), List.take_of_length_le (by rw [bvs_length]; exact Nat.le_refl _)]
theorem ByAt.arg {ty : TypeId} {m : Mem} {v : AV} {X : List (BitVec 8)} {ns : List Nat} {f : Nat → Nat} (h : ByAt ty m v X ns) : Eng.argx m [] f v (.ro X.length (bvs .u8 X)) := h.argx fun _ _ => rfl
theorem ByAt.facts {ty : TypeId} {m : Mem} {v : AV} {X : List (BitVec 8)} {ns : List Nat} (h : ByAt ty m v X ns) : mapOf [v] = none ∧ one1 v = true ∧ isTup v = false ∧ acells v = [v] ∧ ∀ l off, stor l off v = l.set off v := by
  rcases h with ⟨rfl, _⟩ | ⟨rfl, _⟩ | ⟨n, off, cap, pre, sp, rfl, _⟩ <;> exact ⟨rfl, rfl, rfl, rfl, fun _ _ => rfl⟩
theorem ByAt.len {ty : TypeId} {m : Mem} {v : AV} {X : List (BitVec 8)} {ns : List Nat} (h : ByAt ty m v X ns) (P : Program) (t : TypeId) (k : AV → Prop) : lenx P t v k = ((elemT P t).isSome = true ∧ k (.int .i64 (X.length : Nat))) := by
  rcases h with ⟨rfl, rfl, _⟩ | ⟨rfl, _⟩ | ⟨n, off, cap, pre, sp, rfl, _⟩ <;> rfl
/-- a string's bytes -/
def strOf (X : List (BitVec 8)) : ByteArray := ⟨(X.map fun v => UInt8.ofNat v.toNat).toArray⟩
theorem strOf_def (X : List (BitVec 8)) : (⟨(X.map fun v => UInt8.ofNat v.toNat).toArray⟩ : ByteArray) = strOf X := rfl
theorem ByAt.conv {ty : TypeId} {m : Mem} {v : AV} {X : List (BitVec 8)} {ns : List Nat} (h : ByAt ty m v X ns) {P : Program} {rd : Nat → Bool} {s d e : TypeId} {k : AV → Prop} (hr : ∀ n ∈ ns, rd n = true) (he : elemT P s = some e) (hi : intT P e = some .u8) (hd : isStrT P d = true) :
    convx P rd m s d v k = k (.str (strOf X)) := by
  rcases h with ⟨rfl, rfl, _⟩ | ⟨rfl, _⟩ | ⟨n, off, cap, pre, sp, rfl, rfl, h3, rfl, h5, h6, h7, h8, h9⟩
  · simp only [convx, he, Option.some.injEq, exists_eq_left', hi, hd, true_and]; rfl
  · simp only [convx, he, Option.some.injEq, exists_eq_left', hi, hd, true_and, bvs_length, Nat.le_refl]
    rw [List.take_of_length_le (by rw [bvs_length]; exact Nat.le_refl _), u8s_bvs]
    simp only [Option.some.injEq, exists_eq_left']; rfl
  · simp only [convx, h3, hr n (.head _), he, Option.some.injEq, exists_eq_left', hi, hd, true_and]
    rw [List.drop_left, List.take_append_of_le_length (by rw [bvs_length]; exact Nat.le_refl _), List.take_of_length_le (by rw [bvs_length]; exact Nat.le_refl _), u8s_bvs]
    have hle : pre.length + X.length ≤ (pre ++ (bvs .u8 X ++ sp)).length := by rw [List.length_append, List.length_append, bvs_length]; omega
    simp only [Option.some.injEq, exists_eq_left', hle, true_and]; rfl
theorem ByAt.cvx {ty : TypeId} {m : Mem} {v : AV} {X : List (BitVec 8)} {ns : List Nat} (h : ByAt ty m v X ns) {P : Program} {wr : Nat → Bool} {s d e : TypeId} {nx : Nat} {K : Kv} (he : elemT P s = some e) (hi : intT P e = some .u8) (hd : isStrT P d = true) :
    cvx P wr s d v m nx K = K (.str (strOf X)) m nx := by
  have hc : convx P (fun _ => true) m s d v (KvAt K m nx) = K (.str (strOf X)) m nx := h.conv (fun _ _ => rfl) he hi hd
  rcases h with ⟨rfl, rfl, _⟩ | ⟨rfl, _⟩ | ⟨n, off, cap, pre, sp, rfl, _⟩
  · exact hc
  · exact hc
  · show cvs (isStrT P d) P wr s d n off X.length cap m nx K = _
    rw [hd]
    exact hc
theorem ByAt.src {ty : TypeId} {m : Mem} {v : AV} {X : List (BitVec 8)} {ns : List Nat} (h : ByAt ty m v X ns) : srcx m 1 v = some (X.length, bvs .u8 X) := by
  rcases h with ⟨rfl, rfl, _⟩ | ⟨rfl, _⟩ | ⟨n, off, cap, pre, sp, rfl, rfl, h3, rfl, h5, h6, h7, h8, h9⟩
  · rfl
  · show some (X.length, (bvs .u8 X).take (X.length * 1)) = _
    rw [Nat.mul_one, List.take_of_length_le (by rw [bvs_length]; exact Nat.le_refl _)]
  · simp only [srcx, h3]
    rw [List.drop_left, Nat.mul_one, List.take_append_of_le_length (by rw [bvs_length]; exact Nat.le_refl _), List.take_of_length_le (by rw [bvs_length]; exact Nat.le_refl _)]
/-- bytes appended -/
theorem appk_by {wr : Nat → Bool} {m : Mem} {nx : Nat} {K : Kv} {v : AV} {X Y : List (BitVec 8)} {ns : List Nat} (h : ByAt 5 m v X ns) (hv : v ≠ .ro X.length (bvs .u8 X)) (nd : (m.map fun p => p.1).Nodup) (wn : ∀ n, nx ≤ n → wr n = true) (hlt : ∀ p ∈ m, p.1 < nx) (hw : ∀ k ∈ ns, wr k = true) (hl : X.length + Y.length ≤ 100000000)
    (hK : ∀ (v' : AV) (m' : Mem) (nx' : Nat) (ns' : List Nat), ByAt 5 m' v' (X ++ Y) ns' → v' ≠ .ro (X ++ Y).length (bvs .u8 (X ++ Y)) → nx ≤ nx' → (∀ k ∈ ns', k ∈ ns ∨ nx ≤ k) → (m'.map fun p => p.1).Nodup → (∀ p ∈ m', p.1 < nx') → (∀ k o, k ∉ ns → look m k = some o → look m' k = some o) → (∀ k, look m k ≠ none → look m' k ≠ none) → K v' m' nx') :
    appk v m nx wr 5 1 1 (Y.length, bvs .u8 Y) K := by
  have keepc : ∀ (o : AObj) (k : Nat) (X : AObj), look m k = some X → look ((nx, o) :: m) k = some X := fun o k X hk => by
    obtain ⟨y, hy, e⟩ := look_lt hk
    have := hlt y hy
    rw [look_cons, if_neg (by omega)]; exact hk
  have keepn : ∀ (o : AObj) (k : Nat), look m k ≠ none → look ((nx, o) :: m) k ≠ none := fun o k hk => by
    cases e : look m k with
    | none => exact absurd e hk
    | some X => rw [keepc o k X e]; simp
  have D : Rdm (fun _ => true) m nx := rdmT nd
  rcases h with ⟨rfl, rfl, rfl⟩ | ⟨rfl, rfl⟩ | ⟨n, off, cap, pre, sp, rfl, rfl, hn, hp, c1, c2, c3, c4, c5⟩
  · simp only [appk]
    simp only [List.length_nil, Nat.zero_add] at hl
    refine ⟨by omega, by omega, fun h0 => ?_, fun h0 cap' sp' h1 h2 h3 => ?_⟩
    · have : Y = [] := List.eq_nil_of_length_eq_zero h0
      subst this
      exact hK _ _ _ [] (.nil _) (fun e => by cases e) (Nat.le_refl _) (fun k hk => by cases hk) nd hlt (fun k o _ h => h) fun k h => h
    · refine hK _ _ _ [nx] (.row (sp := sp'.map AV.val) rfl (by rw [look_cons, if_pos rfl]; rfl) (by rw [List.nil_append, List.length_map, h3]; omega) h2 (val_pln _)) (fun e => by cases e) (Nat.le_succ _) (fun k hk => .inr (by cases List.mem_singleton.1 hk; exact Nat.le_refl _)) (D.cons hlt _).nd (cons_lt hlt _) (fun k X _ => keepc _ k X) (keepn _)
  · exact absurd rfl hv
  · simp only [appk]
    refine .inr ⟨hw n (.head _), ?_⟩
    rw [hn]
    refine ⟨rfl, ?_, c3, by omega, by omega, fun hr => ?_, fun hr cap' sp' h1 h2 h3 => ?_⟩
    · rw [List.length_append, List.length_append, bvs_length]; omega
    · refine hK _ _ _ [n] (.inr (.inr ⟨n, off, cap, pre, sp.drop Y.length, by rw [List.length_append], rfl, ?_, hp, by rw [List.length_append]; exact hr, by rw [List.length_append, List.length_drop]; omega, c3, c4, pln_drop c5 _⟩)) (fun e => by cases e) (Nat.le_refl _) (fun k hk => .inl hk) (D.upd n _).nd (upd_lt hlt n _) ?_ ?_
      · rw [look_upd_same _ hn]
        have e1 : spl (pre ++ (bvs .u8 X ++ sp)) (off + X.length * 1) (bvs .u8 Y) = pre ++ (bvs .u8 (X ++ Y) ++ sp.drop Y.length) := by
          rw [spl, Nat.mul_one, ← List.append_assoc pre (bvs .u8 X) sp, List.take_append_of_le_length (by rw [List.length_append, bvs_length]; omega), List.take_of_length_le (by rw [List.length_append, bvs_length]; omega), bvs_length,
            show off + X.length + Y.length = (pre ++ bvs .u8 X).length + Y.length by rw [List.length_append, bvs_length]; omega, ← List.drop_drop, List.drop_left, ← bvs_append]
          simp only [List.append_assoc]
        rw [e1]
      · intro k X hk hX
        have hne : n ≠ k := fun e => hk (by rw [← e]; exact .head _)
        rw [look_upd_other _ hne]; exact hX
      · intro k hk
        by_cases e : n = k
        · subst e; rw [look_upd_same _ hn]; simp
        · rw [look_upd_other _ e]; exact hk
    · refine hK _ _ _ [nx] (.row (sp := sp'.map AV.val) (by rw [List.length_append]) ?_ (by rw [List.length_append, List.length_map, h3]; omega) h2 (val_pln _)) (fun e => by cases e) (Nat.le_succ _) (fun k hk => .inr (by cases List.mem_singleton.1 hk; exact Nat.le_refl _)) (D.cons hlt _).nd (cons_lt hlt _) (fun k X _ => keepc _ k X) (keepn _)
      rw [look_cons, if_pos rfl]
      have e1 : List.take (X.length * 1) (List.drop off (pre ++ (bvs .u8 X ++ sp))) = bvs .u8 X := by
        rw [← hp, List.drop_left, Nat.mul_one, List.take_append_of_le_length (by rw [bvs_length]; exact Nat.le_refl _), List.take_of_length_le (by rw [bvs_length]; exact Nat.le_refl _)]
      rw [e1, ← bvs_append]
/-- a call that answers bytes, and only adds to memory -/
def ByK (ty : TypeId) (F : AV → AV) (X : List (BitVec 8)) (m : Mem) (nx : Nat) : Kv := fun v m' nx' => ∃ s ns, v = F s ∧ ByAt ty m' s X ns ∧ s ≠ .ro X.length (bvs .u8 X) ∧ (∀ k ∈ ns, nx ≤ k) ∧ Gr m nx m' nx' ∧ (m = [] → noRoM m' = true)
theorem ByAt.ren {ty : TypeId} {m m0 : Mem} {v : AV} {X : List (BitVec 8)} {ns : List Nat} {nx : Nat} (hl : ∀ p ∈ m, p.1 < nx) (h : ByAt ty m0 v X ns) (hv : v ≠ .ro X.length (bvs .u8 X)) (hn : noRoM m0 = true) : ∃ s, renA (fun n => n + nx) v = s ∧ noRo v = true ∧ s ≠ .ro X.length (bvs .u8 X) ∧ ∃ ns', ByAt ty (renM (fun n => n + nx) m0 ++ m) s X ns' ∧ ∀ k ∈ ns', nx ≤ k := by
  rcases h with ⟨rfl, rfl, rfl⟩ | ⟨rfl, rfl⟩ | ⟨n, off, cap, pre, sp, rfl, rfl, h3, rfl, h5, h6, h7, h8, h9⟩
  · exact ⟨_, rfl, rfl, (fun e => by cases e), [], .nil _, fun k hk => by cases hk⟩
  · exact absurd rfl hv
  · refine ⟨_, rfl, rfl, (fun e => by cases e), [n + nx], .inr (.inr ⟨n + nx, pre.length, cap, pre, sp, by simp only [renA], rfl, ?_, rfl, h5, h6, h7, h8, h9⟩), fun k hk => ?_⟩
    · rw [look_ren_hi _ _ _ _ hl, h3]
      simp only [Option.map_some, renO, renL_append, bvs_ren, plnL_ren h8, plnL_ren h9]
    · cases List.mem_singleton.1 hk; omega
theorem CallOk.by {ty : TypeId} {fz : Bool} {P : Program} {g : FuncId} {args0 args : List AV} {wr : Nat → Bool} {m : Mem} {nx : Nat} {F : AV → AV} {X : List (BitVec 8)} (h : CallOk P g args0 (fun _ => true) [] 0 (ByK ty F X [] 0)) (nd : (m.map fun p => p.1).Nodup) (lt : ∀ p ∈ m, p.1 < nx)
    (ha : argsx m [] (rf [] nx 0) args args0) (hF2 : ∀ f s, renA f (F s) = F (renA f s)) (hF3 : ∀ s, noRo (F s) = noRo s) : CallG fz P g args wr m nx fun v m' nx' => ∃ s ns, v = F s ∧ ByAt ty m' s X ns ∧ s ≠ .ro X.length (bvs .u8 X) ∧ (∀ k ∈ ns, nx ≤ k) ∧ Gr m nx m' nx' := by
  refine h.more ha fun v m' nx' hr => ?_
  obtain ⟨s, ns, rfl, h1, h2, h3, h4, h5⟩ := hr
  have h5 := h5 rfl
  obtain ⟨s', rfl, e1, e2, ns', e3, e4⟩ := h1.ren lt h2 h5
  exact ⟨by rw [hF3]; exact e1, h5, _, ns', hF2 _ _, e3, e2, e4, Gr.of_ren nd lt h4⟩
/-- the end: bytes are answered -/
theorem Fin.by {ty : TypeId} {m : Mem} {nx : Nat} {s : AV} {X : List (BitVec 8)} {ns : List Nat} (h : ByAt ty m s X ns) (hv : s ≠ .ro X.length (bvs .u8 X)) (F : AV → AV) (hF : ∀ f s, renA f (F s) = F (renA f s)) : Fin 0 (fun _ => true) m nx (ByK ty F X [] 0) (F s) := by
  rcases h with ⟨rfl, rfl, rfl⟩ | ⟨rfl, rfl⟩ | ⟨n, off, cap, pre, sp, rfl, rfl, h3, rfl, h5, h6, h7, h8, h9⟩
  · exact Fin.flatv (fun _ => rfl) (fun f => by rw [hF]; rfl) ⟨.nils, [], rfl, .nil _, (fun e => by cases e), (fun k hk => by cases hk), ⟨Nat.le_refl _, List.nodup_nil, (fun p hp => by cases hp), fun _ _ h => by cases h⟩, fun _ => rfl⟩
  · exact absurd rfl hv
  · refine ⟨[(0, n)], F (.sl 0 pre.length X.length cap), [(0, .cells (pre ++ (bvs .u8 X ++ sp)) ty)], 1, ⟨rfl, by decide⟩, by rw [hF]; rfl, ⟨by simp only [renO, renL_append, bvs_ren, plnL_ren h8, plnL_ren h9]; exact h3, rfl, trivial⟩, by simp [injOn], (fun n e => by cases e), ?_⟩
    exact ⟨_, [0], rfl, .inr (.inr ⟨0, pre.length, cap, pre, sp, rfl, rfl, rfl, rfl, h5, h6, h7, h8, h9⟩), (fun e => by cases e), fun k hk => Nat.zero_le _, ⟨Nat.zero_le _, by simp, (fun p hp => by cases List.mem_singleton.1 hp; exact Nat.zero_lt_one), fun _ _ h => by cases h⟩, fun _ => by simp only [noRoM, noRoO, noRoL_append, bvs_noRo, plnL_noRo h8, plnL_noRo h9, Bool.and_self]⟩
theorem nd0 : (([] : Mem).map fun p => p.1).Nodup := List.nodup_nil
theorem lt0 : ∀ p ∈ ([] : Mem), p.1 < 0 := fun p hp => by cases hp
/-- the same, where bytes alone are answered -/
theorem CallG.by1 {ty : TypeId} {fz : Bool} {P : Program} {g : FuncId} {args0 args : List AV} {wr : Nat → Bool} {m : Mem} {nx : Nat} {F : AV → AV} {X : List (BitVec 8)} (h : CallG false P g args0 (fun _ => true) [] 0 (ByK ty F X [] 0)) (hF : F = fun s => s) (nd : (m.map fun p => p.1).Nodup) (lt : ∀ p ∈ m, p.1 < nx)
    (ha : argsx m [] (rf [] nx 0) args args0) : CallG fz P g args wr m nx fun v m' nx' => ∃ ns, ByAt ty m' v X ns ∧ v ≠ .ro X.length (bvs .u8 X) ∧ (∀ k ∈ ns, nx ≤ k) ∧ Gr m nx m' nx' := by
  subst hF
  refine (CallOk.by h.any nd lt ha (fun _ _ => rfl) (fun _ => rfl)).weak ?_
  rintro v m' nx' ⟨s, ns, rfl, h1⟩
  exact ⟨ns, h1⟩
theorem CallG.byK {ty : TypeId} {fz : Bool} {P : Program} {g : FuncId} {args0 args : List AV} {wr : Nat → Bool} {m : Mem} {nx : Nat} {K : Kv} {F : AV → AV} {X : List (BitVec 8)} (h : CallG false P g args0 (fun _ => true) [] 0 (ByK ty F X [] 0)) (hF : F = fun s => s) (nd : (m.map fun p => p.1).Nodup) (lt : ∀ p ∈ m, p.1 < nx)
    (ha : argsx m [] (rf [] nx 0) args args0) (hK : ∀ v m' nx' ns, ByAt ty m' v X ns → v ≠ .ro X.length (bvs .u8 X) → (∀ k ∈ ns, nx ≤ k) → Gr m nx m' nx' → K v m' nx') : CallG fz P g args wr m nx K :=
  (CallG.by1 h hF nd lt ha).weak fun v m' nx' hr => by
    obtain ⟨ns, h1, h2, h3, h4⟩ := hr
    exact hK _ _ _ ns h1 h2 h3 h4
theorem argx_roX {m : Mem} {own : List Nat} {f : Nat → Nat} {n : Nat} {X : List (BitVec 8)} (h : n = X.length) : argx m own f (.ro n (bvs .u8 X)) (.ro X.length (bvs .u8 X)) := by
  show AV.ro _ _ = renA f (AV.ro _ _)
  simp only [renA, bvs_ren, h]
theorem strOf_inj {A B : List (BitVec 8)} (h : (strOf A).toList = (strOf B).toList) : A = B := by
  rw [ByteArray.toList_eq, ByteArray.toList_eq] at h
  have h : A.map (fun v => UInt8.ofNat v.toNat) = B.map (fun v => UInt8.ofNat v.toNat) := h
  refine (List.map_inj_right fun x y e => ?_).1 h
  have e := congrArg UInt8.toNat e
  have hx : (UInt8.ofNat x.toNat).toNat = x.toNat := UInt8.toNat_ofNat_of_lt' x.isLt
  have hy : (UInt8.ofNat y.toNat).toNat = y.toNat := UInt8.toNat_ofNat_of_lt' y.isLt
  rw [hx, hy] at e
  exact BitVec.eq_of_toNat_eq e
theorem strEq (A B : List (BitVec 8)) : ((strOf A).toList == (strOf B).toList) = decide (A = B) := by
  by_cases h : A = B
  · rw [h, decide_eq_true rfl]; exact beq_self_eq_true _
  · rw [decide_eq_false h, beq_eq_false_iff_ne]
    exact fun e => h (strOf_inj e)
end Go.Eng
