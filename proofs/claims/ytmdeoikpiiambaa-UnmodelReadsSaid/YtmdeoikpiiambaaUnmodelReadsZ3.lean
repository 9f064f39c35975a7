/- Part 3 of the proof of the statement UnmodelReads: Eng34, Eng37, Fx, Eng14, Eng24, Eng35, Eng38, Moa, Mob, Mod, Moe. -/
import Derived.Test.YtmdeoikpiiambaaProg
import Derived.Attr
import Derived.ProofKit
import Derived.OpenShut
import Derived.DataElems
import Derived.Test.YtmdeoikpiiambaaUnmodelReadsZ2
section
/- The engine, part 34: bytes that lie somewhere: what a call answers, what it is lent, what is appended to. Own work. -/
set_option linter.unusedVariables false
set_option linter.unusedSimpArgs false
namespace Go.Eng
open Go
/-- memory that only grew -/
structure Gr (m : Mem) (nx : Nat) (m' : Mem) (nx' : Nat) : Prop where
  le : nx ≤ nx'
  nd : (m'.map fun p => p.1).Nodup
  lt : ∀ p ∈ m', p.1 < nx'
  kp : ∀ k X, look m k = some X → look m' k = some X
theorem Gr.rdm {wr : Nat → Bool} {m m' : Mem} {nx nx' : Nat} (g : Gr m nx m' nx') (D : Rdm wr m nx) : Rdm wr m' nx' :=
  ⟨g.nd, fun n hn => by obtain ⟨o, ho⟩ := D.kp n hn; exact ⟨o, g.kp _ _ ho⟩, fun n hn => D.wn n (Nat.le_trans g.le hn)⟩
theorem Gr.trans {m m' m2 : Mem} {nx nx' nx2 : Nat} (g : Gr m nx m' nx') (h : Gr m' nx' m2 nx2) : Gr m nx m2 nx2 :=
  ⟨Nat.le_trans g.le h.le, h.nd, h.lt, fun k X e => h.kp _ _ (g.kp _ _ e)⟩
theorem Gr.refl {m : Mem} {nx : Nat} (nd : (m.map fun p => p.1).Nodup) (lt : ∀ p ∈ m, p.1 < nx) : Gr m nx m nx := ⟨Nat.le_refl _, nd, lt, fun _ _ h => h⟩
theorem Gr.of_ren {m m0 : Mem} {nx k : Nat} (nd : (m.map fun p => p.1).Nodup) (lt : ∀ p ∈ m, p.1 < nx) (h : Gr [] 0 m0 k) : Gr m nx (renM (fun n => n + nx) m0 ++ m) (nx + k) :=
  ⟨Nat.le_add_right _ _, ren_nodup h.nd nd lt, ren_lt h.lt lt, fun n X e => by
    obtain ⟨p, hp, e2⟩ := look_lt e
    have := lt p hp
    rw [look_ren_low _ _ _ _ (by omega)]; exact e⟩
theorem Gr.cons {m : Mem} {nx : Nat} (nd : (m.map fun p => p.1).Nodup) (lt : ∀ p ∈ m, p.1 < nx) (o : AObj) : Gr m nx ((nx, o) :: m) (nx + 1) := by
  have D := (rdmT nd (nx := nx)).cons lt o
  refine ⟨Nat.le_succ _, D.nd, cons_lt lt o, fun k X e => ?_⟩
  obtain ⟨p, hp, e2⟩ := look_lt e
  have := lt p hp
  rw [look_cons, if_neg (by omega)]; exact e
/-- plain: no names in it, nothing read only -/
def pln : AV → Bool
  | .val _ => true
  | x => flat x
theorem pln_ren {a : AV} (h : pln a = true) (f : Nat → Nat) : renA f a = a := by
  unfold pln at h
  split at h
  · rfl
  · exact flat_ren h f
theorem pln_noRo {a : AV} (h : pln a = true) : noRo a = true := by
  unfold pln at h
  split at h
  · rfl
  · exact flat_noRo h
theorem plnL_ren : ∀ {l : List AV}, l.all pln = true → ∀ f, renL f l = l
  | [], _, _ => rfl
  | x :: r, h, f => by
    simp only [List.all_cons, Bool.and_eq_true] at h
    show renA f x :: renL f r = _
    rw [pln_ren h.1, plnL_ren h.2]
theorem plnL_noRo : ∀ {l : List AV}, l.all pln = true → noRoL l = true
  | [], _ => rfl
  | x :: r, h => by
    simp only [List.all_cons, Bool.and_eq_true] at h
    show (noRo x && noRoL r) = true
    rw [pln_noRo h.1, plnL_noRo h.2]; rfl
theorem bvs_pln (k : IntKind) {w : Nat} (X : List (BitVec w)) : (bvs k X).all pln = true := by
  induction X with
  | nil => rfl
  | cons q r ih => rw [bvs_cons, List.all_cons, ih]; rfl
theorem val_pln : ∀ l : List Value, (l.map AV.val).all pln = true
  | [] => rfl
  | x :: r => by rw [List.map_cons, List.all_cons, val_pln r]; rfl
theorem pln_drop {l : List AV} (h : l.all pln = true) (n : Nat) : (l.drop n).all pln = true := List.all_eq_true.2 fun x hx => List.all_eq_true.1 h x (List.mem_of_mem_drop hx)
/-- bytes somewhere: none, read only, or a slice of a row -/
def ByAt (ty : TypeId) (m : Mem) (v : AV) (X : List (BitVec 8)) (ns : List Nat) : Prop :=
  (v = .nils ∧ X = [] ∧ ns = []) ∨ (v = .ro X.length (bvs .u8 X) ∧ ns = []) ∨ ∃ (n off cap : Nat) (pre sp : List AV), v = .sl n off X.length cap ∧ ns = [n] ∧ look m n = some (.cells (pre ++ (bvs .u8 X ++ sp)) ty) ∧ pre.length = off ∧ X.length ≤ cap ∧ cap ≤ X.length + sp.length ∧ cap ≤ maxI ∧ pre.all pln = true ∧ sp.all pln = true
theorem ByAt.ro {ty : TypeId} (m : Mem) (X : List (BitVec 8)) : ByAt ty m (.ro X.length (bvs .u8 X)) X [] := .inr (.inl ⟨rfl, rfl⟩)
theorem ByAt.nil {ty : TypeId} (m : Mem) : ByAt ty m .nils [] [] := .inl ⟨rfl, rfl, rfl⟩
theorem ByAt.row {ty : TypeId} {m : Mem} {n cap len : Nat} {X : List (BitVec 8)} {sp : List AV} (hl : len = X.length) (h : look m n = some (.cells (bvs .u8 X ++ sp) ty)) (h1 : X.length + sp.length = cap) (h2 : cap ≤ maxI) (h3 : sp.all pln = true) : ByAt ty m (.sl n 0 len cap) X [n] := by
  subst hl
  exact .inr (.inr ⟨n, 0, cap, [], sp, rfl, rfl, h, rfl, by omega, by omega, h2, rfl, h3⟩)
theorem ByAt.ext {ty : TypeId} {m m' : Mem} {v : AV} {X : List (BitVec 8)} {ns : List Nat} (h : ByAt ty m v X ns) (hk : ∀ k ∈ ns, ∀ o, look m k = some o → look m' k = some o) : ByAt ty m' v X ns := by
  rcases h with h | h | ⟨n, off, cap, pre, sp, h1, rfl, h3, h4⟩
  · exact .inl h
  · exact .inr (.inl h)
  · exact .inr (.inr ⟨n, off, cap, pre, sp, h1, rfl, hk n (.head _) _ h3, h4⟩)
theorem ByAt.grow {ty : TypeId} {m m' : Mem} {nx nx' : Nat} {v : AV} {X : List (BitVec 8)} {ns : List Nat} (h : ByAt ty m v X ns) (g : Gr m nx m' nx') : ByAt ty m' v X ns := h.ext fun k _ => g.kp k
theorem ByAt.live {ty : TypeId} {m : Mem} {v : AV} {X : List (BitVec 8)} {ns : List Nat} (h : ByAt ty m v X ns) : ∀ k ∈ ns, ∃ o, look m k = some o := by
  rcases h with ⟨_, _, rfl⟩ | ⟨_, rfl⟩ | ⟨n, off, cap, pre, sp, h1, rfl, h3, h4⟩
  · intro k hk; cases hk
  · intro k hk; cases hk
  · intro k hk; cases List.mem_singleton.1 hk; exact ⟨_, h3⟩
theorem ByAt.lt {ty : TypeId} {m : Mem} {nx : Nat} {v : AV} {X : List (BitVec 8)} {ns : List Nat} (h : ByAt ty m v X ns) (lt : ∀ p ∈ m, p.1 < nx) : ∀ k ∈ ns, k < nx := fun k hk => by
  obtain ⟨o, ho⟩ := h.live k hk
  obtain ⟨p, hp, rfl⟩ := look_lt ho
  exact lt p hp
theorem ByAt.argx {ty : TypeId} {m : Mem} {v : AV} {X : List (BitVec 8)} {ns own : List Nat} {f : Nat → Nat} (h : ByAt ty m v X ns) (ho : ∀ k ∈ ns, own.contains k = false) : argx m own f v (.ro X.length (bvs .u8 X)) := by
  rcases h with ⟨rfl, rfl, rfl⟩ | ⟨rfl, rfl⟩ | ⟨n, off, cap, pre, sp, rfl, rfl, h3, rfl, h5, h6, h7, h8, h9⟩
  · exact ⟨rfl, rfl⟩
  · show AV.ro _ _ = renA f (AV.ro _ _)
    simp only [renA, bvs_ren]
  · refine ⟨rfl, ho n (.head _), ?_⟩
    rw [h3]
    refine ⟨bvs_flat .u8 X, fun h0 => by rw [bvs_length]; exact h0, by rw [List.length_append, List.length_append]; omega, ?_⟩
    rw [List.drop_left, bvs_length, List.take_append_of_le_length (by rw [bvs_length]; exact Nat.le_refl _), List.take_of_length_le (by rw [bvs_length]; exact Nat.le_refl _)]
theorem ByAt.arg {ty : TypeId} {m : Mem} {v : AV} {X : List (BitVec 8)} {ns : List Nat} {f : Nat → Nat} (h : ByAt ty m v X ns) : Eng.argx m [] f v (.ro X.length (bvs .u8 X)) := h.argx fun _ _ => rfl
theorem ByAt.facts {ty : TypeId} {m : Mem} {v : AV} {X : List (BitVec 8)} {ns : List Nat} (h : ByAt ty m v X ns) : mapOf [v] = none ∧ one1 v = true ∧ isTup v = false ∧ acells v = [v] ∧ ∀ l off, stor l off v = l.set off v := by
  rcases h with ⟨rfl, _⟩ | ⟨rfl, _⟩ | ⟨n, off, cap, pre, sp, rfl, _⟩ <;> exact ⟨rfl, rfl, rfl, rfl, fun _ _ => rfl⟩
theorem ByAt.len {ty : TypeId} {m : Mem} {v : AV} {X : List (BitVec 8)} {ns : List Nat} (h : ByAt ty m v X ns) (P : Program) (t : TypeId) (k : AV → Prop) : lenx P t v k = ((elemT P t).isSome = true ∧ k (.int .i64 (X.length : Nat))) := by
  rcases h with ⟨rfl, rfl, _⟩ | ⟨rfl, _⟩ | ⟨n, off, cap, pre, sp, rfl, _⟩ <;> rfl
/-- a string's bytes -/
def strOf (X : List (BitVec 8)) : ByteArray := ⟨(X.map fun v => UInt8.ofNat v.toNat).toArray⟩
theorem strOf_def (X : List (BitVec 8)) : (⟨(X.map fun v => UInt8.ofNat v.toNat).toArray⟩ : ByteArray) = strOf X := rfl
theorem ByAt.conv {ty : TypeId} {m : Mem} {v : AV} {X : List (BitVec 8)} {ns : List Nat} (h : ByAt ty m v X ns) {P : Program} {rd : Nat → Bool} {s d e : TypeId} {k : AV → Prop} (hr : ∀ n ∈ ns, rd n = true) (he : elemT P s = some e) (hi : intT P e = some .u8) (hd : isStrT P d = true) :
    convx P rd m s d v k = k (.str (strOf X)) := by
  rcases h with ⟨rfl, rfl, _⟩ | ⟨rfl, _⟩ | ⟨n, off, cap, pre, sp, rfl, rfl, h3, rfl, h5, h6, h7, h8, h9⟩
  · simp only [convx, he, Option.some.injEq, exists_eq_left', hi, hd, true_and]; rfl
  · simp only [convx, he, Option.some.injEq, exists_eq_left', hi, hd, true_and, bvs_length, Nat.le_refl]
    rw [List.take_of_length_le (by rw [bvs_length]; exact Nat.le_refl _), u8s_bvs]
    simp only [Option.some.injEq, exists_eq_left']; rfl
  · simp only [convx, h3, hr n (.head _), he, Option.some.injEq, exists_eq_left', hi, hd, true_and]
    rw [List.drop_left, List.take_append_of_le_length (by rw [bvs_length]; exact Nat.le_refl _), List.take_of_length_le (by rw [bvs_length]; exact Nat.le_refl _), u8s_bvs]
    have hle : pre.length + X.length ≤ (pre ++ (bvs .u8 X ++ sp)).length := by rw [List.length_append, List.length_append, bvs_length]; omega
    simp only [Option.some.injEq, exists_eq_left', hle, true_and]; rfl
theorem ByAt.cvx {ty : TypeId} {m : Mem} {v : AV} {X : List (BitVec 8)} {ns : List Nat} (h : ByAt ty m v X ns) {P : Program} {wr : Nat → Bool} {s d e : TypeId} {nx : Nat} {K : Kv} (he : elemT P s = some e) (hi : intT P e = some .u8) (hd : isStrT P d = true) :
    cvx P wr s d v m nx K = K (.str (strOf X)) m nx := by
  have hc : convx P (fun _ => true) m s d v (KvAt K m nx) = K (.str (strOf X)) m nx := h.conv (fun _ _ => rfl) he hi hd
  rcases h with ⟨rfl, rfl, _⟩ | ⟨rfl, _⟩ | ⟨n, off, cap, pre, sp, rfl, _⟩
  · exact hc
  · exact hc
  · show cvs (isStrT P d) P wr s d n off X.length cap m nx K = _
    rw [hd]
    exact hc
theorem ByAt.src {ty : TypeId} {m : Mem} {v : AV} {X : List (BitVec 8)} {ns : List Nat} (h : ByAt ty m v X ns) : srcx m 1 v = some (X.length, bvs .u8 X) := by
  rcases h with ⟨rfl, rfl, _⟩ | ⟨rfl, _⟩ | ⟨n, off, cap, pre, sp, rfl, rfl, h3, rfl, h5, h6, h7, h8, h9⟩
  · rfl
  · show some (X.length, (bvs .u8 X).take (X.length * 1)) = _
    rw [Nat.mul_one, List.take_of_length_le (by rw [bvs_length]; exact Nat.le_refl _)]
  · simp only [srcx, h3]
    rw [List.drop_left, Nat.mul_one, List.take_append_of_le_length (by rw [bvs_length]; exact Nat.le_refl _), List.take_of_length_le (by rw [bvs_length]; exact Nat.le_refl _)]
/-- bytes appended -/
theorem appk_by {wr : Nat → Bool} {m : Mem} {nx : Nat} {K : Kv} {v : AV} {X Y : List (BitVec 8)} {ns : List Nat} (h : ByAt 5 m v X ns) (hv : v ≠ .ro X.length (bvs .u8 X)) (nd : (m.map fun p => p.1).Nodup) (wn : ∀ n, nx ≤ n → wr n = true) (hlt : ∀ p ∈ m, p.1 < nx) (hw : ∀ k ∈ ns, wr k = true) (hl : X.length + Y.length ≤ 1000000000)
    (hK : ∀ (v' : AV) (m' : Mem) (nx' : Nat) (ns' : List Nat), ByAt 5 m' v' (X ++ Y) ns' → v' ≠ .ro (X ++ Y).length (bvs .u8 (X ++ Y)) → nx ≤ nx' → (∀ k ∈ ns', k ∈ ns ∨ nx ≤ k) → (m'.map fun p => p.1).Nodup → (∀ p ∈ m', p.1 < nx') → (∀ k o, k ∉ ns → look m k = some o → look m' k = some o) → (∀ k, look m k ≠ none → look m' k ≠ none) → K v' m' nx') :
    appk v m nx wr 5 1 1 (Y.length, bvs .u8 Y) K := by
  have keepc : ∀ (o : AObj) (k : Nat) (X : AObj), look m k = some X → look ((nx, o) :: m) k = some X := fun o k X hk => by
    obtain ⟨y, hy, e⟩ := look_lt hk
    have := hlt y hy
    rw [look_cons, if_neg (by omega)]; exact hk
  have keepn : ∀ (o : AObj) (k : Nat), look m k ≠ none → look ((nx, o) :: m) k ≠ none := fun o k hk => by
    cases e : look m k with
    | none => exact absurd e hk
    | some X => rw [keepc o k X e]; simp
  have D : Rdm (fun _ => true) m nx := rdmT nd
  rcases h with ⟨rfl, rfl, rfl⟩ | ⟨rfl, rfl⟩ | ⟨n, off, cap, pre, sp, rfl, rfl, hn, hp, c1, c2, c3, c4, c5⟩
  · simp only [appk]
    simp only [List.length_nil, Nat.zero_add] at hl
    refine ⟨by omega, by omega, fun h0 => ?_, fun h0 cap' sp' h1 h2 h3 => ?_⟩
    · have : Y = [] := List.eq_nil_of_length_eq_zero h0
      subst this
      exact hK _ _ _ [] (.nil _) (fun e => by cases e) (Nat.le_refl _) (fun k hk => by cases hk) nd hlt (fun k o _ h => h) fun k h => h
    · refine hK _ _ _ [nx] (.row (sp := sp'.map AV.val) rfl (by rw [look_cons, if_pos rfl]; rfl) (by rw [List.nil_append, List.length_map, h3]; omega) h2 (val_pln _)) (fun e => by cases e) (Nat.le_succ _) (fun k hk => .inr (by cases List.mem_singleton.1 hk; exact Nat.le_refl _)) (D.cons hlt _).nd (cons_lt hlt _) (fun k X _ => keepc _ k X) (keepn _)
  · exact absurd rfl hv
  · simp only [appk]
    refine .inr ⟨hw n (.head _), ?_⟩
    rw [hn]
    refine ⟨rfl, ?_, c3, by omega, by omega, fun hr => ?_, fun hr cap' sp' h1 h2 h3 => ?_⟩
    · rw [List.length_append, List.length_append, bvs_length]; omega
    · refine hK _ _ _ [n] (.inr (.inr ⟨n, off, cap, pre, sp.drop Y.length, by rw [List.length_append], rfl, ?_, hp, by rw [List.length_append]; exact hr, by rw [List.length_append, List.length_drop]; omega, c3, c4, pln_drop c5 _⟩)) (fun e => by cases e) (Nat.le_refl _) (fun k hk => .inl hk) (D.upd n _).nd (upd_lt hlt n _) ?_ ?_
      · rw [look_upd_same _ hn]
        have e1 : spl (pre ++ (bvs .u8 X ++ sp)) (off + X.length * 1) (bvs .u8 Y) = pre ++ (bvs .u8 (X ++ Y) ++ sp.drop Y.length) := by
          rw [spl, Nat.mul_one, ← List.append_assoc pre (bvs .u8 X) sp, List.take_append_of_le_length (by rw [List.length_append, bvs_length]; omega), List.take_of_length_le (by rw [List.length_append, bvs_length]; omega), bvs_length,
            show off + X.length + Y.length = (pre ++ bvs .u8 X).length + Y.length by rw [List.length_append, bvs_length]; omega, ← List.drop_drop, List.drop_left, ← bvs_append]
          simp only [List.append_assoc]
        rw [e1]
      · intro k X hk hX
        have hne : n ≠ k := fun e => hk (by rw [← e]; exact .head _)
        rw [look_upd_other _ hne]; exact hX
      · intro k hk
        by_cases e : n = k
        · subst e; rw [look_upd_same _ hn]; simp
        · rw [look_upd_other _ e]; exact hk
    · refine hK _ _ _ [nx] (.row (sp := sp'.map AV.val) (by rw [List.length_append]) ?_ (by rw [List.length_append, List.length_map, h3]; omega) h2 (val_pln _)) (fun e => by cases e) (Nat.le_succ _) (fun k hk => .inr (by cases List.mem_singleton.1 hk; exact Nat.le_refl _)) (D.cons hlt _).nd (cons_lt hlt _) (fun k X _ => keepc _ k X) (keepn _)
      rw [look_cons, if_pos rfl]
      have e1 : List.take (X.length * 1) (List.drop off (pre ++ (bvs .u8 X ++ sp))) = bvs .u8 X := by
        rw [← hp, List.drop_left, Nat.mul_one, List.take_append_of_le_length (by rw [bvs_length]; exact Nat.le_refl _), List.take_of_length_le (by rw [bvs_length]; exact Nat.le_refl _)]
      rw [e1, ← bvs_append]
/-- a call that answers bytes, and only adds to memory -/
def ByK (ty : TypeId) (F : AV → AV) (X : List (BitVec 8)) (m : Mem) (nx : Nat) : Kv := fun v m' nx' => ∃ s ns, v = F s ∧ ByAt ty m' s X ns ∧ s ≠ .ro X.length (bvs .u8 X) ∧ (∀ k ∈ ns, nx ≤ k) ∧ Gr m nx m' nx' ∧ (m = [] → noRoM m' = true)
theorem ByAt.ren {ty : TypeId} {m m0 : Mem} {v : AV} {X : List (BitVec 8)} {ns : List Nat} {nx : Nat} (hl : ∀ p ∈ m, p.1 < nx) (h : ByAt ty m0 v X ns) (hv : v ≠ .ro X.length (bvs .u8 X)) (hn : noRoM m0 = true) : ∃ s, renA (fun n => n + nx) v = s ∧ noRo v = true ∧ s ≠ .ro X.length (bvs .u8 X) ∧ ∃ ns', ByAt ty (renM (fun n => n + nx) m0 ++ m) s X ns' ∧ ∀ k ∈ ns', nx ≤ k := by
  rcases h with ⟨rfl, rfl, rfl⟩ | ⟨rfl, rfl⟩ | ⟨n, off, cap, pre, sp, rfl, rfl, h3, rfl, h5, h6, h7, h8, h9⟩
  · exact ⟨_, rfl, rfl, (fun e => by cases e), [], .nil _, fun k hk => by cases hk⟩
  · exact absurd rfl hv
  · refine ⟨_, rfl, rfl, (fun e => by cases e), [n + nx], .inr (.inr ⟨n + nx, pre.length, cap, pre, sp, by simp only [renA], rfl, ?_, rfl, h5, h6, h7, h8, h9⟩), fun k hk => ?_⟩
    · rw [look_ren_hi _ _ _ _ hl, h3]
      simp only [Option.map_some, renO, renL_append, bvs_ren, plnL_ren h8, plnL_ren h9]
    · cases List.mem_singleton.1 hk; omega
theorem CallOk.by {ty : TypeId} {fz : Bool} {P : Program} {g : FuncId} {args0 args : List AV} {wr : Nat → Bool} {m : Mem} {nx : Nat} {F : AV → AV} {X : List (BitVec 8)} (h : CallOk P g args0 (fun _ => true) [] 0 (ByK ty F X [] 0)) (nd : (m.map fun p => p.1).Nodup) (lt : ∀ p ∈ m, p.1 < nx)
    (ha : argsx m [] (rf [] nx 0) args args0) (hF2 : ∀ f s, renA f (F s) = F (renA f s)) (hF3 : ∀ s, noRo (F s) = noRo s) : CallG fz P g args wr m nx fun v m' nx' => ∃ s ns, v = F s ∧ ByAt ty m' s X ns ∧ s ≠ .ro X.length (bvs .u8 X) ∧ (∀ k ∈ ns, nx ≤ k) ∧ Gr m nx m' nx' := by
  refine h.more ha fun v m' nx' hr => ?_
  obtain ⟨s, ns, rfl, h1, h2, h3, h4, h5⟩ := hr
  have h5 := h5 rfl
  obtain ⟨s', rfl, e1, e2, ns', e3, e4⟩ := h1.ren lt h2 h5
  exact ⟨by rw [hF3]; exact e1, h5, _, ns', hF2 _ _, e3, e2, e4, Gr.of_ren nd lt h4⟩
/-- the end: bytes are answered -/
theorem Fin.by {ty : TypeId} {m : Mem} {nx : Nat} {s : AV} {X : List (BitVec 8)} {ns : List Nat} (h : ByAt ty m s X ns) (hv : s ≠ .ro X.length (bvs .u8 X)) (F : AV → AV) (hF : ∀ f s, renA f (F s) = F (renA f s)) : Fin 0 (fun _ => true) m nx (ByK ty F X [] 0) (F s) := by
  rcases h with ⟨rfl, rfl, rfl⟩ | ⟨rfl, rfl⟩ | ⟨n, off, cap, pre, sp, rfl, rfl, h3, rfl, h5, h6, h7, h8, h9⟩
  · exact Fin.flatv (fun _ => rfl) (fun f => by rw [hF]; rfl) ⟨.nils, [], rfl, .nil _, (fun e => by cases e), (fun k hk => by cases hk), ⟨Nat.le_refl _, List.nodup_nil, (fun p hp => by cases hp), fun _ _ h => by cases h⟩, fun _ => rfl⟩
  · exact absurd rfl hv
  · refine ⟨[(0, n)], F (.sl 0 pre.length X.length cap), [(0, .cells (pre ++ (bvs .u8 X ++ sp)) ty)], 1, ⟨rfl, by decide⟩, by rw [hF]; rfl, ⟨by simp only [renO, renL_append, bvs_ren, plnL_ren h8, plnL_ren h9]; exact h3, rfl, trivial⟩, by simp [injOn], (fun n e => by cases e), ?_⟩
    exact ⟨_, [0], rfl, .inr (.inr ⟨0, pre.length, cap, pre, sp, rfl, rfl, rfl, rfl, h5, h6, h7, h8, h9⟩), (fun e => by cases e), fun k hk => Nat.zero_le _, ⟨Nat.zero_le _, by simp, (fun p hp => by cases List.mem_singleton.1 hp; exact Nat.zero_lt_one), fun _ _ h => by cases h⟩, fun _ => by simp only [noRoM, noRoO, noRoL_append, bvs_noRo, plnL_noRo h8, plnL_noRo h9, Bool.and_self]⟩
theorem nd0 : (([] : Mem).map fun p => p.1).Nodup := List.nodup_nil
theorem lt0 : ∀ p ∈ ([] : Mem), p.1 < 0 := fun p hp => by cases hp
/-- the same, where bytes alone are answered -/
theorem CallG.by1 {ty : TypeId} {fz : Bool} {P : Program} {g : FuncId} {args0 args : List AV} {wr : Nat → Bool} {m : Mem} {nx : Nat} {F : AV → AV} {X : List (BitVec 8)} (h : CallG false P g args0 (fun _ => true) [] 0 (ByK ty F X [] 0)) (hF : F = fun s => s) (nd : (m.map fun p => p.1).Nodup) (lt : ∀ p ∈ m, p.1 < nx)
    (ha : argsx m [] (rf [] nx 0) args args0) : CallG fz P g args wr m nx fun v m' nx' => ∃ ns, ByAt ty m' v X ns ∧ v ≠ .ro X.length (bvs .u8 X) ∧ (∀ k ∈ ns, nx ≤ k) ∧ Gr m nx m' nx' := by
  subst hF
  refine (CallOk.by h.any nd lt ha (fun _ _ => rfl) (fun _ => rfl)).weak ?_
  rintro v m' nx' ⟨s, ns, rfl, h1⟩
  exact ⟨ns, h1⟩
theorem CallG.byK {ty : TypeId} {fz : Bool} {P : Program} {g : FuncId} {args0 args : List AV} {wr : Nat → Bool} {m : Mem} {nx : Nat} {K : Kv} {F : AV → AV} {X : List (BitVec 8)} (h : CallG false P g args0 (fun _ => true) [] 0 (ByK ty F X [] 0)) (hF : F = fun s => s) (nd : (m.map fun p => p.1).Nodup) (lt : ∀ p ∈ m, p.1 < nx)
    (ha : argsx m [] (rf [] nx 0) args args0) (hK : ∀ v m' nx' ns, ByAt ty m' v X ns → v ≠ .ro X.length (bvs .u8 X) → (∀ k ∈ ns, nx ≤ k) → Gr m nx m' nx' → K v m' nx') : CallG fz P g args wr m nx K :=
  (CallG.by1 h hF nd lt ha).weak fun v m' nx' hr => by
    obtain ⟨ns, h1, h2, h3, h4⟩ := hr
    exact hK _ _ _ ns h1 h2 h3 h4
theorem argx_roX {m : Mem} {own : List Nat} {f : Nat → Nat} {n : Nat} {X : List (BitVec 8)} (h : n = X.length) : argx m own f (.ro n (bvs .u8 X)) (.ro X.length (bvs .u8 X)) := by
  show AV.ro _ _ = renA f (AV.ro _ _)
  simp only [renA, bvs_ren, h]
theorem strOf_inj {A B : List (BitVec 8)} (h : (strOf A).toList = (strOf B).toList) : A = B := by
  rw [ByteArray.toList_eq, ByteArray.toList_eq] at h
  have h : A.map (fun v => UInt8.ofNat v.toNat) = B.map (fun v => UInt8.ofNat v.toNat) := h
  refine (List.map_inj_right fun x y e => ?_).1 h
  have e := congrArg UInt8.toNat e
  have hx : (UInt8.ofNat x.toNat).toNat = x.toNat := UInt8.toNat_ofNat_of_lt' x.isLt
  have hy : (UInt8.ofNat y.toNat).toNat = y.toNat := UInt8.toNat_ofNat_of_lt' y.isLt
  rw [hx, hy] at e
  exact BitVec.eq_of_toNat_eq e
theorem strEq (A B : List (BitVec 8)) : ((strOf A).toList == (strOf B).toList) = decide (A = B) := by
  by_cases h : A = B
  · rw [h, decide_eq_true rfl]; exact beq_self_eq_true _
  · rw [decide_eq_false h, beq_eq_false_iff_ne]
    exact fun e => h (strOf_inj e)
end Go.Eng
end
section
/- The engine, part 37: rows of plain elements that lie somewhere: what a call answers, what it is lent, what is appended to. Own work. -/
set_option linter.unusedVariables false
set_option linter.unusedSimpArgs false
namespace Go.Eng
open Go
/-- n elements of s plain cells each, somewhere: none, read only, or a slice of a row -/
def SlA (ty : TypeId) (s : Nat) (m : Mem) (v : AV) (k : Nat) (L : List AV) (ns : List Nat) : Prop :=
  (v = .nils ∧ k = 0 ∧ L = [] ∧ ns = []) ∨ (v = .ro k L ∧ L.length = k * s ∧ L.all flat = true ∧ ns = []) ∨ ∃ (n off cap : Nat) (pre sp : List AV), v = .sl n off k cap ∧ ns = [n] ∧ look m n = some (.cells (pre ++ (L ++ sp)) ty) ∧ pre.length = off ∧ L.length = k * s ∧ L.all flat = true ∧ k ≤ cap ∧ off + cap * s ≤ off + L.length + sp.length ∧ cap ≤ maxI ∧ pre.all pln = true ∧ sp.all pln = true
theorem SlA.nil (ty : TypeId) (s : Nat) (m : Mem) : SlA ty s m .nils 0 [] [] := .inl ⟨rfl, rfl, rfl, rfl⟩
theorem SlA.ro (ty : TypeId) {s : Nat} (m : Mem) {k : Nat} {L : List AV} (h : L.length = k * s) (hf : L.all flat = true) : SlA ty s m (.ro k L) k L [] := .inr (.inl ⟨rfl, h, hf, rfl⟩)
theorem SlA.row {ty : TypeId} {s : Nat} {m : Mem} {n cap k : Nat} {L sp : List AV} (hl : L.length = k * s) (hf : L.all flat = true) (h : look m n = some (.cells (L ++ sp) ty)) (h0 : k ≤ cap) (h1 : cap * s = L.length + sp.length) (h2 : cap ≤ maxI) (h3 : sp.all pln = true) : SlA ty s m (.sl n 0 k cap) k L [n] :=
  .inr (.inr ⟨n, 0, cap, [], sp, rfl, rfl, h, rfl, hl, hf, h0, by omega, h2, rfl, h3⟩)
theorem SlA.ext {ty : TypeId} {s : Nat} {m m' : Mem} {v : AV} {k : Nat} {L : List AV} {ns : List Nat} (h : SlA ty s m v k L ns) (hk : ∀ j ∈ ns, ∀ o, look m j = some o → look m' j = some o) : SlA ty s m' v k L ns := by
  rcases h with h | h | ⟨n, off, cap, pre, sp, h1, rfl, h3, h4⟩
  · exact .inl h
  · exact .inr (.inl h)
  · exact .inr (.inr ⟨n, off, cap, pre, sp, h1, rfl, hk n (.head _) _ h3, h4⟩)
theorem SlA.grow {ty : TypeId} {s : Nat} {m m' : Mem} {nx nx' : Nat} {v : AV} {k : Nat} {L : List AV} {ns : List Nat} (h : SlA ty s m v k L ns) (g : Gr m nx m' nx') : SlA ty s m' v k L ns := h.ext fun j _ => g.kp j
theorem SlA.live {ty : TypeId} {s : Nat} {m : Mem} {v : AV} {k : Nat} {L : List AV} {ns : List Nat} (h : SlA ty s m v k L ns) : ∀ j ∈ ns, ∃ o, look m j = some o := by
  rcases h with ⟨_, _, _, rfl⟩ | ⟨_, _, _, rfl⟩ | ⟨n, off, cap, pre, sp, h1, rfl, h3, h4⟩
  · intro j hj; cases hj
  · intro j hj; cases hj
  · intro j hj; cases List.mem_singleton.1 hj; exact ⟨_, h3⟩
theorem SlA.lt {ty : TypeId} {s : Nat} {m : Mem} {nx : Nat} {v : AV} {k : Nat} {L : List AV} {ns : List Nat} (h : SlA ty s m v k L ns) (lt : ∀ p ∈ m, p.1 < nx) : ∀ j ∈ ns, j < nx := fun j hj => by
  obtain ⟨o, ho⟩ := h.live j hj
  obtain ⟨p, hp, rfl⟩ := look_lt ho
  exact lt p hp
theorem SlA.arg {ty : TypeId} {s : Nat} {m : Mem} {v : AV} {k : Nat} {L : List AV} {ns : List Nat} {f : Nat → Nat} (h : SlA ty s m v k L ns) : Eng.argx m [] f v (.ro k L) := by
  rcases h with ⟨rfl, rfl, rfl, rfl⟩ | ⟨rfl, hl, hf, rfl⟩ | ⟨n, off, cap, pre, sp, rfl, rfl, h3, rfl, hl, hf, h5, h6, h7, h8, h9⟩
  · exact ⟨rfl, rfl⟩
  · show AV.ro _ _ = renA f (AV.ro _ _)
    simp only [renA, flatL_ren hf]
  · refine ⟨rfl, rfl, ?_⟩
    rw [h3]
    refine ⟨hf, fun h0 => by rw [hl, h0, Nat.zero_mul], by rw [List.length_append, List.length_append]; omega, ?_⟩
    rw [List.drop_left, List.take_append_of_le_length (Nat.le_refl _), List.take_of_length_le (Nat.le_refl _)]
theorem SlA.facts {ty : TypeId} {s : Nat} {m : Mem} {v : AV} {k : Nat} {L : List AV} {ns : List Nat} (h : SlA ty s m v k L ns) : mapOf [v] = none ∧ one1 v = true ∧ isTup v = false ∧ acells v = [v] ∧ ∀ l off, stor l off v = l.set off v := by
  rcases h with ⟨rfl, _⟩ | ⟨rfl, _⟩ | ⟨n, off, cap, pre, sp, rfl, _⟩ <;> exact ⟨rfl, rfl, rfl, rfl, fun _ _ => rfl⟩
theorem SlA.len {ty : TypeId} {s : Nat} {m : Mem} {v : AV} {k : Nat} {L : List AV} {ns : List Nat} (h : SlA ty s m v k L ns) (P : Program) (t : TypeId) (K : AV → Prop) : lenx P t v K = ((elemT P t).isSome = true ∧ K (.int .i64 (k : Nat))) := by
  rcases h with ⟨rfl, rfl, _⟩ | ⟨rfl, _⟩ | ⟨n, off, cap, pre, sp, rfl, _⟩ <;> rfl
theorem SlA.src {ty : TypeId} {s : Nat} {m : Mem} {v : AV} {k : Nat} {L : List AV} {ns : List Nat} (h : SlA ty s m v k L ns) : srcx m s v = some (k, L) := by
  rcases h with ⟨rfl, rfl, rfl, _⟩ | ⟨rfl, hl, _⟩ | ⟨n, off, cap, pre, sp, rfl, rfl, h3, rfl, hl, hf, h5, h6, h7, h8, h9⟩
  · rfl
  · show some (k, L.take (k * s)) = _
    rw [List.take_of_length_le (by omega)]
  · simp only [srcx, h3]
    rw [List.drop_left, List.take_append_of_le_length (by omega), List.take_of_length_le (by omega)]
/-- elements appended -/
theorem appk_sl {ty bt s : Nat} {wr : Nat → Bool} {m : Mem} {nx : Nat} {K : Kv} {v : AV} {k j : Nat} {L Y : List AV} {ns : List Nat} (h : SlA ty s m v k L ns) (hv : v ≠ .ro k L) (nd : (m.map fun p => p.1).Nodup) (hlt : ∀ p ∈ m, p.1 < nx) (hw : ∀ i ∈ ns, wr i = true)
    (hY : Y.length = j * s) (hYf : Y.all flat = true) (hb : 0 < bt) (hl : (k + j) * bt ≤ 140737488355328)
    (hK : ∀ (v' : AV) (m' : Mem) (nx' : Nat) (ns' : List Nat), SlA ty s m' v' (k + j) (L ++ Y) ns' → v' ≠ .ro (k + j) (L ++ Y) → nx ≤ nx' → (∀ i ∈ ns', i ∈ ns ∨ nx ≤ i) → (m'.map fun p => p.1).Nodup → (∀ p ∈ m', p.1 < nx') → (∀ i o, i ∉ ns → look m i = some o → look m' i = some o) → (∀ i, look m i ≠ none → look m' i ≠ none) → K v' m' nx') :
    appk v m nx wr ty s bt (j, Y) K := by
  have keepc : ∀ (o : AObj) (i : Nat) (X : AObj), look m i = some X → look ((nx, o) :: m) i = some X := fun o i X hi => by
    obtain ⟨y, hy, e⟩ := look_lt hi
    have := hlt y hy
    rw [look_cons, if_neg (by omega)]; exact hi
  have keepn : ∀ (o : AObj) (i : Nat), look m i ≠ none → look ((nx, o) :: m) i ≠ none := fun o i hi => by
    cases e : look m i with
    | none => exact absurd e hi
    | some X => rw [keepc o i X e]; simp
  have D : Rdm (fun _ => true) m nx := rdmT nd
  have hbk : k + j ≤ (k + j) * bt := Nat.le_mul_of_pos_right _ hb
  rcases h with ⟨rfl, rfl, rfl, rfl⟩ | ⟨rfl, _⟩ | ⟨n, off, cap, pre, sp, rfl, rfl, hn, hp, c0, cf, c1, c2, c3, c4, c5⟩
  · simp only [appk]
    rw [Nat.zero_add] at hl hbk
    refine ⟨hl, by omega, fun h0 => ?_, fun h0 cap' sp' h1 h2 h3 => ?_⟩
    · subst h0
      have : Y = [] := List.eq_nil_of_length_eq_zero (by rw [hY, Nat.zero_mul])
      subst this
      exact hK _ _ _ [] (.nil _ _ _) (fun e => by cases e) (Nat.le_refl _) (fun i hi => by cases hi) nd hlt (fun i o _ h => h) fun i h => h
    · refine hK _ _ _ [nx] ?_ ?_ (Nat.le_succ _) (fun i hi => .inr (by cases List.mem_singleton.1 hi; exact Nat.le_refl _)) (D.cons hlt _).nd (cons_lt hlt _) (fun i X _ => keepc _ i X) (keepn _)
      · rw [Nat.zero_add, List.nil_append]
        exact .row (sp := sp'.map AV.val) hY hYf (by rw [look_cons, if_pos rfl]) h1 (by rw [List.length_map, h3, hY, ← Nat.add_mul]; congr 1; omega) h2 (val_pln _)
      · exact fun e => by cases e
  · exact absurd rfl hv
  · simp only [appk]
    have hcs : k * s ≤ cap * s := Nat.mul_le_mul_right _ c1
    refine .inr ⟨hw n (.head _), ?_⟩
    rw [hn]
    refine ⟨rfl, ?_, c3, hl, by omega, fun hr => ?_, fun hr cap' sp' h1 h2 h3 => ?_⟩
    · rw [List.length_append, List.length_append]; omega
    · have hjs : (k + j) * s ≤ cap * s := Nat.mul_le_mul_right _ hr
      rw [Nat.add_mul] at hjs
      refine hK _ _ _ [n] (.inr (.inr ⟨n, off, cap, pre, sp.drop Y.length, rfl, rfl, ?_, hp, by rw [List.length_append, c0, hY, Nat.add_mul], by rw [List.all_append, cf, hYf]; rfl, hr, by rw [List.length_append, List.length_drop]; omega, c3, c4, pln_drop c5 _⟩)) (fun e => by cases e) (Nat.le_refl _) (fun i hi => .inl hi) (D.upd n _).nd (upd_lt hlt n _) ?_ ?_
      · rw [look_upd_same _ hn]
        have e1 : spl (pre ++ (L ++ sp)) (off + k * s) Y = pre ++ (L ++ Y ++ sp.drop Y.length) := by
          rw [spl, ← c0, ← List.append_assoc pre L sp, List.take_append_of_le_length (by rw [List.length_append]; omega), List.take_of_length_le (by rw [List.length_append]; omega),
            show off + L.length + Y.length = (pre ++ L).length + Y.length by rw [List.length_append]; omega, ← List.drop_drop, List.drop_left]
          simp only [List.append_assoc]
        rw [e1]
      · intro i X hi hX
        have hne : n ≠ i := fun e => hi (by rw [← e]; exact .head _)
        rw [look_upd_other _ hne]; exact hX
      · intro i hi
        by_cases e : n = i
        · subst e; rw [look_upd_same _ hn]; simp
        · rw [look_upd_other _ e]; exact hi
    · refine hK _ _ _ [nx] (.row (sp := sp'.map AV.val) (by rw [List.length_append, c0, hY, Nat.add_mul]) (by rw [List.all_append, cf, hYf]; rfl) ?_ h1 (by rw [List.length_append, List.length_map, h3, c0, hY, ← Nat.add_mul, ← Nat.add_mul]; congr 1; omega) h2 (val_pln _)) (fun e => by cases e) (Nat.le_succ _) (fun i hi => .inr (by cases List.mem_singleton.1 hi; exact Nat.le_refl _)) (D.cons hlt _).nd (cons_lt hlt _) (fun i X _ => keepc _ i X) (keepn _)
      rw [look_cons, if_pos rfl]
      have e1 : List.take (k * s) (List.drop off (pre ++ (L ++ sp))) = L := by
        rw [← hp, List.drop_left, List.take_append_of_le_length (by omega), List.take_of_length_le (by omega)]
      rw [e1]
/-- a call that answers such a row, and only adds to memory -/
def SlK' (ty : TypeId) (s : Nat) (F : AV → AV) (k : Nat) (L : List AV) (m : Mem) (nx : Nat) : Kv := fun v m' nx' => ∃ x ns, v = F x ∧ SlA ty s m' x k L ns ∧ x ≠ .ro k L ∧ (∀ i ∈ ns, nx ≤ i) ∧ Gr m nx m' nx' ∧ (m = [] → noRoM m' = true)
theorem SlA.ren {ty : TypeId} {s : Nat} {m m0 : Mem} {v : AV} {k : Nat} {L : List AV} {ns : List Nat} {nx : Nat} (hl : ∀ p ∈ m, p.1 < nx) (h : SlA ty s m0 v k L ns) (hv : v ≠ .ro k L) : ∃ x, renA (fun n => n + nx) v = x ∧ noRo v = true ∧ x ≠ .ro k L ∧ ∃ ns', SlA ty s (renM (fun n => n + nx) m0 ++ m) x k L ns' ∧ ∀ i ∈ ns', nx ≤ i := by
  rcases h with ⟨rfl, rfl, rfl, rfl⟩ | ⟨rfl, _⟩ | ⟨n, off, cap, pre, sp, rfl, rfl, h3, rfl, h4, hf, h5, h6, h7, h8, h9⟩
  · exact ⟨_, rfl, rfl, (fun e => by cases e), [], .nil _ _ _, fun i hi => by cases hi⟩
  · exact absurd rfl hv
  · refine ⟨_, rfl, rfl, (fun e => by cases e), [n + nx], .inr (.inr ⟨n + nx, pre.length, cap, pre, sp, by simp only [renA], rfl, ?_, rfl, h4, hf, h5, h6, h7, h8, h9⟩), fun i hi => ?_⟩
    · rw [look_ren_hi _ _ _ _ hl, h3]
      simp only [Option.map_some, renO, renL_append, flatL_ren hf, plnL_ren h8, plnL_ren h9]
    · cases List.mem_singleton.1 hi; omega
theorem CallG.bySl {ty : TypeId} {s : Nat} {fz : Bool} {P : Program} {g : FuncId} {args0 args : List AV} {wr : Nat → Bool} {m : Mem} {nx : Nat} {K : Kv} {F : AV → AV} {k : Nat} {L : List AV} (h : CallG false P g args0 (fun _ => true) [] 0 (SlK' ty s F k L [] 0)) (nd : (m.map fun p => p.1).Nodup) (lt : ∀ p ∈ m, p.1 < nx)
    (hF2 : ∀ f s, renA f (F s) = F (renA f s)) (hF3 : ∀ s, noRo (F s) = noRo s) (ha : argsx m [] (rf [] nx 0) args args0) (hK : ∀ x m' nx' ns, SlA ty s m' x k L ns → x ≠ .ro k L → (∀ i ∈ ns, nx ≤ i) → Gr m nx m' nx' → K (F x) m' nx') : CallG fz P g args wr m nx K := by
  refine CallOk.more h.any ha fun v m' nx' hr => ?_
  obtain ⟨x, ns, rfl, h1, h2, h3, h4, h5⟩ := hr
  obtain ⟨x', rfl, e1, e2, ns', e3, e4⟩ := h1.ren lt h2
  refine ⟨by rw [hF3]; exact e1, h5 rfl, ?_⟩
  rw [hF2]
  exact hK _ _ _ ns' e3 e2 e4 (Gr.of_ren nd lt h4)
/-- the end: such a row is answered -/
theorem Fin.bySl {ty : TypeId} {s : Nat} {m : Mem} {nx : Nat} {x : AV} {k : Nat} {L : List AV} {ns : List Nat} (h : SlA ty s m x k L ns) (hv : x ≠ .ro k L) (F : AV → AV) (hF : ∀ f s, renA f (F s) = F (renA f s)) : Fin 0 (fun _ => true) m nx (SlK' ty s F k L [] 0) (F x) := by
  rcases h with ⟨rfl, rfl, rfl, rfl⟩ | ⟨rfl, _⟩ | ⟨n, off, cap, pre, sp, rfl, rfl, h3, rfl, h4, hf, h5, h6, h7, h8, h9⟩
  · exact Fin.flatv (fun _ => rfl) (fun f => by rw [hF]; rfl) ⟨.nils, [], rfl, .nil _ _ _, (fun e => by cases e), (fun i hi => by cases hi), ⟨Nat.le_refl _, List.nodup_nil, (fun p hp => by cases hp), fun _ _ h => by cases h⟩, fun _ => rfl⟩
  · exact absurd rfl hv
  · refine ⟨[(0, n)], F (.sl 0 pre.length k cap), [(0, .cells (pre ++ (L ++ sp)) ty)], 1, ⟨rfl, by decide⟩, by rw [hF]; rfl, ⟨by simp only [renO, renL_append, flatL_ren hf, plnL_ren h8, plnL_ren h9]; exact h3, rfl, trivial⟩, by simp [injOn], (fun n e => by cases e), ?_⟩
    exact ⟨_, [0], rfl, .inr (.inr ⟨0, pre.length, cap, pre, sp, rfl, rfl, rfl, rfl, h4, hf, h5, h6, h7, h8, h9⟩), (fun e => by cases e), fun i hi => Nat.zero_le _, ⟨Nat.zero_le _, by simp, (fun p hp => by cases List.mem_singleton.1 hp; exact Nat.zero_lt_one), fun _ _ h => by cases h⟩, fun _ => by simp only [noRoM, noRoO, noRoL_append, flatL_noRo hf, plnL_noRo h8, plnL_noRo h9, Bool.and_self]⟩
theorem bvs_zeros (k : Nat) : bvs .u8 (List.replicate k (0 : BitVec 8)) = List.replicate k (AV.int .u8 0) := by
  induction k with
  | zero => rfl
  | succ k ih => rw [List.replicate_succ, bvs_cons, ih, List.replicate_succ]; rfl
/-- zeros appended to bytes -/
theorem appz_by {P : Program} {ty tn : TypeId} {q kz : IntKind} {wr : Nat → Bool} {m : Mem} {nx : Nat} {K : Kv} {v : AV} {X : List (BitVec 8)} {ns : List Nat} {k : Nat} (h : ByAt 5 m v X ns) (hv : v ≠ .ro X.length (bvs .u8 X)) (h0 : X ≠ []) (nd : (m.map fun p => p.1).Nodup) (hlt : ∀ p ∈ m, p.1 < nx) (hw : ∀ k ∈ ns, wr k = true) (hl : X.length + k ≤ 1000000)
    (hq : intT P tn = some q) (he : elemT P ty = some 5) (hs : sizeT P 5 = some 1) (hbt : bytesT P 5 = some 1) (hz : zav P 5 = some [.int .u8 0])
    (hK : ∀ (v' : AV) (m' : Mem) (nx' : Nat) (ns' : List Nat), ByAt 5 m' v' (X ++ List.replicate k 0) ns' → v' ≠ .ro (X ++ List.replicate k 0).length (bvs .u8 (X ++ List.replicate k 0)) → nx ≤ nx' → (∀ k ∈ ns', k ∈ ns ∨ nx ≤ k) → (m'.map fun p => p.1).Nodup → (∀ p ∈ m', p.1 < nx') → (∀ k o, k ∉ ns → look m k = some o → look m' k = some o) → (∀ k, look m k ≠ none → look m' k ≠ none) → K v' m' nx') :
    appz P wr #[ty, tn] [v, .int kz (k : Int)] m nx K := by
  have D : Rdm (fun _ => true) m nx := rdmT nd
  have keepc : ∀ (o : AObj) (k : Nat) (X : AObj), look m k = some X → look ((nx, o) :: m) k = some X := fun o k X hk => by
    obtain ⟨y, hy, e⟩ := look_lt hk
    have := hlt y hy
    rw [look_cons, if_neg (by omega)]; exact hk
  have keepn : ∀ (o : AObj) (k : Nat), look m k ≠ none → look ((nx, o) :: m) k ≠ none := fun o k hk => by
    cases e : look m k with
    | none => exact absurd e hk
    | some X => rw [keepc o k X e]; simp
  have hYl : (List.replicate k (0 : BitVec 8)).length = k := List.length_replicate
  rcases h with ⟨rfl, rfl, rfl⟩ | ⟨rfl, rfl⟩ | ⟨n, off, cap, pre, sp, rfl, rfl, hn, hp, c1, c2, c3, c4, c5⟩
  · exact absurd rfl h0
  · exact absurd rfl hv
  · simp only [appz, Int.toNat_natCast]
    refine ⟨⟨q, hq⟩, by omega, by omega, 5, he, hs, 1, hbt, _, hz, rfl, hw n (.head _), ?_⟩
    rw [hn]
    refine ⟨rfl, ?_, c3, by omega, by omega, fun hr => ?_, fun hr cap' sp' h1 h2 h3 => ?_⟩
    · rw [List.length_append, List.length_append, bvs_length]; omega
    · rw [← bvs_zeros k]
      refine hK _ _ _ [n] (.inr (.inr ⟨n, off, cap, pre, sp.drop k, by rw [List.length_append, hYl], rfl, ?_, hp, by rw [List.length_append, hYl]; exact hr, by rw [List.length_append, List.length_drop, hYl]; omega, c3, c4, pln_drop c5 _⟩)) (fun e => by cases e) (Nat.le_refl _) (fun k hk => .inl hk) (D.upd n _).nd (upd_lt hlt n _) ?_ ?_
      · rw [look_upd_same _ hn]
        have e1 : spl (pre ++ (bvs .u8 X ++ sp)) (off + X.length) (bvs .u8 (List.replicate k (0 : BitVec 8))) = pre ++ (bvs .u8 (X ++ List.replicate k 0) ++ sp.drop k) := by
          rw [spl, ← List.append_assoc pre (bvs .u8 X) sp, List.take_append_of_le_length (by rw [List.length_append, bvs_length]; omega), List.take_of_length_le (by rw [List.length_append, bvs_length]; omega), bvs_length, hYl,
            show off + X.length + k = (pre ++ bvs .u8 X).length + k by rw [List.length_append, bvs_length]; omega, ← List.drop_drop, List.drop_left, ← bvs_append]
          simp only [List.append_assoc]
        rw [e1]
      · intro i o hi ho
        have hne : n ≠ i := fun e => hi (by rw [← e]; exact .head _)
        rw [look_upd_other _ hne]; exact ho
      · intro i hi
        by_cases e : n = i
        · subst e; rw [look_upd_same _ hn]; simp
        · rw [look_upd_other _ e]; exact hi
    · rw [← bvs_zeros k]
      refine hK _ _ _ [nx] (.row (sp := sp'.map AV.val) (by rw [List.length_append, hYl]) ?_ (by rw [List.length_append, List.length_map, h3, hYl]; omega) h2 (val_pln _)) (fun e => by cases e) (Nat.le_succ _) (fun k hk => .inr (by cases List.mem_singleton.1 hk; exact Nat.le_refl _)) (D.cons hlt _).nd (cons_lt hlt _) (fun k X _ => keepc _ k X) (keepn _)
      · rw [look_cons, if_pos rfl]
        have e1 : List.take X.length (List.drop off (pre ++ (bvs .u8 X ++ sp))) = bvs .u8 X := by
          rw [← hp, List.drop_left, List.take_append_of_le_length (by rw [bvs_length]; exact Nat.le_refl _), List.take_of_length_le (by rw [bvs_length]; exact Nat.le_refl _)]
        rw [e1, ← bvs_append]
end Go.Eng
end
section
/- Facts on the types and functions of the translation, written by a program of our own. -/
set_option maxRecDepth 100000
namespace Go.Proofs.Ytmdeoikpiiambaa.Fx
open Go Go.Eng Go.Proofs.Try
theorem t1 : known prog 1 = true ∧ aggT prog 1 = false ∧ isIfaceT prog 1 = false ∧ isFuncT prog 1 = true ∧ sizeT prog 1 = some 1 ∧ bytesT prog 1 = some 8 ∧ zav prog 1 = some [.nilf] ∧ dflt prog 1 = .nilf ∧ zval prog 1 = some (.nilf) := by and_intros <;> kernel_rfl
theorem t2 : known prog 2 = true ∧ aggT prog 2 = false ∧ isIfaceT prog 2 = false ∧ intT prog 2 = some .i64 ∧ sizeT prog 2 = some 1 ∧ bytesT prog 2 = some 8 ∧ zav prog 2 = some [.int .i64 0] ∧ dflt prog 2 = .int .i64 0 ∧ zval prog 2 = some (.int .i64 0) := by and_intros <;> kernel_rfl
theorem t3 : known prog 3 = true ∧ aggT prog 3 = false ∧ isIfaceT prog 3 = false ∧ intT prog 3 = some .i64 ∧ sizeT prog 3 = some 1 ∧ bytesT prog 3 = some 8 ∧ zav prog 3 = some [.int .i64 0] ∧ dflt prog 3 = .int .i64 0 ∧ zval prog 3 = some (.int .i64 0) := by and_intros <;> kernel_rfl
theorem t4 : known prog 4 = true ∧ aggT prog 4 = false ∧ isIfaceT prog 4 = false ∧ isBoolT prog 4 = true ∧ sizeT prog 4 = some 1 ∧ bytesT prog 4 = some 1 ∧ zav prog 4 = some [.bool false] ∧ dflt prog 4 = .bool false ∧ zval prog 4 = some (.bool false) := by and_intros <;> kernel_rfl
theorem t5 : known prog 5 = true ∧ aggT prog 5 = false ∧ isIfaceT prog 5 = false ∧ intT prog 5 = some .u8 ∧ sizeT prog 5 = some 1 ∧ bytesT prog 5 = some 1 ∧ zav prog 5 = some [.int .u8 0] ∧ dflt prog 5 = .int .u8 0 ∧ zval prog 5 = some (.int .u8 0) := by and_intros <;> kernel_rfl
theorem t6 : known prog 6 = true ∧ aggT prog 6 = false ∧ isIfaceT prog 6 = false ∧ intT prog 6 = some .u8 ∧ sizeT prog 6 = some 1 ∧ bytesT prog 6 = some 1 ∧ zav prog 6 = some [.int .u8 0] ∧ dflt prog 6 = .int .u8 0 ∧ zval prog 6 = some (.int .u8 0) := by and_intros <;> kernel_rfl
theorem t7 : known prog 7 = true ∧ aggT prog 7 = true ∧ isIfaceT prog 7 = false ∧ sizeT prog 7 = some 4 ∧ zav prog 7 = some [.int .i64 0, .int .i64 0, .bool false, .int .u8 0] ∧ zval prog 7 = some (.agg [.int .i64 0, .int .i64 0, .bool false, .int .u8 0]) ∧ fieldT prog 7 0 = some (0, 2) ∧ fieldT prog 7 1 = some (1, 3) ∧ fieldT prog 7 2 = some (2, 4) ∧ fieldT prog 7 3 = some (3, 6) ∧ placesT prog 7 = some [(0, 1), (1, 1), (2, 1), (3, 1)] := by and_intros <;> kernel_rfl
theorem t8 : known prog 8 = true ∧ aggT prog 8 = true ∧ isIfaceT prog 8 = false ∧ sizeT prog 8 = some 4 ∧ zav prog 8 = some [.int .i64 0, .int .i64 0, .bool false, .int .u8 0] ∧ zval prog 8 = some (.agg [.int .i64 0, .int .i64 0, .bool false, .int .u8 0]) ∧ fieldT prog 8 0 = some (0, 2) ∧ fieldT prog 8 1 = some (1, 3) ∧ fieldT prog 8 2 = some (2, 4) ∧ fieldT prog 8 3 = some (3, 6) ∧ placesT prog 8 = some [(0, 1), (1, 1), (2, 1), (3, 1)] := by and_intros <;> kernel_rfl
theorem t9 : known prog 9 = true ∧ aggT prog 9 = false ∧ isIfaceT prog 9 = false ∧ isStrT prog 9 = true ∧ sizeT prog 9 = some 1 ∧ bytesT prog 9 = some 16 ∧ zav prog 9 = some [.str ⟨#[]⟩] ∧ dflt prog 9 = .str ⟨#[]⟩ ∧ zval prog 9 = some (.str ⟨#[]⟩) := by and_intros <;> kernel_rfl
theorem t10 : known prog 10 = true ∧ aggT prog 10 = false ∧ isIfaceT prog 10 = false ∧ isStrT prog 10 = true ∧ sizeT prog 10 = some 1 ∧ bytesT prog 10 = some 16 ∧ zav prog 10 = some [.str ⟨#[]⟩] ∧ dflt prog 10 = .str ⟨#[]⟩ ∧ zval prog 10 = some (.str ⟨#[]⟩) := by and_intros <;> kernel_rfl
theorem t11 : known prog 11 = true ∧ aggT prog 11 = false ∧ isIfaceT prog 11 = false ∧ isStrT prog 11 = true ∧ sizeT prog 11 = some 1 ∧ bytesT prog 11 = some 16 ∧ zav prog 11 = some [.str ⟨#[]⟩] ∧ dflt prog 11 = .str ⟨#[]⟩ ∧ zval prog 11 = some (.str ⟨#[]⟩) := by and_intros <;> kernel_rfl
theorem t12 : known prog 12 = true ∧ aggT prog 12 = false ∧ isIfaceT prog 12 = false ∧ intT prog 12 = some .u64 ∧ sizeT prog 12 = some 1 ∧ bytesT prog 12 = some 8 ∧ zav prog 12 = some [.int .u64 0] ∧ dflt prog 12 = .int .u64 0 ∧ zval prog 12 = some (.int .u64 0) := by and_intros <;> kernel_rfl
theorem t13 : known prog 13 = true ∧ aggT prog 13 = true ∧ isIfaceT prog 13 = false ∧ sizeT prog 13 = some 2 ∧ zav prog 13 = some [.str ⟨#[]⟩, .int .u64 0] ∧ zval prog 13 = some (.agg [.str ⟨#[]⟩, .int .u64 0]) ∧ fieldT prog 13 0 = some (0, 9) ∧ fieldT prog 13 1 = some (1, 12) ∧ placesT prog 13 = some [(0, 1), (1, 1)] := by and_intros <;> kernel_rfl
theorem t14 : known prog 14 = true ∧ aggT prog 14 = true ∧ isIfaceT prog 14 = false ∧ sizeT prog 14 = some 2 ∧ zav prog 14 = some [.str ⟨#[]⟩, .int .u64 0] ∧ zval prog 14 = some (.agg [.str ⟨#[]⟩, .int .u64 0]) ∧ fieldT prog 14 0 = some (0, 9) ∧ fieldT prog 14 1 = some (1, 12) ∧ placesT prog 14 = some [(0, 1), (1, 1)] := by and_intros <;> kernel_rfl
theorem t15 : known prog 15 = true ∧ aggT prog 15 = false ∧ isIfaceT prog 15 = false ∧ isPtrT prog 15 = true ∧ sizeT prog 15 = some 1 ∧ bytesT prog 15 = some 8 ∧ zav prog 15 = some [.nilp] ∧ dflt prog 15 = .nilp ∧ zval prog 15 = some (.nilp) := by and_intros <;> kernel_rfl
theorem t16 : known prog 16 = true ∧ aggT prog 16 = false ∧ isIfaceT prog 16 = false ∧ isPtrT prog 16 = true ∧ sizeT prog 16 = some 1 ∧ bytesT prog 16 = some 8 ∧ zav prog 16 = some [.nilp] ∧ dflt prog 16 = .nilp ∧ zval prog 16 = some (.nilp) := by and_intros <;> kernel_rfl
theorem t17 : known prog 17 = true ∧ aggT prog 17 = false ∧ isIfaceT prog 17 = false ∧ isPtrT prog 17 = true ∧ sizeT prog 17 = some 1 ∧ bytesT prog 17 = some 8 ∧ zav prog 17 = some [.nilp] ∧ dflt prog 17 = .nilp ∧ zval prog 17 = some (.nilp) := by and_intros <;> kernel_rfl
theorem t20 : known prog 20 = true ∧ aggT prog 20 = false ∧ isIfaceT prog 20 = true ∧ sizeT prog 20 = some 1 ∧ bytesT prog 20 = some 16 ∧ zav prog 20 = some [.nili] ∧ dflt prog 20 = .nili ∧ zval prog 20 = some (.nili) := by and_intros <;> kernel_rfl
theorem t21 : known prog 21 = true ∧ aggT prog 21 = false ∧ isIfaceT prog 21 = false ∧ intT prog 21 = some .i32 ∧ sizeT prog 21 = some 1 ∧ bytesT prog 21 = some 4 ∧ zav prog 21 = some [.int .i32 0] ∧ dflt prog 21 = .int .i32 0 ∧ zval prog 21 = some (.int .i32 0) := by and_intros <;> kernel_rfl
theorem t22 : known prog 22 = true ∧ aggT prog 22 = false ∧ isIfaceT prog 22 = false ∧ elemT prog 22 = some 5 ∧ isStrT prog 22 = false ∧ intT prog 22 = none ∧ sizeT prog 22 = some 1 ∧ bytesT prog 22 = some 24 ∧ zav prog 22 = some [.nils] ∧ dflt prog 22 = .nils ∧ zval prog 22 = some (.nils) := by and_intros <;> kernel_rfl
theorem t23 : known prog 23 = true ∧ aggT prog 23 = false ∧ isIfaceT prog 23 = false ∧ isFuncT prog 23 = true ∧ sizeT prog 23 = some 1 ∧ bytesT prog 23 = some 8 ∧ zav prog 23 = some [.nilf] ∧ dflt prog 23 = .nilf ∧ zval prog 23 = some (.nilf) := by and_intros <;> kernel_rfl
theorem t25 : known prog 25 = true ∧ aggT prog 25 = false ∧ isIfaceT prog 25 = false ∧ intT prog 25 = some .i64 ∧ sizeT prog 25 = some 1 ∧ bytesT prog 25 = some 8 ∧ zav prog 25 = some [.int .i64 0] ∧ dflt prog 25 = .int .i64 0 ∧ zval prog 25 = some (.int .i64 0) := by and_intros <;> kernel_rfl
theorem t42 : known prog 42 = true ∧ aggT prog 42 = false ∧ isIfaceT prog 42 = false ∧ isFuncT prog 42 = true ∧ sizeT prog 42 = some 1 ∧ bytesT prog 42 = some 8 ∧ zav prog 42 = some [.nilf] ∧ dflt prog 42 = .nilf ∧ zval prog 42 = some (.nilf) := by and_intros <;> kernel_rfl
theorem t44 : known prog 44 = true ∧ aggT prog 44 = false ∧ isIfaceT prog 44 = false ∧ elemT prog 44 = some 126 ∧ isStrT prog 44 = false ∧ intT prog 44 = none ∧ sizeT prog 44 = some 1 ∧ bytesT prog 44 = some 24 ∧ zav prog 44 = some [.nils] ∧ dflt prog 44 = .nils ∧ zval prog 44 = some (.nils) := by and_intros <;> kernel_rfl
theorem t46 : known prog 46 = true ∧ aggT prog 46 = false ∧ isIfaceT prog 46 = false ∧ elemT prog 46 = some 50 ∧ isStrT prog 46 = false ∧ intT prog 46 = none ∧ sizeT prog 46 = some 1 ∧ bytesT prog 46 = some 24 ∧ zav prog 46 = some [.nils] ∧ dflt prog 46 = .nils ∧ zval prog 46 = some (.nils) := by and_intros <;> kernel_rfl
theorem t49 : known prog 49 = true ∧ aggT prog 49 = true ∧ isIfaceT prog 49 = false ∧ eqAggT prog 49 = true ∧ sizeT prog 49 = some 2 ∧ zav prog 49 = some [.int .i64 0, .int .i64 0] ∧ zval prog 49 = some (.agg [.int .i64 0, .int .i64 0]) ∧ fieldT prog 49 0 = some (0, 2) ∧ fieldT prog 49 1 = some (1, 2) ∧ placesT prog 49 = some [(0, 1), (1, 1)] := by and_intros <;> kernel_rfl
theorem t50 : known prog 50 = true ∧ aggT prog 50 = true ∧ isIfaceT prog 50 = false ∧ eqAggT prog 50 = true ∧ sizeT prog 50 = some 2 ∧ zav prog 50 = some [.int .i64 0, .int .i64 0] ∧ zval prog 50 = some (.agg [.int .i64 0, .int .i64 0]) ∧ fieldT prog 50 0 = some (0, 2) ∧ fieldT prog 50 1 = some (1, 2) ∧ placesT prog 50 = some [(0, 1), (1, 1)] := by and_intros <;> kernel_rfl
theorem t58 : known prog 58 = true ∧ aggT prog 58 = false ∧ isIfaceT prog 58 = false ∧ elemT prog 58 = some 71 ∧ isStrT prog 58 = false ∧ intT prog 58 = none ∧ sizeT prog 58 = some 1 ∧ bytesT prog 58 = some 24 ∧ zav prog 58 = some [.nils] ∧ dflt prog 58 = .nils ∧ zval prog 58 = some (.nils) := by and_intros <;> kernel_rfl
theorem t59 : known prog 59 = true ∧ aggT prog 59 = false ∧ isIfaceT prog 59 = false ∧ isPtrT prog 59 = true ∧ sizeT prog 59 = some 1 ∧ bytesT prog 59 = some 8 ∧ zav prog 59 = some [.nilp] ∧ dflt prog 59 = .nilp ∧ zval prog 59 = some (.nilp) := by and_intros <;> kernel_rfl
theorem t63 : known prog 63 = true ∧ aggT prog 63 = false ∧ isIfaceT prog 63 = false ∧ isPtrT prog 63 = true ∧ sizeT prog 63 = some 1 ∧ bytesT prog 63 = some 8 ∧ zav prog 63 = some [.nilp] ∧ dflt prog 63 = .nilp ∧ zval prog 63 = some (.nilp) := by and_intros <;> kernel_rfl
theorem t65 : known prog 65 = true ∧ aggT prog 65 = false ∧ isIfaceT prog 65 = false ∧ isPtrT prog 65 = true ∧ sizeT prog 65 = some 1 ∧ bytesT prog 65 = some 8 ∧ zav prog 65 = some [.nilp] ∧ dflt prog 65 = .nilp ∧ zval prog 65 = some (.nilp) := by and_intros <;> kernel_rfl
theorem t67 : known prog 67 = true ∧ aggT prog 67 = false ∧ isIfaceT prog 67 = false ∧ isPtrT prog 67 = true ∧ sizeT prog 67 = some 1 ∧ bytesT prog 67 = some 8 ∧ zav prog 67 = some [.nilp] ∧ dflt prog 67 = .nilp ∧ zval prog 67 = some (.nilp) := by and_intros <;> kernel_rfl
theorem t70 : known prog 70 = true ∧ aggT prog 70 = true ∧ isIfaceT prog 70 = false ∧ eqAggT prog 70 = true ∧ sizeT prog 70 = some 5 ∧ zav prog 70 = some [.int .i64 0, .int .u8 0, .int .i64 0, .int .i64 0, .int .i64 0] ∧ zval prog 70 = some (.agg [.int .i64 0, .int .u8 0, .int .i64 0, .int .i64 0, .int .i64 0]) ∧ fieldT prog 70 0 = some (0, 3) ∧ fieldT prog 70 1 = some (1, 5) ∧ fieldT prog 70 2 = some (2, 3) ∧ fieldT prog 70 3 = some (3, 3) ∧ fieldT prog 70 4 = some (4, 3) ∧ placesT prog 70 = some [(0, 1), (1, 1), (2, 1), (3, 1), (4, 1)] := by and_intros <;> kernel_rfl
theorem t71 : known prog 71 = true ∧ aggT prog 71 = true ∧ isIfaceT prog 71 = false ∧ eqAggT prog 71 = true ∧ sizeT prog 71 = some 5 ∧ zav prog 71 = some [.int .i64 0, .int .u8 0, .int .i64 0, .int .i64 0, .int .i64 0] ∧ zval prog 71 = some (.agg [.int .i64 0, .int .u8 0, .int .i64 0, .int .i64 0, .int .i64 0]) ∧ fieldT prog 71 0 = some (0, 3) ∧ fieldT prog 71 1 = some (1, 5) ∧ fieldT prog 71 2 = some (2, 3) ∧ fieldT prog 71 3 = some (3, 3) ∧ fieldT prog 71 4 = some (4, 3) ∧ placesT prog 71 = some [(0, 1), (1, 1), (2, 1), (3, 1), (4, 1)] := by and_intros <;> kernel_rfl
theorem t77 : known prog 77 = true ∧ aggT prog 77 = false ∧ isIfaceT prog 77 = false ∧ elemT prog 77 = some 3 ∧ isStrT prog 77 = false ∧ intT prog 77 = none ∧ sizeT prog 77 = some 1 ∧ bytesT prog 77 = some 24 ∧ zav prog 77 = some [.nils] ∧ dflt prog 77 = .nils ∧ zval prog 77 = some (.nils) := by and_intros <;> kernel_rfl
theorem t78 : known prog 78 = true ∧ aggT prog 78 = false ∧ isIfaceT prog 78 = false ∧ elemT prog 78 = some 136 ∧ isStrT prog 78 = false ∧ intT prog 78 = none ∧ sizeT prog 78 = some 1 ∧ bytesT prog 78 = some 24 ∧ zav prog 78 = some [.nils] ∧ dflt prog 78 = .nils ∧ zval prog 78 = some (.nils) := by and_intros <;> kernel_rfl
theorem t79 : known prog 79 = true ∧ aggT prog 79 = true ∧ isIfaceT prog 79 = false ∧ sizeT prog 79 = some 6 ∧ zav prog 79 = some [.int .i64 0, .int .i64 0, .int .i64 0, .int .i64 0, .nils, .nils] ∧ zval prog 79 = some (.agg [.int .i64 0, .int .i64 0, .int .i64 0, .int .i64 0, .nils, .nils]) ∧ fieldT prog 79 0 = some (0, 3) ∧ fieldT prog 79 1 = some (1, 3) ∧ fieldT prog 79 2 = some (2, 3) ∧ fieldT prog 79 3 = some (3, 3) ∧ fieldT prog 79 4 = some (4, 77) ∧ fieldT prog 79 5 = some (5, 78) ∧ placesT prog 79 = some [(0, 1), (1, 1), (2, 1), (3, 1), (4, 1), (5, 1)] := by and_intros <;> kernel_rfl
theorem t80 : known prog 80 = true ∧ aggT prog 80 = true ∧ isIfaceT prog 80 = false ∧ sizeT prog 80 = some 6 ∧ zav prog 80 = some [.int .i64 0, .int .i64 0, .int .i64 0, .int .i64 0, .nils, .nils] ∧ zval prog 80 = some (.agg [.int .i64 0, .int .i64 0, .int .i64 0, .int .i64 0, .nils, .nils]) ∧ fieldT prog 80 0 = some (0, 3) ∧ fieldT prog 80 1 = some (1, 3) ∧ fieldT prog 80 2 = some (2, 3) ∧ fieldT prog 80 3 = some (3, 3) ∧ fieldT prog 80 4 = some (4, 77) ∧ fieldT prog 80 5 = some (5, 78) ∧ placesT prog 80 = some [(0, 1), (1, 1), (2, 1), (3, 1), (4, 1), (5, 1)] := by and_intros <;> kernel_rfl
theorem t82 : known prog 82 = true ∧ aggT prog 82 = true ∧ isIfaceT prog 82 = false ∧ eqAggT prog 82 = true ∧ arrT prog 82 = some (4, 3) ∧ placesT prog 82 = none ∧ sizeT prog 82 = some 4 ∧ bytesT prog 82 = some 32 ∧ zav prog 82 = some (List.replicate 4 (.int .i64 0)) ∧ zval prog 82 = some (.agg (List.replicate 4 (.int .i64 0))) := by and_intros <;> kernel_rfl
theorem t85 : known prog 85 = true ∧ aggT prog 85 = false ∧ isIfaceT prog 85 = false ∧ isFuncT prog 85 = true ∧ sizeT prog 85 = some 1 ∧ bytesT prog 85 = some 8 ∧ zav prog 85 = some [.nilf] ∧ dflt prog 85 = .nilf ∧ zval prog 85 = some (.nilf) := by and_intros <;> kernel_rfl
theorem t88 : known prog 88 = true ∧ aggT prog 88 = false ∧ isIfaceT prog 88 = false ∧ isPtrT prog 88 = true ∧ sizeT prog 88 = some 1 ∧ bytesT prog 88 = some 8 ∧ zav prog 88 = some [.nilp] ∧ dflt prog 88 = .nilp ∧ zval prog 88 = some (.nilp) := by and_intros <;> kernel_rfl
theorem t93 : known prog 93 = true ∧ aggT prog 93 = false ∧ isIfaceT prog 93 = false ∧ isPtrT prog 93 = true ∧ sizeT prog 93 = some 1 ∧ bytesT prog 93 = some 8 ∧ zav prog 93 = some [.nilp] ∧ dflt prog 93 = .nilp ∧ zval prog 93 = some (.nilp) := by and_intros <;> kernel_rfl
theorem t96 : known prog 96 = true ∧ aggT prog 96 = false ∧ isIfaceT prog 96 = false ∧ isPtrT prog 96 = true ∧ sizeT prog 96 = some 1 ∧ bytesT prog 96 = some 8 ∧ zav prog 96 = some [.nilp] ∧ dflt prog 96 = .nilp ∧ zval prog 96 = some (.nilp) := by and_intros <;> kernel_rfl
theorem t97 : known prog 97 = true ∧ aggT prog 97 = true ∧ isIfaceT prog 97 = false ∧ sizeT prog 97 = some 2 ∧ zav prog 97 = some [.nilp, .nilp] ∧ zval prog 97 = some (.agg [.nilp, .nilp]) ∧ fieldT prog 97 0 = some (0, 93) ∧ fieldT prog 97 1 = some (1, 65) ∧ placesT prog 97 = some [(0, 1), (1, 1)] := by and_intros <;> kernel_rfl
theorem t98 : known prog 98 = true ∧ aggT prog 98 = true ∧ isIfaceT prog 98 = false ∧ sizeT prog 98 = some 2 ∧ zav prog 98 = some [.nilp, .nilp] ∧ zval prog 98 = some (.agg [.nilp, .nilp]) ∧ fieldT prog 98 0 = some (0, 93) ∧ fieldT prog 98 1 = some (1, 65) ∧ placesT prog 98 = some [(0, 1), (1, 1)] := by and_intros <;> kernel_rfl
theorem t107 : known prog 107 = true ∧ aggT prog 107 = false ∧ isIfaceT prog 107 = false ∧ elemT prog 107 = some 294 ∧ isStrT prog 107 = false ∧ intT prog 107 = none ∧ sizeT prog 107 = some 1 ∧ bytesT prog 107 = some 24 ∧ zav prog 107 = some [.nils] ∧ dflt prog 107 = .nils ∧ zval prog 107 = some (.nils) := by and_intros <;> kernel_rfl
theorem t108 : known prog 108 = true ∧ aggT prog 108 = false ∧ isIfaceT prog 108 = false ∧ intT prog 108 = some .u32 ∧ sizeT prog 108 = some 1 ∧ bytesT prog 108 = some 4 ∧ zav prog 108 = some [.int .u32 0] ∧ dflt prog 108 = .int .u32 0 ∧ zval prog 108 = some (.int .u32 0) := by and_intros <;> kernel_rfl
theorem t109 : known prog 109 = true ∧ aggT prog 109 = true ∧ isIfaceT prog 109 = false ∧ sizeT prog 109 = some 9 ∧ zav prog 109 = some [.int .i64 0, .int .i64 0, .int .i64 0, .int .i64 0, .int .i64 0, .int .i64 0, .int .i64 0, .nils, .int .u32 0] ∧ zval prog 109 = some (.agg [.int .i64 0, .int .i64 0, .int .i64 0, .int .i64 0, .int .i64 0, .int .i64 0, .int .i64 0, .nils, .int .u32 0]) ∧ fieldT prog 109 0 = some (0, 3) ∧ fieldT prog 109 1 = some (1, 3) ∧ fieldT prog 109 2 = some (2, 3) ∧ fieldT prog 109 3 = some (3, 3) ∧ fieldT prog 109 4 = some (4, 3) ∧ fieldT prog 109 5 = some (5, 3) ∧ fieldT prog 109 6 = some (6, 3) ∧ fieldT prog 109 7 = some (7, 107) ∧ fieldT prog 109 8 = some (8, 108) ∧ placesT prog 109 = some [(0, 1), (1, 1), (2, 1), (3, 1), (4, 1), (5, 1), (6, 1), (7, 1), (8, 1)] := by and_intros <;> kernel_rfl
theorem t110 : known prog 110 = true ∧ aggT prog 110 = true ∧ isIfaceT prog 110 = false ∧ sizeT prog 110 = some 9 ∧ zav prog 110 = some [.int .i64 0, .int .i64 0, .int .i64 0, .int .i64 0, .int .i64 0, .int .i64 0, .int .i64 0, .nils, .int .u32 0] ∧ zval prog 110 = some (.agg [.int .i64 0, .int .i64 0, .int .i64 0, .int .i64 0, .int .i64 0, .int .i64 0, .int .i64 0, .nils, .int .u32 0]) ∧ fieldT prog 110 0 = some (0, 3) ∧ fieldT prog 110 1 = some (1, 3) ∧ fieldT prog 110 2 = some (2, 3) ∧ fieldT prog 110 3 = some (3, 3) ∧ fieldT prog 110 4 = some (4, 3) ∧ fieldT prog 110 5 = some (5, 3) ∧ fieldT prog 110 6 = some (6, 3) ∧ fieldT prog 110 7 = some (7, 107) ∧ fieldT prog 110 8 = some (8, 108) ∧ placesT prog 110 = some [(0, 1), (1, 1), (2, 1), (3, 1), (4, 1), (5, 1), (6, 1), (7, 1), (8, 1)] := by and_intros <;> kernel_rfl
theorem t116 : known prog 116 = true ∧ aggT prog 116 = false ∧ isIfaceT prog 116 = false ∧ intT prog 116 = some .u64 ∧ sizeT prog 116 = some 1 ∧ bytesT prog 116 = some 8 ∧ zav prog 116 = some [.int .u64 0] ∧ dflt prog 116 = .int .u64 0 ∧ zval prog 116 = some (.int .u64 0) := by and_intros <;> kernel_rfl
theorem t117 : known prog 117 = true ∧ aggT prog 117 = false ∧ isIfaceT prog 117 = false ∧ isFuncT prog 117 = true ∧ sizeT prog 117 = some 1 ∧ bytesT prog 117 = some 8 ∧ zav prog 117 = some [.nilf] ∧ dflt prog 117 = .nilf ∧ zval prog 117 = some (.nilf) := by and_intros <;> kernel_rfl
theorem t118 : known prog 118 = true ∧ aggT prog 118 = false ∧ isIfaceT prog 118 = false ∧ mapT prog 118 = some (.i64, 117) ∧ mxT prog 118 = none ∧ sizeT prog 118 = some 1 ∧ bytesT prog 118 = some 8 ∧ zav prog 118 = some [.nilm] ∧ dflt prog 118 = .nilm ∧ zval prog 118 = some (.nilm) := by and_intros <;> kernel_rfl
theorem t123 : known prog 123 = true ∧ aggT prog 123 = false ∧ isIfaceT prog 123 = false ∧ intT prog 123 = some .u64 ∧ sizeT prog 123 = some 1 ∧ bytesT prog 123 = some 8 ∧ zav prog 123 = some [.int .u64 0] ∧ dflt prog 123 = .int .u64 0 ∧ zval prog 123 = some (.int .u64 0) := by and_intros <;> kernel_rfl
theorem t125 : known prog 125 = true ∧ aggT prog 125 = false ∧ isIfaceT prog 125 = false ∧ isFuncT prog 125 = true ∧ sizeT prog 125 = some 1 ∧ bytesT prog 125 = some 8 ∧ zav prog 125 = some [.nilf] ∧ dflt prog 125 = .nilf ∧ zval prog 125 = some (.nilf) := by and_intros <;> kernel_rfl
theorem t126 : known prog 126 = true ∧ aggT prog 126 = true ∧ isIfaceT prog 126 = false ∧ eqAggT prog 126 = true ∧ sizeT prog 126 = some 2 ∧ zav prog 126 = some [.int .i64 0, .int .i64 0] ∧ zval prog 126 = some (.agg [.int .i64 0, .int .i64 0]) ∧ fieldT prog 126 0 = some (0, 2) ∧ fieldT prog 126 1 = some (1, 2) ∧ placesT prog 126 = some [(0, 1), (1, 1)] := by and_intros <;> kernel_rfl
theorem t127 : known prog 127 = true ∧ aggT prog 127 = false ∧ isIfaceT prog 127 = false ∧ isPtrT prog 127 = true ∧ sizeT prog 127 = some 1 ∧ bytesT prog 127 = some 8 ∧ zav prog 127 = some [.nilp] ∧ dflt prog 127 = .nilp ∧ zval prog 127 = some (.nilp) := by and_intros <;> kernel_rfl
theorem t128 : known prog 128 = true ∧ aggT prog 128 = true ∧ isIfaceT prog 128 = false ∧ sizeT prog 128 = some 3 ∧ zav prog 128 = some [.nils, .int .i64 0, .int .i64 0] ∧ zval prog 128 = some (.agg [.nils, .int .i64 0, .int .i64 0]) ∧ fieldT prog 128 0 = some (0, 22) ∧ fieldT prog 128 1 = some (1, 3) ∧ fieldT prog 128 2 = some (2, 25) ∧ placesT prog 128 = some [(0, 1), (1, 1), (2, 1)] := by and_intros <;> kernel_rfl
theorem t129 : known prog 129 = true ∧ aggT prog 129 = true ∧ isIfaceT prog 129 = false ∧ sizeT prog 129 = some 3 ∧ zav prog 129 = some [.nils, .int .i64 0, .int .i64 0] ∧ zval prog 129 = some (.agg [.nils, .int .i64 0, .int .i64 0]) ∧ fieldT prog 129 0 = some (0, 22) ∧ fieldT prog 129 1 = some (1, 3) ∧ fieldT prog 129 2 = some (2, 25) ∧ placesT prog 129 = some [(0, 1), (1, 1), (2, 1)] := by and_intros <;> kernel_rfl
theorem t135 : known prog 135 = true ∧ aggT prog 135 = false ∧ isIfaceT prog 135 = false ∧ elemT prog 135 = some 153 ∧ isStrT prog 135 = false ∧ intT prog 135 = none ∧ sizeT prog 135 = some 1 ∧ bytesT prog 135 = some 24 ∧ zav prog 135 = some [.nils] ∧ dflt prog 135 = .nils ∧ zval prog 135 = some (.nils) := by and_intros <;> kernel_rfl
theorem t136 : known prog 136 = true ∧ aggT prog 136 = false ∧ isIfaceT prog 136 = false ∧ intT prog 136 = some .u16 ∧ sizeT prog 136 = some 1 ∧ bytesT prog 136 = some 2 ∧ zav prog 136 = some [.int .u16 0] ∧ dflt prog 136 = .int .u16 0 ∧ zval prog 136 = some (.int .u16 0) := by and_intros <;> kernel_rfl
theorem t137 : known prog 137 = true ∧ aggT prog 137 = true ∧ isIfaceT prog 137 = false ∧ eqAggT prog 137 = true ∧ arrT prog 137 = some (16, 136) ∧ placesT prog 137 = none ∧ sizeT prog 137 = some 16 ∧ bytesT prog 137 = some 32 ∧ zav prog 137 = some (List.replicate 16 (.int .u16 0)) ∧ zval prog 137 = some (.agg (List.replicate 16 (.int .u16 0))) := by and_intros <;> kernel_rfl
theorem t138 : known prog 138 = true ∧ aggT prog 138 = true ∧ isIfaceT prog 138 = false ∧ eqAggT prog 138 = true ∧ arrT prog 138 = some (12, 137) ∧ placesT prog 138 = none ∧ sizeT prog 138 = some 192 ∧ bytesT prog 138 = some 384 ∧ zav prog 138 = some ((List.replicate 12 (List.replicate 16 (.int .u16 0))).flatten) ∧ zval prog 138 = some (.agg ((List.replicate 12 (List.replicate 16 (.int .u16 0))).flatten)) := by and_intros <;> kernel_rfl
theorem t139 : known prog 139 = true ∧ aggT prog 139 = true ∧ isIfaceT prog 139 = false ∧ eqAggT prog 139 = true ∧ arrT prog 139 = some (12, 136) ∧ placesT prog 139 = none ∧ sizeT prog 139 = some 12 ∧ bytesT prog 139 = some 24 ∧ zav prog 139 = some (List.replicate 12 (.int .u16 0)) ∧ zval prog 139 = some (.agg (List.replicate 12 (.int .u16 0))) := by and_intros <;> kernel_rfl
theorem t140 : known prog 140 = true ∧ aggT prog 140 = true ∧ isIfaceT prog 140 = false ∧ eqAggT prog 140 = true ∧ arrT prog 140 = some (1, 136) ∧ placesT prog 140 = none ∧ sizeT prog 140 = some 1 ∧ bytesT prog 140 = some 2 ∧ zav prog 140 = some (List.replicate 1 (.int .u16 0)) ∧ zval prog 140 = some (.agg (List.replicate 1 (.int .u16 0))) := by and_intros <;> kernel_rfl
theorem t141 : known prog 141 = true ∧ aggT prog 141 = true ∧ isIfaceT prog 141 = false ∧ eqAggT prog 141 = true ∧ arrT prog 141 = some (8, 136) ∧ placesT prog 141 = none ∧ sizeT prog 141 = some 8 ∧ bytesT prog 141 = some 16 ∧ zav prog 141 = some (List.replicate 8 (.int .u16 0)) ∧ zval prog 141 = some (.agg (List.replicate 8 (.int .u16 0))) := by and_intros <;> kernel_rfl
theorem t142 : known prog 142 = true ∧ aggT prog 142 = true ∧ isIfaceT prog 142 = false ∧ eqAggT prog 142 = true ∧ arrT prog 142 = some (16, 141) ∧ placesT prog 142 = none ∧ sizeT prog 142 = some 128 ∧ bytesT prog 142 = some 256 ∧ zav prog 142 = some ((List.replicate 16 (List.replicate 8 (.int .u16 0))).flatten) ∧ zval prog 142 = some (.agg ((List.replicate 16 (List.replicate 8 (.int .u16 0))).flatten)) := by and_intros <;> kernel_rfl
theorem t143 : known prog 143 = true ∧ aggT prog 143 = true ∧ isIfaceT prog 143 = false ∧ eqAggT prog 143 = true ∧ arrT prog 143 = some (256, 136) ∧ placesT prog 143 = none ∧ sizeT prog 143 = some 256 ∧ bytesT prog 143 = some 512 ∧ zav prog 143 = some (List.replicate 256 (.int .u16 0)) ∧ zval prog 143 = some (.agg (List.replicate 256 (.int .u16 0))) := by and_intros <;> kernel_rfl
theorem t144 : known prog 144 = true ∧ aggT prog 144 = true ∧ isIfaceT prog 144 = false ∧ eqAggT prog 144 = true ∧ sizeT prog 144 = some 514 ∧ zav prog 144 = some ((List.replicate 1 (.int .u16 0)) ++ (List.replicate 1 (.int .u16 0)) ++ ((List.replicate 16 (List.replicate 8 (.int .u16 0))).flatten) ++ ((List.replicate 16 (List.replicate 8 (.int .u16 0))).flatten) ++ (List.replicate 256 (.int .u16 0))) ∧ zval prog 144 = some (.agg ((List.replicate 1 (.int .u16 0)) ++ (List.replicate 1 (.int .u16 0)) ++ ((List.replicate 16 (List.replicate 8 (.int .u16 0))).flatten) ++ ((List.replicate 16 (List.replicate 8 (.int .u16 0))).flatten) ++ (List.replicate 256 (.int .u16 0)))) ∧ fieldT prog 144 0 = some (0, 140) ∧ fieldT prog 144 1 = some (1, 140) ∧ fieldT prog 144 2 = some (2, 142) ∧ fieldT prog 144 3 = some (130, 142) ∧ fieldT prog 144 4 = some (258, 143) ∧ placesT prog 144 = some [(0, 1), (1, 1), (2, 128), (130, 128), (258, 256)] := by and_intros <;> kernel_rfl
theorem t145 : known prog 145 = true ∧ aggT prog 145 = true ∧ isIfaceT prog 145 = false ∧ eqAggT prog 145 = true ∧ sizeT prog 145 = some 514 ∧ zav prog 145 = some ((List.replicate 1 (.int .u16 0)) ++ (List.replicate 1 (.int .u16 0)) ++ ((List.replicate 16 (List.replicate 8 (.int .u16 0))).flatten) ++ ((List.replicate 16 (List.replicate 8 (.int .u16 0))).flatten) ++ (List.replicate 256 (.int .u16 0))) ∧ zval prog 145 = some (.agg ((List.replicate 1 (.int .u16 0)) ++ (List.replicate 1 (.int .u16 0)) ++ ((List.replicate 16 (List.replicate 8 (.int .u16 0))).flatten) ++ ((List.replicate 16 (List.replicate 8 (.int .u16 0))).flatten) ++ (List.replicate 256 (.int .u16 0)))) ∧ fieldT prog 145 0 = some (0, 140) ∧ fieldT prog 145 1 = some (1, 140) ∧ fieldT prog 145 2 = some (2, 142) ∧ fieldT prog 145 3 = some (130, 142) ∧ fieldT prog 145 4 = some (258, 143) ∧ placesT prog 145 = some [(0, 1), (1, 1), (2, 128), (130, 128), (258, 256)] := by and_intros <;> kernel_rfl
theorem t146 : known prog 146 = true ∧ aggT prog 146 = true ∧ isIfaceT prog 146 = false ∧ eqAggT prog 146 = true ∧ arrT prog 146 = some (64, 136) ∧ placesT prog 146 = none ∧ sizeT prog 146 = some 64 ∧ bytesT prog 146 = some 128 ∧ zav prog 146 = some (List.replicate 64 (.int .u16 0)) ∧ zval prog 146 = some (.agg (List.replicate 64 (.int .u16 0))) := by and_intros <;> kernel_rfl
theorem t147 : known prog 147 = true ∧ aggT prog 147 = true ∧ isIfaceT prog 147 = false ∧ eqAggT prog 147 = true ∧ arrT prog 147 = some (4, 146) ∧ placesT prog 147 = none ∧ sizeT prog 147 = some 256 ∧ bytesT prog 147 = some 512 ∧ zav prog 147 = some ((List.replicate 4 (List.replicate 64 (.int .u16 0))).flatten) ∧ zval prog 147 = some (.agg ((List.replicate 4 (List.replicate 64 (.int .u16 0))).flatten)) := by and_intros <;> kernel_rfl
theorem t148 : known prog 148 = true ∧ aggT prog 148 = true ∧ isIfaceT prog 148 = false ∧ eqAggT prog 148 = true ∧ arrT prog 148 = some (32, 136) ∧ placesT prog 148 = none ∧ sizeT prog 148 = some 32 ∧ bytesT prog 148 = some 64 ∧ zav prog 148 = some (List.replicate 32 (.int .u16 0)) ∧ zval prog 148 = some (.agg (List.replicate 32 (.int .u16 0))) := by and_intros <;> kernel_rfl
theorem t149 : known prog 149 = true ∧ aggT prog 149 = true ∧ isIfaceT prog 149 = false ∧ eqAggT prog 149 = true ∧ arrT prog 149 = some (14, 148) ∧ placesT prog 149 = none ∧ sizeT prog 149 = some 448 ∧ bytesT prog 149 = some 896 ∧ zav prog 149 = some ((List.replicate 14 (List.replicate 32 (.int .u16 0))).flatten) ∧ zval prog 149 = some (.agg ((List.replicate 14 (List.replicate 32 (.int .u16 0))).flatten)) := by and_intros <;> kernel_rfl
theorem t150 : known prog 150 = true ∧ aggT prog 150 = true ∧ isIfaceT prog 150 = false ∧ sizeT prog 150 = some 2189 ∧ zav prog 150 = some ([.int .i64 0] ++ [.int .i64 0] ++ [.int .i64 0] ++ [.int .i64 0] ++ (List.replicate 4 (.int .i64 0)) ++ ((List.replicate 12 (List.replicate 16 (.int .u16 0))).flatten) ++ ((List.replicate 12 (List.replicate 16 (.int .u16 0))).flatten) ++ (List.replicate 12 (.int .u16 0)) ++ (List.replicate 12 (.int .u16 0)) ++ (List.replicate 12 (.int .u16 0)) ++ (List.replicate 12 (.int .u16 0)) ++ ((List.replicate 1 (.int .u16 0)) ++ (List.replicate 1 (.int .u16 0)) ++ ((List.replicate 16 (List.replicate 8 (.int .u16 0))).flatten) ++ ((List.replicate 16 (List.replicate 8 (.int .u16 0))).flatten) ++ (List.replicate 256 (.int .u16 0))) ++ ((List.replicate 1 (.int .u16 0)) ++ (List.replicate 1 (.int .u16 0)) ++ ((List.replicate 16 (List.replicate 8 (.int .u16 0))).flatten) ++ ((List.replicate 16 (List.replicate 8 (.int .u16 0))).flatten) ++ (List.replicate 256 (.int .u16 0))) ++ ((List.replicate 4 (List.replicate 64 (.int .u16 0))).flatten) ++ ((List.replicate 14 (List.replicate 32 (.int .u16 0))).flatten) ++ (List.replicate 16 (.int .u16 0)) ++ [.nils]) ∧ zval prog 150 = some (.agg ([.int .i64 0] ++ [.int .i64 0] ++ [.int .i64 0] ++ [.int .i64 0] ++ (List.replicate 4 (.int .i64 0)) ++ ((List.replicate 12 (List.replicate 16 (.int .u16 0))).flatten) ++ ((List.replicate 12 (List.replicate 16 (.int .u16 0))).flatten) ++ (List.replicate 12 (.int .u16 0)) ++ (List.replicate 12 (.int .u16 0)) ++ (List.replicate 12 (.int .u16 0)) ++ (List.replicate 12 (.int .u16 0)) ++ ((List.replicate 1 (.int .u16 0)) ++ (List.replicate 1 (.int .u16 0)) ++ ((List.replicate 16 (List.replicate 8 (.int .u16 0))).flatten) ++ ((List.replicate 16 (List.replicate 8 (.int .u16 0))).flatten) ++ (List.replicate 256 (.int .u16 0))) ++ ((List.replicate 1 (.int .u16 0)) ++ (List.replicate 1 (.int .u16 0)) ++ ((List.replicate 16 (List.replicate 8 (.int .u16 0))).flatten) ++ ((List.replicate 16 (List.replicate 8 (.int .u16 0))).flatten) ++ (List.replicate 256 (.int .u16 0))) ++ ((List.replicate 4 (List.replicate 64 (.int .u16 0))).flatten) ++ ((List.replicate 14 (List.replicate 32 (.int .u16 0))).flatten) ++ (List.replicate 16 (.int .u16 0)) ++ [.nils])) ∧ fieldT prog 150 0 = some (0, 3) ∧ fieldT prog 150 1 = some (1, 3) ∧ fieldT prog 150 2 = some (2, 3) ∧ fieldT prog 150 3 = some (3, 3) ∧ fieldT prog 150 4 = some (4, 82) ∧ fieldT prog 150 5 = some (8, 138) ∧ fieldT prog 150 6 = some (200, 138) ∧ fieldT prog 150 7 = some (392, 139) ∧ fieldT prog 150 8 = some (404, 139) ∧ fieldT prog 150 9 = some (416, 139) ∧ fieldT prog 150 10 = some (428, 139) ∧ fieldT prog 150 11 = some (440, 145) ∧ fieldT prog 150 12 = some (954, 145) ∧ fieldT prog 150 13 = some (1468, 147) ∧ fieldT prog 150 14 = some (1724, 149) ∧ fieldT prog 150 15 = some (2172, 137) ∧ fieldT prog 150 16 = some (2188, 135) ∧ placesT prog 150 = some [(0, 1), (1, 1), (2, 1), (3, 1), (4, 4), (8, 192), (200, 192), (392, 12), (404, 12), (416, 12), (428, 12), (440, 514), (954, 514), (1468, 256), (1724, 448), (2172, 16), (2188, 1)] := by and_intros <;> kernel_rfl
theorem t151 : known prog 151 = true ∧ aggT prog 151 = true ∧ isIfaceT prog 151 = false ∧ sizeT prog 151 = some 2189 ∧ zav prog 151 = some ([.int .i64 0] ++ [.int .i64 0] ++ [.int .i64 0] ++ [.int .i64 0] ++ (List.replicate 4 (.int .i64 0)) ++ ((List.replicate 12 (List.replicate 16 (.int .u16 0))).flatten) ++ ((List.replicate 12 (List.replicate 16 (.int .u16 0))).flatten) ++ (List.replicate 12 (.int .u16 0)) ++ (List.replicate 12 (.int .u16 0)) ++ (List.replicate 12 (.int .u16 0)) ++ (List.replicate 12 (.int .u16 0)) ++ ((List.replicate 1 (.int .u16 0)) ++ (List.replicate 1 (.int .u16 0)) ++ ((List.replicate 16 (List.replicate 8 (.int .u16 0))).flatten) ++ ((List.replicate 16 (List.replicate 8 (.int .u16 0))).flatten) ++ (List.replicate 256 (.int .u16 0))) ++ ((List.replicate 1 (.int .u16 0)) ++ (List.replicate 1 (.int .u16 0)) ++ ((List.replicate 16 (List.replicate 8 (.int .u16 0))).flatten) ++ ((List.replicate 16 (List.replicate 8 (.int .u16 0))).flatten) ++ (List.replicate 256 (.int .u16 0))) ++ ((List.replicate 4 (List.replicate 64 (.int .u16 0))).flatten) ++ ((List.replicate 14 (List.replicate 32 (.int .u16 0))).flatten) ++ (List.replicate 16 (.int .u16 0)) ++ [.nils]) ∧ zval prog 151 = some (.agg ([.int .i64 0] ++ [.int .i64 0] ++ [.int .i64 0] ++ [.int .i64 0] ++ (List.replicate 4 (.int .i64 0)) ++ ((List.replicate 12 (List.replicate 16 (.int .u16 0))).flatten) ++ ((List.replicate 12 (List.replicate 16 (.int .u16 0))).flatten) ++ (List.replicate 12 (.int .u16 0)) ++ (List.replicate 12 (.int .u16 0)) ++ (List.replicate 12 (.int .u16 0)) ++ (List.replicate 12 (.int .u16 0)) ++ ((List.replicate 1 (.int .u16 0)) ++ (List.replicate 1 (.int .u16 0)) ++ ((List.replicate 16 (List.replicate 8 (.int .u16 0))).flatten) ++ ((List.replicate 16 (List.replicate 8 (.int .u16 0))).flatten) ++ (List.replicate 256 (.int .u16 0))) ++ ((List.replicate 1 (.int .u16 0)) ++ (List.replicate 1 (.int .u16 0)) ++ ((List.replicate 16 (List.replicate 8 (.int .u16 0))).flatten) ++ ((List.replicate 16 (List.replicate 8 (.int .u16 0))).flatten) ++ (List.replicate 256 (.int .u16 0))) ++ ((List.replicate 4 (List.replicate 64 (.int .u16 0))).flatten) ++ ((List.replicate 14 (List.replicate 32 (.int .u16 0))).flatten) ++ (List.replicate 16 (.int .u16 0)) ++ [.nils])) ∧ fieldT prog 151 0 = some (0, 3) ∧ fieldT prog 151 1 = some (1, 3) ∧ fieldT prog 151 2 = some (2, 3) ∧ fieldT prog 151 3 = some (3, 3) ∧ fieldT prog 151 4 = some (4, 82) ∧ fieldT prog 151 5 = some (8, 138) ∧ fieldT prog 151 6 = some (200, 138) ∧ fieldT prog 151 7 = some (392, 139) ∧ fieldT prog 151 8 = some (404, 139) ∧ fieldT prog 151 9 = some (416, 139) ∧ fieldT prog 151 10 = some (428, 139) ∧ fieldT prog 151 11 = some (440, 145) ∧ fieldT prog 151 12 = some (954, 145) ∧ fieldT prog 151 13 = some (1468, 147) ∧ fieldT prog 151 14 = some (1724, 149) ∧ fieldT prog 151 15 = some (2172, 137) ∧ fieldT prog 151 16 = some (2188, 135) ∧ placesT prog 151 = some [(0, 1), (1, 1), (2, 1), (3, 1), (4, 4), (8, 192), (200, 192), (392, 12), (404, 12), (416, 12), (428, 12), (440, 514), (954, 514), (1468, 256), (1724, 448), (2172, 16), (2188, 1)] := by and_intros <;> kernel_rfl
theorem t153 : known prog 153 = true ∧ aggT prog 153 = true ∧ isIfaceT prog 153 = false ∧ eqAggT prog 153 = true ∧ arrT prog 153 = some (768, 136) ∧ placesT prog 153 = none ∧ sizeT prog 153 = some 768 ∧ bytesT prog 153 = some 1536 ∧ zav prog 153 = some (List.replicate 768 (.int .u16 0)) ∧ zval prog 153 = some (.agg (List.replicate 768 (.int .u16 0))) := by and_intros <;> kernel_rfl
theorem t154 : known prog 154 = true ∧ aggT prog 154 = false ∧ isIfaceT prog 154 = false ∧ elemT prog 154 = some 78 ∧ isStrT prog 154 = false ∧ intT prog 154 = none ∧ sizeT prog 154 = some 1 ∧ bytesT prog 154 = some 24 ∧ zav prog 154 = some [.nils] ∧ dflt prog 154 = .nils ∧ zval prog 154 = some (.nils) := by and_intros <;> kernel_rfl
theorem t155 : known prog 155 = true ∧ aggT prog 155 = true ∧ isIfaceT prog 155 = false ∧ sizeT prog 155 = some 5 ∧ zav prog 155 = some [.int .u64 0, .int .u32 0, .int .u8 0, .int .i64 0, .nils] ∧ zval prog 155 = some (.agg [.int .u64 0, .int .u32 0, .int .u8 0, .int .i64 0, .nils]) ∧ fieldT prog 155 0 = some (0, 116) ∧ fieldT prog 155 1 = some (1, 108) ∧ fieldT prog 155 2 = some (2, 5) ∧ fieldT prog 155 3 = some (3, 3) ∧ fieldT prog 155 4 = some (4, 22) ∧ placesT prog 155 = some [(0, 1), (1, 1), (2, 1), (3, 1), (4, 1)] := by and_intros <;> kernel_rfl
theorem t156 : known prog 156 = true ∧ aggT prog 156 = true ∧ isIfaceT prog 156 = false ∧ sizeT prog 156 = some 5 ∧ zav prog 156 = some [.int .u64 0, .int .u32 0, .int .u8 0, .int .i64 0, .nils] ∧ zval prog 156 = some (.agg [.int .u64 0, .int .u32 0, .int .u8 0, .int .i64 0, .nils]) ∧ fieldT prog 156 0 = some (0, 116) ∧ fieldT prog 156 1 = some (1, 108) ∧ fieldT prog 156 2 = some (2, 5) ∧ fieldT prog 156 3 = some (3, 3) ∧ fieldT prog 156 4 = some (4, 22) ∧ placesT prog 156 = some [(0, 1), (1, 1), (2, 1), (3, 1), (4, 1)] := by and_intros <;> kernel_rfl
theorem t157 : known prog 157 = true ∧ aggT prog 157 = true ∧ isIfaceT prog 157 = false ∧ sizeT prog 157 = some 2 ∧ zav prog 157 = some [.nils, .int .u64 0] ∧ zval prog 157 = some (.agg [.nils, .int .u64 0]) ∧ fieldT prog 157 0 = some (0, 22) ∧ fieldT prog 157 1 = some (1, 116) ∧ placesT prog 157 = some [(0, 1), (1, 1)] := by and_intros <;> kernel_rfl
theorem t158 : known prog 158 = true ∧ aggT prog 158 = true ∧ isIfaceT prog 158 = false ∧ sizeT prog 158 = some 2 ∧ zav prog 158 = some [.nils, .int .u64 0] ∧ zval prog 158 = some (.agg [.nils, .int .u64 0]) ∧ fieldT prog 158 0 = some (0, 22) ∧ fieldT prog 158 1 = some (1, 116) ∧ placesT prog 158 = some [(0, 1), (1, 1)] := by and_intros <;> kernel_rfl
theorem t163 : known prog 163 = true ∧ aggT prog 163 = true ∧ isIfaceT prog 163 = false ∧ sizeT prog 163 = some 4 ∧ zav prog 163 = some [.nils, .int .u32 0, .int .u32 0, .bool false] ∧ zval prog 163 = some (.agg [.nils, .int .u32 0, .int .u32 0, .bool false]) ∧ fieldT prog 163 0 = some (0, 22) ∧ fieldT prog 163 1 = some (1, 108) ∧ fieldT prog 163 2 = some (2, 108) ∧ fieldT prog 163 3 = some (3, 4) ∧ placesT prog 163 = some [(0, 1), (1, 1), (2, 1), (3, 1)] := by and_intros <;> kernel_rfl
theorem t164 : known prog 164 = true ∧ aggT prog 164 = true ∧ isIfaceT prog 164 = false ∧ sizeT prog 164 = some 4 ∧ zav prog 164 = some [.nils, .int .u32 0, .int .u32 0, .bool false] ∧ zval prog 164 = some (.agg [.nils, .int .u32 0, .int .u32 0, .bool false]) ∧ fieldT prog 164 0 = some (0, 22) ∧ fieldT prog 164 1 = some (1, 108) ∧ fieldT prog 164 2 = some (2, 108) ∧ fieldT prog 164 3 = some (3, 4) ∧ placesT prog 164 = some [(0, 1), (1, 1), (2, 1), (3, 1)] := by and_intros <;> kernel_rfl
theorem t165 : known prog 165 = true ∧ aggT prog 165 = false ∧ isIfaceT prog 165 = true ∧ sizeT prog 165 = some 1 ∧ bytesT prog 165 = some 16 ∧ zav prog 165 = some [.nili] ∧ dflt prog 165 = .nili ∧ zval prog 165 = some (.nili) := by and_intros <;> kernel_rfl
theorem t166 : known prog 166 = true ∧ aggT prog 166 = false ∧ isIfaceT prog 166 = true ∧ sizeT prog 166 = some 1 ∧ bytesT prog 166 = some 16 ∧ zav prog 166 = some [.nili] ∧ dflt prog 166 = .nili ∧ zval prog 166 = some (.nili) := by and_intros <;> kernel_rfl
theorem t167 : known prog 167 = true ∧ aggT prog 167 = true ∧ isIfaceT prog 167 = false ∧ sizeT prog 167 = some 4 ∧ zav prog 167 = some [.nilp, .nili, .nils, .int .i64 0] ∧ zval prog 167 = some (.agg [.nilp, .nili, .nils, .int .i64 0]) ∧ fieldT prog 167 0 = some (0, 59) ∧ fieldT prog 167 1 = some (1, 166) ∧ fieldT prog 167 2 = some (2, 22) ∧ fieldT prog 167 3 = some (3, 3) ∧ placesT prog 167 = some [(0, 1), (1, 1), (2, 1), (3, 1)] := by and_intros <;> kernel_rfl
theorem t168 : known prog 168 = true ∧ aggT prog 168 = true ∧ isIfaceT prog 168 = false ∧ sizeT prog 168 = some 4 ∧ zav prog 168 = some [.nilp, .nili, .nils, .int .i64 0] ∧ zval prog 168 = some (.agg [.nilp, .nili, .nils, .int .i64 0]) ∧ fieldT prog 168 0 = some (0, 59) ∧ fieldT prog 168 1 = some (1, 166) ∧ fieldT prog 168 2 = some (2, 22) ∧ fieldT prog 168 3 = some (3, 3) ∧ placesT prog 168 = some [(0, 1), (1, 1), (2, 1), (3, 1)] := by and_intros <;> kernel_rfl
theorem t170 : known prog 170 = true ∧ aggT prog 170 = false ∧ isIfaceT prog 170 = false ∧ isPtrT prog 170 = true ∧ sizeT prog 170 = some 1 ∧ bytesT prog 170 = some 8 ∧ zav prog 170 = some [.nilp] ∧ dflt prog 170 = .nilp ∧ zval prog 170 = some (.nilp) := by and_intros <;> kernel_rfl
theorem t172 : known prog 172 = true ∧ aggT prog 172 = false ∧ isIfaceT prog 172 = false ∧ isPtrT prog 172 = true ∧ sizeT prog 172 = some 1 ∧ bytesT prog 172 = some 8 ∧ zav prog 172 = some [.nilp] ∧ dflt prog 172 = .nilp ∧ zval prog 172 = some (.nilp) := by and_intros <;> kernel_rfl
theorem t174 : known prog 174 = true ∧ aggT prog 174 = false ∧ isIfaceT prog 174 = false ∧ isFuncT prog 174 = true ∧ sizeT prog 174 = some 1 ∧ bytesT prog 174 = some 8 ∧ zav prog 174 = some [.nilf] ∧ dflt prog 174 = .nilf ∧ zval prog 174 = some (.nilf) := by and_intros <;> kernel_rfl
theorem t177 : known prog 177 = true ∧ aggT prog 177 = true ∧ isIfaceT prog 177 = false ∧ sizeT prog 177 = some 5 ∧ zav prog 177 = some [.nils, .int .i64 0, .int .u64 0, .int .u64 0, .bool false] ∧ zval prog 177 = some (.agg [.nils, .int .i64 0, .int .u64 0, .int .u64 0, .bool false]) ∧ fieldT prog 177 0 = some (0, 22) ∧ fieldT prog 177 1 = some (1, 3) ∧ fieldT prog 177 2 = some (2, 116) ∧ fieldT prog 177 3 = some (3, 116) ∧ fieldT prog 177 4 = some (4, 4) ∧ placesT prog 177 = some [(0, 1), (1, 1), (2, 1), (3, 1), (4, 1)] := by and_intros <;> kernel_rfl
theorem t178 : known prog 178 = true ∧ aggT prog 178 = true ∧ isIfaceT prog 178 = false ∧ sizeT prog 178 = some 5 ∧ zav prog 178 = some [.nils, .int .i64 0, .int .u64 0, .int .u64 0, .bool false] ∧ zval prog 178 = some (.agg [.nils, .int .i64 0, .int .u64 0, .int .u64 0, .bool false]) ∧ fieldT prog 178 0 = some (0, 22) ∧ fieldT prog 178 1 = some (1, 3) ∧ fieldT prog 178 2 = some (2, 116) ∧ fieldT prog 178 3 = some (3, 116) ∧ fieldT prog 178 4 = some (4, 4) ∧ placesT prog 178 = some [(0, 1), (1, 1), (2, 1), (3, 1), (4, 1)] := by and_intros <;> kernel_rfl
theorem t180 : known prog 180 = true ∧ aggT prog 180 = false ∧ isIfaceT prog 180 = false ∧ isPtrT prog 180 = true ∧ sizeT prog 180 = some 1 ∧ bytesT prog 180 = some 8 ∧ zav prog 180 = some [.nilp] ∧ dflt prog 180 = .nilp ∧ zval prog 180 = some (.nilp) := by and_intros <;> kernel_rfl
theorem t181 : known prog 181 = true ∧ aggT prog 181 = true ∧ isIfaceT prog 181 = false ∧ eqAggT prog 181 = true ∧ arrT prog 181 = some (3, 3) ∧ placesT prog 181 = none ∧ sizeT prog 181 = some 3 ∧ bytesT prog 181 = some 24 ∧ zav prog 181 = some (List.replicate 3 (.int .i64 0)) ∧ zval prog 181 = some (.agg (List.replicate 3 (.int .i64 0))) := by and_intros <;> kernel_rfl
theorem t182 : known prog 182 = true ∧ aggT prog 182 = true ∧ isIfaceT prog 182 = false ∧ sizeT prog 182 = some 12 ∧ zav prog 182 = some ([.nils] ++ [.int .i64 0] ++ [.int .i64 0] ++ [.nils] ++ [.int .i64 0] ++ [.bool false] ++ [.bool false] ++ (List.replicate 3 (.int .i64 0)) ++ [.nilp] ++ [.int .i64 0]) ∧ zval prog 182 = some (.agg ([.nils] ++ [.int .i64 0] ++ [.int .i64 0] ++ [.nils] ++ [.int .i64 0] ++ [.bool false] ++ [.bool false] ++ (List.replicate 3 (.int .i64 0)) ++ [.nilp] ++ [.int .i64 0])) ∧ fieldT prog 182 0 = some (0, 22) ∧ fieldT prog 182 1 = some (1, 3) ∧ fieldT prog 182 2 = some (2, 3) ∧ fieldT prog 182 3 = some (3, 22) ∧ fieldT prog 182 4 = some (4, 3) ∧ fieldT prog 182 5 = some (5, 4) ∧ fieldT prog 182 6 = some (6, 4) ∧ fieldT prog 182 7 = some (7, 181) ∧ fieldT prog 182 8 = some (10, 59) ∧ fieldT prog 182 9 = some (11, 25) ∧ placesT prog 182 = some [(0, 1), (1, 1), (2, 1), (3, 1), (4, 1), (5, 1), (6, 1), (7, 3), (10, 1), (11, 1)] := by and_intros <;> kernel_rfl
theorem t183 : known prog 183 = true ∧ aggT prog 183 = true ∧ isIfaceT prog 183 = false ∧ sizeT prog 183 = some 12 ∧ zav prog 183 = some ([.nils] ++ [.int .i64 0] ++ [.int .i64 0] ++ [.nils] ++ [.int .i64 0] ++ [.bool false] ++ [.bool false] ++ (List.replicate 3 (.int .i64 0)) ++ [.nilp] ++ [.int .i64 0]) ∧ zval prog 183 = some (.agg ([.nils] ++ [.int .i64 0] ++ [.int .i64 0] ++ [.nils] ++ [.int .i64 0] ++ [.bool false] ++ [.bool false] ++ (List.replicate 3 (.int .i64 0)) ++ [.nilp] ++ [.int .i64 0])) ∧ fieldT prog 183 0 = some (0, 22) ∧ fieldT prog 183 1 = some (1, 3) ∧ fieldT prog 183 2 = some (2, 3) ∧ fieldT prog 183 3 = some (3, 22) ∧ fieldT prog 183 4 = some (4, 3) ∧ fieldT prog 183 5 = some (5, 4) ∧ fieldT prog 183 6 = some (6, 4) ∧ fieldT prog 183 7 = some (7, 181) ∧ fieldT prog 183 8 = some (10, 59) ∧ fieldT prog 183 9 = some (11, 25) ∧ placesT prog 183 = some [(0, 1), (1, 1), (2, 1), (3, 1), (4, 1), (5, 1), (6, 1), (7, 3), (10, 1), (11, 1)] := by and_intros <;> kernel_rfl
theorem t184 : known prog 184 = true ∧ aggT prog 184 = false ∧ isIfaceT prog 184 = false ∧ isPtrT prog 184 = true ∧ sizeT prog 184 = some 1 ∧ bytesT prog 184 = some 8 ∧ zav prog 184 = some [.nilp] ∧ dflt prog 184 = .nilp ∧ zval prog 184 = some (.nilp) := by and_intros <;> kernel_rfl
theorem t185 : known prog 185 = true ∧ aggT prog 185 = true ∧ isIfaceT prog 185 = false ∧ sizeT prog 185 = some 11 ∧ zav prog 185 = some [.nils, .int .i64 0, .int .i64 0, .nils, .int .i64 0, .bool false, .bool false, .int .i64 0, .int .i64 0, .int .i64 0, .nilp] ∧ zval prog 185 = some (.agg [.nils, .int .i64 0, .int .i64 0, .nils, .int .i64 0, .bool false, .bool false, .int .i64 0, .int .i64 0, .int .i64 0, .nilp]) ∧ fieldT prog 185 0 = some (0, 22) ∧ fieldT prog 185 1 = some (1, 3) ∧ fieldT prog 185 2 = some (2, 3) ∧ fieldT prog 185 3 = some (3, 22) ∧ fieldT prog 185 4 = some (4, 3) ∧ fieldT prog 185 5 = some (5, 4) ∧ fieldT prog 185 6 = some (6, 4) ∧ fieldT prog 185 7 = some (7, 3) ∧ fieldT prog 185 8 = some (8, 3) ∧ fieldT prog 185 9 = some (9, 3) ∧ fieldT prog 185 10 = some (10, 65) ∧ placesT prog 185 = some [(0, 1), (1, 1), (2, 1), (3, 1), (4, 1), (5, 1), (6, 1), (7, 1), (8, 1), (9, 1), (10, 1)] := by and_intros <;> kernel_rfl
theorem t186 : known prog 186 = true ∧ aggT prog 186 = true ∧ isIfaceT prog 186 = false ∧ sizeT prog 186 = some 11 ∧ zav prog 186 = some [.nils, .int .i64 0, .int .i64 0, .nils, .int .i64 0, .bool false, .bool false, .int .i64 0, .int .i64 0, .int .i64 0, .nilp] ∧ zval prog 186 = some (.agg [.nils, .int .i64 0, .int .i64 0, .nils, .int .i64 0, .bool false, .bool false, .int .i64 0, .int .i64 0, .int .i64 0, .nilp]) ∧ fieldT prog 186 0 = some (0, 22) ∧ fieldT prog 186 1 = some (1, 3) ∧ fieldT prog 186 2 = some (2, 3) ∧ fieldT prog 186 3 = some (3, 22) ∧ fieldT prog 186 4 = some (4, 3) ∧ fieldT prog 186 5 = some (5, 4) ∧ fieldT prog 186 6 = some (6, 4) ∧ fieldT prog 186 7 = some (7, 3) ∧ fieldT prog 186 8 = some (8, 3) ∧ fieldT prog 186 9 = some (9, 3) ∧ fieldT prog 186 10 = some (10, 65) ∧ placesT prog 186 = some [(0, 1), (1, 1), (2, 1), (3, 1), (4, 1), (5, 1), (6, 1), (7, 1), (8, 1), (9, 1), (10, 1)] := by and_intros <;> kernel_rfl
theorem t188 : known prog 188 = true ∧ aggT prog 188 = false ∧ isIfaceT prog 188 = false ∧ isPtrT prog 188 = true ∧ sizeT prog 188 = some 1 ∧ bytesT prog 188 = some 8 ∧ zav prog 188 = some [.nilp] ∧ dflt prog 188 = .nilp ∧ zval prog 188 = some (.nilp) := by and_intros <;> kernel_rfl
theorem t191 : known prog 191 = true ∧ aggT prog 191 = false ∧ isIfaceT prog 191 = false ∧ isPtrT prog 191 = true ∧ sizeT prog 191 = some 1 ∧ bytesT prog 191 = some 8 ∧ zav prog 191 = some [.nilp] ∧ dflt prog 191 = .nilp ∧ zval prog 191 = some (.nilp) := by and_intros <;> kernel_rfl
theorem t192 : known prog 192 = true ∧ aggT prog 192 = true ∧ isIfaceT prog 192 = false ∧ sizeT prog 192 = some 14 ∧ zav prog 192 = some [.int .i64 0, .int .i64 0, .int .i64 0, .int .i64 0, .int .i64 0, .int .i64 0, .int .i64 0, .nils, .int .u32 0, .nils, .nilp, .nilp, .bool false, .nils] ∧ zval prog 192 = some (.agg [.int .i64 0, .int .i64 0, .int .i64 0, .int .i64 0, .int .i64 0, .int .i64 0, .int .i64 0, .nils, .int .u32 0, .nils, .nilp, .nilp, .bool false, .nils]) ∧ fieldT prog 192 0 = some (0, 110) ∧ fieldT prog 192 1 = some (9, 22) ∧ fieldT prog 192 2 = some (10, 188) ∧ fieldT prog 192 3 = some (11, 59) ∧ fieldT prog 192 4 = some (12, 4) ∧ fieldT prog 192 5 = some (13, 22) ∧ placesT prog 192 = some [(0, 9), (9, 1), (10, 1), (11, 1), (12, 1), (13, 1)] := by and_intros <;> kernel_rfl
theorem t193 : known prog 193 = true ∧ aggT prog 193 = true ∧ isIfaceT prog 193 = false ∧ sizeT prog 193 = some 14 ∧ zav prog 193 = some [.int .i64 0, .int .i64 0, .int .i64 0, .int .i64 0, .int .i64 0, .int .i64 0, .int .i64 0, .nils, .int .u32 0, .nils, .nilp, .nilp, .bool false, .nils] ∧ zval prog 193 = some (.agg [.int .i64 0, .int .i64 0, .int .i64 0, .int .i64 0, .int .i64 0, .int .i64 0, .int .i64 0, .nils, .int .u32 0, .nils, .nilp, .nilp, .bool false, .nils]) ∧ fieldT prog 193 0 = some (0, 110) ∧ fieldT prog 193 1 = some (9, 22) ∧ fieldT prog 193 2 = some (10, 188) ∧ fieldT prog 193 3 = some (11, 59) ∧ fieldT prog 193 4 = some (12, 4) ∧ fieldT prog 193 5 = some (13, 22) ∧ placesT prog 193 = some [(0, 9), (9, 1), (10, 1), (11, 1), (12, 1), (13, 1)] := by and_intros <;> kernel_rfl
theorem t194 : known prog 194 = true ∧ aggT prog 194 = false ∧ isIfaceT prog 194 = false ∧ isFuncT prog 194 = true ∧ sizeT prog 194 = some 1 ∧ bytesT prog 194 = some 8 ∧ zav prog 194 = some [.nilf] ∧ dflt prog 194 = .nilf ∧ zval prog 194 = some (.nilf) := by and_intros <;> kernel_rfl
theorem t195 : known prog 195 = true ∧ aggT prog 195 = false ∧ isIfaceT prog 195 = false ∧ isFuncT prog 195 = true ∧ sizeT prog 195 = some 1 ∧ bytesT prog 195 = some 8 ∧ zav prog 195 = some [.nilf] ∧ dflt prog 195 = .nilf ∧ zval prog 195 = some (.nilf) := by and_intros <;> kernel_rfl
theorem t199 : known prog 199 = true ∧ aggT prog 199 = true ∧ isIfaceT prog 199 = false ∧ eqAggT prog 199 = true ∧ arrT prog 199 = some (32, 5) ∧ placesT prog 199 = none ∧ sizeT prog 199 = some 32 ∧ bytesT prog 199 = some 32 ∧ zav prog 199 = some (List.replicate 32 (.int .u8 0)) ∧ zval prog 199 = some (.agg (List.replicate 32 (.int .u8 0))) := by and_intros <;> kernel_rfl
theorem t203 : known prog 203 = true ∧ aggT prog 203 = false ∧ isIfaceT prog 203 = false ∧ elemT prog 203 = some 108 ∧ isStrT prog 203 = false ∧ intT prog 203 = none ∧ sizeT prog 203 = some 1 ∧ bytesT prog 203 = some 24 ∧ zav prog 203 = some [.nils] ∧ dflt prog 203 = .nils ∧ zval prog 203 = some (.nils) := by and_intros <;> kernel_rfl
theorem t208 : known prog 208 = true ∧ aggT prog 208 = false ∧ isIfaceT prog 208 = false ∧ isFuncT prog 208 = true ∧ sizeT prog 208 = some 1 ∧ bytesT prog 208 = some 8 ∧ zav prog 208 = some [.nilf] ∧ dflt prog 208 = .nilf ∧ zval prog 208 = some (.nilf) := by and_intros <;> kernel_rfl
theorem t209 : known prog 209 = true ∧ aggT prog 209 = false ∧ isIfaceT prog 209 = false ∧ isFuncT prog 209 = true ∧ sizeT prog 209 = some 1 ∧ bytesT prog 209 = some 8 ∧ zav prog 209 = some [.nilf] ∧ dflt prog 209 = .nilf ∧ zval prog 209 = some (.nilf) := by and_intros <;> kernel_rfl
theorem t220 : known prog 220 = true ∧ aggT prog 220 = false ∧ isIfaceT prog 220 = false ∧ isFuncT prog 220 = true ∧ sizeT prog 220 = some 1 ∧ bytesT prog 220 = some 8 ∧ zav prog 220 = some [.nilf] ∧ dflt prog 220 = .nilf ∧ zval prog 220 = some (.nilf) := by and_intros <;> kernel_rfl
theorem t228 : known prog 228 = true ∧ aggT prog 228 = false ∧ isIfaceT prog 228 = false ∧ mxT prog 228 = some (.b, 77) ∧ sizeT prog 228 = some 1 ∧ bytesT prog 228 = some 8 ∧ zav prog 228 = some [.nilm] ∧ dflt prog 228 = .nilm ∧ zval prog 228 = some (.nilm) := by and_intros <;> kernel_rfl
theorem t229 : known prog 229 = true ∧ aggT prog 229 = true ∧ isIfaceT prog 229 = false ∧ sizeT prog 229 = some 4 ∧ zav prog 229 = some [.nils, .int .i64 0, .int .i64 0, .nilm] ∧ zval prog 229 = some (.agg [.nils, .int .i64 0, .int .i64 0, .nilm]) ∧ fieldT prog 229 0 = some (0, 22) ∧ fieldT prog 229 1 = some (1, 3) ∧ fieldT prog 229 2 = some (2, 3) ∧ fieldT prog 229 3 = some (3, 228) ∧ placesT prog 229 = some [(0, 1), (1, 1), (2, 1), (3, 1)] := by and_intros <;> kernel_rfl
theorem t230 : known prog 230 = true ∧ aggT prog 230 = true ∧ isIfaceT prog 230 = false ∧ sizeT prog 230 = some 4 ∧ zav prog 230 = some [.nils, .int .i64 0, .int .i64 0, .nilm] ∧ zval prog 230 = some (.agg [.nils, .int .i64 0, .int .i64 0, .nilm]) ∧ fieldT prog 230 0 = some (0, 22) ∧ fieldT prog 230 1 = some (1, 3) ∧ fieldT prog 230 2 = some (2, 3) ∧ fieldT prog 230 3 = some (3, 228) ∧ placesT prog 230 = some [(0, 1), (1, 1), (2, 1), (3, 1)] := by and_intros <;> kernel_rfl
theorem t231 : known prog 231 = true ∧ aggT prog 231 = true ∧ isIfaceT prog 231 = false ∧ eqAggT prog 231 = true ∧ arrT prog 231 = some (2, 5) ∧ placesT prog 231 = none ∧ sizeT prog 231 = some 2 ∧ bytesT prog 231 = some 2 ∧ zav prog 231 = some (List.replicate 2 (.int .u8 0)) ∧ zval prog 231 = some (.agg (List.replicate 2 (.int .u8 0))) := by and_intros <;> kernel_rfl
theorem t232 : known prog 232 = true ∧ aggT prog 232 = true ∧ isIfaceT prog 232 = false ∧ eqAggT prog 232 = true ∧ arrT prog 232 = some (2, 5) ∧ placesT prog 232 = none ∧ sizeT prog 232 = some 2 ∧ bytesT prog 232 = some 2 ∧ zav prog 232 = some (List.replicate 2 (.int .u8 0)) ∧ zval prog 232 = some (.agg (List.replicate 2 (.int .u8 0))) := by and_intros <;> kernel_rfl
theorem t236 : known prog 236 = true ∧ aggT prog 236 = false ∧ isIfaceT prog 236 = false ∧ isPtrT prog 236 = true ∧ sizeT prog 236 = some 1 ∧ bytesT prog 236 = some 8 ∧ zav prog 236 = some [.nilp] ∧ dflt prog 236 = .nilp ∧ zval prog 236 = some (.nilp) := by and_intros <;> kernel_rfl
theorem t240 : known prog 240 = true ∧ aggT prog 240 = false ∧ isIfaceT prog 240 = false ∧ elemT prog 240 = some 116 ∧ isStrT prog 240 = false ∧ intT prog 240 = none ∧ sizeT prog 240 = some 1 ∧ bytesT prog 240 = some 24 ∧ zav prog 240 = some [.nils] ∧ dflt prog 240 = .nils ∧ zval prog 240 = some (.nils) := by and_intros <;> kernel_rfl
theorem t241 : known prog 241 = true ∧ aggT prog 241 = false ∧ isIfaceT prog 241 = false ∧ isFuncT prog 241 = true ∧ sizeT prog 241 = some 1 ∧ bytesT prog 241 = some 8 ∧ zav prog 241 = some [.nilf] ∧ dflt prog 241 = .nilf ∧ zval prog 241 = some (.nilf) := by and_intros <;> kernel_rfl
theorem t243 : known prog 243 = true ∧ aggT prog 243 = false ∧ isIfaceT prog 243 = false ∧ isFuncT prog 243 = true ∧ sizeT prog 243 = some 1 ∧ bytesT prog 243 = some 8 ∧ zav prog 243 = some [.nilf] ∧ dflt prog 243 = .nilf ∧ zval prog 243 = some (.nilf) := by and_intros <;> kernel_rfl
theorem t254 : known prog 254 = true ∧ aggT prog 254 = true ∧ isIfaceT prog 254 = false ∧ eqAggT prog 254 = true ∧ arrT prog 254 = some (256, 108) ∧ placesT prog 254 = none ∧ sizeT prog 254 = some 256 ∧ bytesT prog 254 = some 1024 ∧ zav prog 254 = some (List.replicate 256 (.int .u32 0)) ∧ zval prog 254 = some (.agg (List.replicate 256 (.int .u32 0))) := by and_intros <;> kernel_rfl
theorem t255 : known prog 255 = true ∧ aggT prog 255 = true ∧ isIfaceT prog 255 = false ∧ eqAggT prog 255 = true ∧ arrT prog 255 = some (4, 254) ∧ placesT prog 255 = none ∧ sizeT prog 255 = some 1024 ∧ bytesT prog 255 = some 4096 ∧ zav prog 255 = some ((List.replicate 4 (List.replicate 256 (.int .u32 0))).flatten) ∧ zval prog 255 = some (.agg ((List.replicate 4 (List.replicate 256 (.int .u32 0))).flatten)) := by and_intros <;> kernel_rfl
theorem t257 : known prog 257 = true ∧ aggT prog 257 = true ∧ isIfaceT prog 257 = false ∧ eqAggT prog 257 = true ∧ arrT prog 257 = some (256, 116) ∧ placesT prog 257 = none ∧ sizeT prog 257 = some 256 ∧ bytesT prog 257 = some 2048 ∧ zav prog 257 = some (List.replicate 256 (.int .u64 0)) ∧ zval prog 257 = some (.agg (List.replicate 256 (.int .u64 0))) := by and_intros <;> kernel_rfl
theorem t259 : known prog 259 = true ∧ aggT prog 259 = true ∧ isIfaceT prog 259 = false ∧ eqAggT prog 259 = true ∧ arrT prog 259 = some (8, 108) ∧ placesT prog 259 = none ∧ sizeT prog 259 = some 8 ∧ bytesT prog 259 = some 32 ∧ zav prog 259 = some (List.replicate 8 (.int .u32 0)) ∧ zval prog 259 = some (.agg (List.replicate 8 (.int .u32 0))) := by and_intros <;> kernel_rfl
theorem t261 : known prog 261 = true ∧ aggT prog 261 = true ∧ isIfaceT prog 261 = false ∧ sizeT prog 261 = some 10 ∧ zav prog 261 = some ((List.replicate 8 (.int .u32 0)) ++ [.nils] ++ [.int .u64 0]) ∧ zval prog 261 = some (.agg ((List.replicate 8 (.int .u32 0)) ++ [.nils] ++ [.int .u64 0])) ∧ fieldT prog 261 0 = some (0, 259) ∧ fieldT prog 261 1 = some (8, 22) ∧ fieldT prog 261 2 = some (9, 116) ∧ placesT prog 261 = some [(0, 8), (8, 1), (9, 1)] := by and_intros <;> kernel_rfl
theorem t262 : known prog 262 = true ∧ aggT prog 262 = true ∧ isIfaceT prog 262 = false ∧ sizeT prog 262 = some 10 ∧ zav prog 262 = some ((List.replicate 8 (.int .u32 0)) ++ [.nils] ++ [.int .u64 0]) ∧ zval prog 262 = some (.agg ((List.replicate 8 (.int .u32 0)) ++ [.nils] ++ [.int .u64 0])) ∧ fieldT prog 262 0 = some (0, 259) ∧ fieldT prog 262 1 = some (8, 22) ∧ fieldT prog 262 2 = some (9, 116) ∧ placesT prog 262 = some [(0, 8), (8, 1), (9, 1)] := by and_intros <;> kernel_rfl
theorem t265 : known prog 265 = true ∧ aggT prog 265 = false ∧ isIfaceT prog 265 = false ∧ isPtrT prog 265 = true ∧ sizeT prog 265 = some 1 ∧ bytesT prog 265 = some 8 ∧ zav prog 265 = some [.nilp] ∧ dflt prog 265 = .nilp ∧ zval prog 265 = some (.nilp) := by and_intros <;> kernel_rfl
theorem t266 : known prog 266 = true ∧ aggT prog 266 = true ∧ isIfaceT prog 266 = false ∧ sizeT prog 266 = some 5 ∧ zav prog 266 = some ([.nilp] ++ (List.replicate 4 (.int .i64 0))) ∧ zval prog 266 = some (.agg ([.nilp] ++ (List.replicate 4 (.int .i64 0)))) ∧ fieldT prog 266 0 = some (0, 188) ∧ fieldT prog 266 1 = some (1, 82) ∧ placesT prog 266 = some [(0, 1), (1, 4)] := by and_intros <;> kernel_rfl
theorem t267 : known prog 267 = true ∧ aggT prog 267 = true ∧ isIfaceT prog 267 = false ∧ sizeT prog 267 = some 5 ∧ zav prog 267 = some ([.nilp] ++ (List.replicate 4 (.int .i64 0))) ∧ zval prog 267 = some (.agg ([.nilp] ++ (List.replicate 4 (.int .i64 0)))) ∧ fieldT prog 267 0 = some (0, 188) ∧ fieldT prog 267 1 = some (1, 82) ∧ placesT prog 267 = some [(0, 1), (1, 4)] := by and_intros <;> kernel_rfl
theorem t271 : known prog 271 = true ∧ aggT prog 271 = true ∧ isIfaceT prog 271 = false ∧ eqAggT prog 271 = true ∧ arrT prog 271 = some (64, 108) ∧ placesT prog 271 = none ∧ sizeT prog 271 = some 64 ∧ bytesT prog 271 = some 256 ∧ zav prog 271 = some (List.replicate 64 (.int .u32 0)) ∧ zval prog 271 = some (.agg (List.replicate 64 (.int .u32 0))) := by and_intros <;> kernel_rfl
theorem t279 : known prog 279 = true ∧ aggT prog 279 = true ∧ isIfaceT prog 279 = false ∧ sizeT prog 279 = some 4 ∧ zav prog 279 = some [.nilp, .nilp, .nilp, .str ⟨#[]⟩] ∧ zval prog 279 = some (.agg [.nilp, .nilp, .nilp, .str ⟨#[]⟩]) ∧ fieldT prog 279 0 = some (0, 17) ∧ fieldT prog 279 1 = some (1, 17) ∧ fieldT prog 279 2 = some (2, 17) ∧ fieldT prog 279 3 = some (3, 9) ∧ placesT prog 279 = some [(0, 1), (1, 1), (2, 1), (3, 1)] := by and_intros <;> kernel_rfl
theorem t280 : known prog 280 = true ∧ aggT prog 280 = true ∧ isIfaceT prog 280 = false ∧ sizeT prog 280 = some 4 ∧ zav prog 280 = some [.nilp, .nilp, .nilp, .str ⟨#[]⟩] ∧ zval prog 280 = some (.agg [.nilp, .nilp, .nilp, .str ⟨#[]⟩]) ∧ fieldT prog 280 0 = some (0, 17) ∧ fieldT prog 280 1 = some (1, 17) ∧ fieldT prog 280 2 = some (2, 17) ∧ fieldT prog 280 3 = some (3, 9) ∧ placesT prog 280 = some [(0, 1), (1, 1), (2, 1), (3, 1)] := by and_intros <;> kernel_rfl
theorem t281 : known prog 281 = true ∧ aggT prog 281 = true ∧ isIfaceT prog 281 = false ∧ arrT prog 281 = some (0, 16) ∧ placesT prog 281 = none ∧ sizeT prog 281 = some 0 ∧ bytesT prog 281 = some 0 ∧ zav prog 281 = some (List.replicate 0 (.nilp)) ∧ zval prog 281 = some (.agg (List.replicate 0 (.nilp))) := by and_intros <;> kernel_rfl
theorem t282 : known prog 282 = true ∧ aggT prog 282 = true ∧ isIfaceT prog 282 = false ∧ sizeT prog 282 = some 0 ∧ zav prog 282 = some ((List.replicate 0 (.nilp))) ∧ zval prog 282 = some (.agg ((List.replicate 0 (.nilp)))) ∧ fieldT prog 282 0 = some (0, 281) ∧ placesT prog 282 = some [(0, 0)] := by and_intros <;> kernel_rfl
theorem t283 : known prog 283 = true ∧ aggT prog 283 = true ∧ isIfaceT prog 283 = false ∧ sizeT prog 283 = some 0 ∧ zav prog 283 = some ((List.replicate 0 (.nilp))) ∧ zval prog 283 = some (.agg ((List.replicate 0 (.nilp)))) ∧ fieldT prog 283 0 = some (0, 281) ∧ placesT prog 283 = some [(0, 0)] := by and_intros <;> kernel_rfl
theorem t284 : known prog 284 = true ∧ aggT prog 284 = false ∧ isIfaceT prog 284 = false ∧ intT prog 284 = some .u8 ∧ sizeT prog 284 = some 1 ∧ bytesT prog 284 = some 1 ∧ zav prog 284 = some [.int .u8 0] ∧ dflt prog 284 = .int .u8 0 ∧ zval prog 284 = some (.int .u8 0) := by and_intros <;> kernel_rfl
theorem t285 : known prog 285 = true ∧ aggT prog 285 = false ∧ isIfaceT prog 285 = false ∧ intT prog 285 = some .u8 ∧ sizeT prog 285 = some 1 ∧ bytesT prog 285 = some 1 ∧ zav prog 285 = some [.int .u8 0] ∧ dflt prog 285 = .int .u8 0 ∧ zval prog 285 = some (.int .u8 0) := by and_intros <;> kernel_rfl
theorem t286 : known prog 286 = true ∧ aggT prog 286 = false ∧ isIfaceT prog 286 = false ∧ isFuncT prog 286 = true ∧ sizeT prog 286 = some 1 ∧ bytesT prog 286 = some 8 ∧ zav prog 286 = some [.nilf] ∧ dflt prog 286 = .nilf ∧ zval prog 286 = some (.nilf) := by and_intros <;> kernel_rfl
theorem t287 : known prog 287 = true ∧ aggT prog 287 = false ∧ isIfaceT prog 287 = false ∧ isPtrT prog 287 = true ∧ sizeT prog 287 = some 1 ∧ bytesT prog 287 = some 8 ∧ zav prog 287 = some [.nilp] ∧ dflt prog 287 = .nilp ∧ zval prog 287 = some (.nilp) := by and_intros <;> kernel_rfl
theorem t288 : known prog 288 = true ∧ aggT prog 288 = false ∧ isIfaceT prog 288 = false ∧ intT prog 288 = some .i32 ∧ sizeT prog 288 = some 1 ∧ bytesT prog 288 = some 4 ∧ zav prog 288 = some [.int .i32 0] ∧ dflt prog 288 = .int .i32 0 ∧ zval prog 288 = some (.int .i32 0) := by and_intros <;> kernel_rfl
theorem t289 : known prog 289 = true ∧ aggT prog 289 = false ∧ isIfaceT prog 289 = false ∧ intT prog 289 = some .i32 ∧ sizeT prog 289 = some 1 ∧ bytesT prog 289 = some 4 ∧ zav prog 289 = some [.int .i32 0] ∧ dflt prog 289 = .int .i32 0 ∧ zval prog 289 = some (.int .i32 0) := by and_intros <;> kernel_rfl
theorem t290 : known prog 290 = true ∧ aggT prog 290 = true ∧ isIfaceT prog 290 = false ∧ sizeT prog 290 = some 11 ∧ zav prog 290 = some [.int .u64 0, .int .u64 0, .int .u32 0, .int .u8 0, .int .u8 0, .int .u8 0, .int .u8 0, .nilf, .nilp, .int .i32 0, .int .i32 0] ∧ zval prog 290 = some (.agg [.int .u64 0, .int .u64 0, .int .u32 0, .int .u8 0, .int .u8 0, .int .u8 0, .int .u8 0, .nilf, .nilp, .int .i32 0, .int .i32 0]) ∧ fieldT prog 290 0 = some (0, 12) ∧ fieldT prog 290 1 = some (1, 12) ∧ fieldT prog 290 2 = some (2, 108) ∧ fieldT prog 290 3 = some (3, 284) ∧ fieldT prog 290 4 = some (4, 5) ∧ fieldT prog 290 5 = some (5, 5) ∧ fieldT prog 290 6 = some (6, 285) ∧ fieldT prog 290 7 = some (7, 286) ∧ fieldT prog 290 8 = some (8, 287) ∧ fieldT prog 290 9 = some (9, 288) ∧ fieldT prog 290 10 = some (10, 289) ∧ placesT prog 290 = some [(0, 1), (1, 1), (2, 1), (3, 1), (4, 1), (5, 1), (6, 1), (7, 1), (8, 1), (9, 1), (10, 1)] := by and_intros <;> kernel_rfl
theorem t291 : known prog 291 = true ∧ aggT prog 291 = true ∧ isIfaceT prog 291 = false ∧ sizeT prog 291 = some 11 ∧ zav prog 291 = some [.int .u64 0, .int .u64 0, .int .u32 0, .int .u8 0, .int .u8 0, .int .u8 0, .int .u8 0, .nilf, .nilp, .int .i32 0, .int .i32 0] ∧ zval prog 291 = some (.agg [.int .u64 0, .int .u64 0, .int .u32 0, .int .u8 0, .int .u8 0, .int .u8 0, .int .u8 0, .nilf, .nilp, .int .i32 0, .int .i32 0]) ∧ fieldT prog 291 0 = some (0, 12) ∧ fieldT prog 291 1 = some (1, 12) ∧ fieldT prog 291 2 = some (2, 108) ∧ fieldT prog 291 3 = some (3, 284) ∧ fieldT prog 291 4 = some (4, 5) ∧ fieldT prog 291 5 = some (5, 5) ∧ fieldT prog 291 6 = some (6, 285) ∧ fieldT prog 291 7 = some (7, 286) ∧ fieldT prog 291 8 = some (8, 287) ∧ fieldT prog 291 9 = some (9, 288) ∧ fieldT prog 291 10 = some (10, 289) ∧ placesT prog 291 = some [(0, 1), (1, 1), (2, 1), (3, 1), (4, 1), (5, 1), (6, 1), (7, 1), (8, 1), (9, 1), (10, 1)] := by and_intros <;> kernel_rfl
theorem t293 : known prog 293 = true ∧ aggT prog 293 = true ∧ isIfaceT prog 293 = false ∧ eqAggT prog 293 = true ∧ sizeT prog 293 = some 2 ∧ zav prog 293 = some [.int .i64 0, .int .u32 0] ∧ zval prog 293 = some (.agg [.int .i64 0, .int .u32 0]) ∧ fieldT prog 293 0 = some (0, 3) ∧ fieldT prog 293 1 = some (1, 108) ∧ placesT prog 293 = some [(0, 1), (1, 1)] := by and_intros <;> kernel_rfl
theorem t294 : known prog 294 = true ∧ aggT prog 294 = true ∧ isIfaceT prog 294 = false ∧ eqAggT prog 294 = true ∧ sizeT prog 294 = some 2 ∧ zav prog 294 = some [.int .i64 0, .int .u32 0] ∧ zval prog 294 = some (.agg [.int .i64 0, .int .u32 0]) ∧ fieldT prog 294 0 = some (0, 3) ∧ fieldT prog 294 1 = some (1, 108) ∧ placesT prog 294 = some [(0, 1), (1, 1)] := by and_intros <;> kernel_rfl
theorem en3 : enters prog 3 = true := by kernel_rfl
theorem en4 : enters prog 4 = true := by kernel_rfl
theorem en5 : enters prog 5 = true := by kernel_rfl
theorem en6 : enters prog 6 = true := by kernel_rfl
theorem en7 : enters prog 7 = true := by kernel_rfl
theorem en8 : enters prog 8 = true := by kernel_rfl
theorem en9 : enters prog 9 = true := by kernel_rfl
theorem en10 : enters prog 10 = true := by kernel_rfl
theorem en11 : enters prog 11 = true := by kernel_rfl
theorem en12 : enters prog 12 = true := by kernel_rfl
theorem en13 : enters prog 13 = true := by kernel_rfl
theorem en14 : enters prog 14 = true := by kernel_rfl
theorem en15 : enters prog 15 = true := by kernel_rfl
theorem en16 : enters prog 16 = true := by kernel_rfl
theorem en17 : enters prog 17 = true := by kernel_rfl
theorem en18 : enters prog 18 = true := by kernel_rfl
theorem en19 : enters prog 19 = true := by kernel_rfl
theorem en20 : enters prog 20 = true := by kernel_rfl
theorem en21 : enters prog 21 = true := by kernel_rfl
theorem en22 : enters prog 22 = true := by kernel_rfl
theorem en23 : enters prog 23 = true := by kernel_rfl
theorem en24 : enters prog 24 = true := by kernel_rfl
theorem en25 : enters prog 25 = true := by kernel_rfl
theorem en26 : enters prog 26 = true := by kernel_rfl
theorem en27 : enters prog 27 = true := by kernel_rfl
theorem en28 : enters prog 28 = true := by kernel_rfl
theorem en29 : enters prog 29 = true := by kernel_rfl
theorem en30 : enters prog 30 = true := by kernel_rfl
theorem en31 : enters prog 31 = true := by kernel_rfl
theorem en32 : enters prog 32 = true := by kernel_rfl
theorem en33 : enters prog 33 = true := by kernel_rfl
theorem en34 : enters prog 34 = true := by kernel_rfl
theorem en35 : enters prog 35 = true := by kernel_rfl
theorem en36 : enters prog 36 = true := by kernel_rfl
theorem en37 : enters prog 37 = true := by kernel_rfl
theorem en38 : enters prog 38 = true := by kernel_rfl
theorem en39 : enters prog 39 = true := by kernel_rfl
theorem en40 : enters prog 40 = true := by kernel_rfl
theorem en41 : enters prog 41 = true := by kernel_rfl
theorem en42 : enters prog 42 = true := by kernel_rfl
theorem en43 : enters prog 43 = true := by kernel_rfl
theorem en44 : enters prog 44 = true := by kernel_rfl
theorem en45 : enters prog 45 = true := by kernel_rfl
theorem en46 : enters prog 46 = true := by kernel_rfl
theorem en47 : enters prog 47 = true := by kernel_rfl
theorem en48 : enters prog 48 = true := by kernel_rfl
theorem en49 : enters prog 49 = true := by kernel_rfl
theorem en50 : enters prog 50 = true := by kernel_rfl
theorem en51 : enters prog 51 = true := by kernel_rfl
theorem en52 : enters prog 52 = true := by kernel_rfl
theorem en53 : enters prog 53 = true := by kernel_rfl
theorem en54 : enters prog 54 = true := by kernel_rfl
theorem en55 : enters prog 55 = true := by kernel_rfl
theorem en56 : enters prog 56 = true := by kernel_rfl
theorem en57 : enters prog 57 = true := by kernel_rfl
theorem en58 : enters prog 58 = true := by kernel_rfl
theorem en59 : enters prog 59 = true := by kernel_rfl
theorem en60 : enters prog 60 = true := by kernel_rfl
theorem en61 : enters prog 61 = true := by kernel_rfl
theorem en62 : enters prog 62 = true := by kernel_rfl
theorem en63 : enters prog 63 = true := by kernel_rfl
theorem en64 : enters prog 64 = true := by kernel_rfl
theorem en65 : enters prog 65 = true := by kernel_rfl
theorem en66 : enters prog 66 = true := by kernel_rfl
theorem en67 : enters prog 67 = true := by kernel_rfl
theorem en68 : enters prog 68 = true := by kernel_rfl
theorem en69 : enters prog 69 = true := by kernel_rfl
theorem en70 : enters prog 70 = true := by kernel_rfl
theorem en71 : enters prog 71 = true := by kernel_rfl
theorem en72 : enters prog 72 = true := by kernel_rfl
theorem en73 : enters prog 73 = true := by kernel_rfl
theorem en74 : enters prog 74 = true := by kernel_rfl
theorem en75 : enters prog 75 = true := by kernel_rfl
theorem en76 : enters prog 76 = true := by kernel_rfl
theorem en77 : enters prog 77 = true := by kernel_rfl
theorem en78 : enters prog 78 = true := by kernel_rfl
theorem en79 : enters prog 79 = true := by kernel_rfl
theorem en80 : enters prog 80 = true := by kernel_rfl
theorem en81 : enters prog 81 = true := by kernel_rfl
theorem en82 : enters prog 82 = true := by kernel_rfl
theorem en83 : enters prog 83 = true := by kernel_rfl
theorem en84 : enters prog 84 = true := by kernel_rfl
theorem en85 : enters prog 85 = true := by kernel_rfl
theorem en86 : enters prog 86 = true := by kernel_rfl
theorem en87 : enters prog 87 = true := by kernel_rfl
theorem en88 : enters prog 88 = true := by kernel_rfl
theorem en89 : enters prog 89 = true := by kernel_rfl
theorem en90 : enters prog 90 = true := by kernel_rfl
theorem en91 : enters prog 91 = true := by kernel_rfl
theorem en92 : enters prog 92 = true := by kernel_rfl
theorem en93 : enters prog 93 = true := by kernel_rfl
theorem en94 : enters prog 94 = true := by kernel_rfl
theorem en95 : enters prog 95 = true := by kernel_rfl
theorem en96 : enters prog 96 = true := by kernel_rfl
theorem en97 : enters prog 97 = true := by kernel_rfl
theorem en98 : enters prog 98 = true := by kernel_rfl
theorem en99 : enters prog 99 = true := by kernel_rfl
theorem en100 : enters prog 100 = true := by kernel_rfl
theorem en101 : enters prog 101 = true := by kernel_rfl
theorem en102 : enters prog 102 = true := by kernel_rfl
theorem en103 : enters prog 103 = true := by kernel_rfl
theorem en104 : enters prog 104 = true := by kernel_rfl
theorem en105 : enters prog 105 = true := by kernel_rfl
theorem en106 : enters prog 106 = true := by kernel_rfl
theorem en107 : enters prog 107 = true := by kernel_rfl
theorem en108 : enters prog 108 = true := by kernel_rfl
theorem en109 : enters prog 109 = true := by kernel_rfl
theorem en110 : enters prog 110 = true := by kernel_rfl
theorem en111 : enters prog 111 = true := by kernel_rfl
theorem en112 : enters prog 112 = true := by kernel_rfl
theorem en113 : enters prog 113 = true := by kernel_rfl
theorem en114 : enters prog 114 = true := by kernel_rfl
theorem en115 : enters prog 115 = true := by kernel_rfl
theorem en116 : enters prog 116 = true := by kernel_rfl
theorem en117 : enters prog 117 = true := by kernel_rfl
theorem en118 : enters prog 118 = true := by kernel_rfl
theorem en119 : enters prog 119 = true := by kernel_rfl
theorem en120 : enters prog 120 = true := by kernel_rfl
theorem en121 : enters prog 121 = true := by kernel_rfl
theorem en122 : enters prog 122 = true := by kernel_rfl
theorem en123 : enters prog 123 = true := by kernel_rfl
theorem en124 : enters prog 124 = true := by kernel_rfl
theorem en125 : enters prog 125 = true := by kernel_rfl
theorem en126 : enters prog 126 = true := by kernel_rfl
theorem en127 : enters prog 127 = true := by kernel_rfl
theorem en128 : enters prog 128 = true := by kernel_rfl
theorem en129 : enters prog 129 = true := by kernel_rfl
theorem en130 : enters prog 130 = true := by kernel_rfl
theorem en131 : enters prog 131 = true := by kernel_rfl
theorem en132 : enters prog 132 = true := by kernel_rfl
theorem en133 : enters prog 133 = true := by kernel_rfl
theorem en134 : enters prog 134 = true := by kernel_rfl
theorem en135 : enters prog 135 = true := by kernel_rfl
theorem en136 : enters prog 136 = true := by kernel_rfl
theorem en137 : enters prog 137 = true := by kernel_rfl
theorem en138 : enters prog 138 = true := by kernel_rfl
theorem en139 : enters prog 139 = true := by kernel_rfl
theorem en140 : enters prog 140 = true := by kernel_rfl
theorem en141 : enters prog 141 = true := by kernel_rfl
theorem en142 : enters prog 142 = true := by kernel_rfl
theorem en143 : enters prog 143 = true := by kernel_rfl
theorem en144 : enters prog 144 = true := by kernel_rfl
theorem en145 : enters prog 145 = true := by kernel_rfl
theorem en146 : enters prog 146 = true := by kernel_rfl
theorem en147 : enters prog 147 = true := by kernel_rfl
theorem en148 : enters prog 148 = true := by kernel_rfl
theorem en149 : enters prog 149 = true := by kernel_rfl
theorem en150 : enters prog 150 = true := by kernel_rfl
theorem en151 : enters prog 151 = true := by kernel_rfl
theorem en152 : enters prog 152 = true := by kernel_rfl
theorem en153 : enters prog 153 = true := by kernel_rfl
theorem en154 : enters prog 154 = true := by kernel_rfl
theorem en155 : enters prog 155 = true := by kernel_rfl
theorem en156 : enters prog 156 = true := by kernel_rfl
theorem en157 : enters prog 157 = true := by kernel_rfl
theorem en158 : enters prog 158 = true := by kernel_rfl
theorem en159 : enters prog 159 = true := by kernel_rfl
theorem en160 : enters prog 160 = true := by kernel_rfl
theorem en161 : enters prog 161 = true := by kernel_rfl
theorem en162 : enters prog 162 = true := by kernel_rfl
theorem en163 : enters prog 163 = true := by kernel_rfl
theorem en164 : enters prog 164 = true := by kernel_rfl
theorem en165 : enters prog 165 = true := by kernel_rfl
theorem en166 : enters prog 166 = true := by kernel_rfl
theorem en167 : enters prog 167 = true := by kernel_rfl
theorem en168 : enters prog 168 = true := by kernel_rfl
theorem en169 : enters prog 169 = true := by kernel_rfl
theorem en170 : enters prog 170 = true := by kernel_rfl
theorem en171 : enters prog 171 = true := by kernel_rfl
theorem en172 : enters prog 172 = true := by kernel_rfl
theorem en173 : enters prog 173 = true := by kernel_rfl
theorem en174 : enters prog 174 = true := by kernel_rfl
theorem en175 : enters prog 175 = true := by kernel_rfl
theorem en176 : enters prog 176 = true := by kernel_rfl
theorem en177 : enters prog 177 = true := by kernel_rfl
theorem en178 : enters prog 178 = true := by kernel_rfl
theorem en179 : enters prog 179 = true := by kernel_rfl
theorem en180 : enters prog 180 = true := by kernel_rfl
theorem en181 : enters prog 181 = true := by kernel_rfl
theorem en182 : enters prog 182 = true := by kernel_rfl
theorem en183 : enters prog 183 = true := by kernel_rfl
theorem en184 : enters prog 184 = true := by kernel_rfl
theorem en185 : enters prog 185 = true := by kernel_rfl
theorem en186 : enters prog 186 = true := by kernel_rfl
theorem en187 : enters prog 187 = true := by kernel_rfl
theorem en188 : enters prog 188 = true := by kernel_rfl
theorem en189 : enters prog 189 = true := by kernel_rfl
theorem en190 : enters prog 190 = true := by kernel_rfl
theorem en191 : enters prog 191 = true := by kernel_rfl
theorem en192 : enters prog 192 = true := by kernel_rfl
theorem en193 : enters prog 193 = true := by kernel_rfl
theorem en194 : enters prog 194 = true := by kernel_rfl
theorem en195 : enters prog 195 = true := by kernel_rfl
theorem en196 : enters prog 196 = true := by kernel_rfl
theorem en197 : enters prog 197 = true := by kernel_rfl
theorem en198 : enters prog 198 = true := by kernel_rfl
theorem en199 : enters prog 199 = true := by kernel_rfl
theorem en200 : enters prog 200 = true := by kernel_rfl
theorem en201 : enters prog 201 = true := by kernel_rfl
theorem en202 : enters prog 202 = true := by kernel_rfl
theorem en203 : enters prog 203 = true := by kernel_rfl
theorem en204 : enters prog 204 = true := by kernel_rfl
theorem en205 : enters prog 205 = true := by kernel_rfl
theorem en206 : enters prog 206 = true := by kernel_rfl
theorem en207 : enters prog 207 = true := by kernel_rfl
theorem en208 : enters prog 208 = true := by kernel_rfl
theorem en209 : enters prog 209 = true := by kernel_rfl
theorem en210 : enters prog 210 = true := by kernel_rfl
theorem en211 : enters prog 211 = true := by kernel_rfl
theorem en212 : enters prog 212 = true := by kernel_rfl
theorem en213 : enters prog 213 = true := by kernel_rfl
theorem en214 : enters prog 214 = true := by kernel_rfl
theorem en215 : enters prog 215 = true := by kernel_rfl
theorem en216 : enters prog 216 = true := by kernel_rfl
theorem en217 : enters prog 217 = true := by kernel_rfl
theorem en218 : enters prog 218 = true := by kernel_rfl
theorem en219 : enters prog 219 = true := by kernel_rfl
theorem en235 : enters prog 235 = true := by kernel_rfl
theorem en236 : enters prog 236 = true := by kernel_rfl
theorem en237 : enters prog 237 = true := by kernel_rfl
theorem en238 : enters prog 238 = true := by kernel_rfl
theorem en239 : enters prog 239 = true := by kernel_rfl
theorem en240 : enters prog 240 = true := by kernel_rfl
theorem en241 : enters prog 241 = true := by kernel_rfl
theorem en242 : enters prog 242 = true := by kernel_rfl
theorem mixed : prog.follows .mixedOrders = true := by kernel_rfl
attribute [go_sem] t1 t2 t3 t4 t5 t6 t7 t8 t9 t10 t11 t12 t13 t14 t15 t16 t17 t20 t21 t22 t23 t25 t42 t44 t46 t49 t50 t58 t59 t63 t65 t67 t70 t71 t77 t78 t79 t80 t82 t85 t88 t93 t96 t97 t98 t107 t108 t109 t110 t116 t117 t118 t123 t125 t126 t127 t128 t129 t135 t136 t137 t138 t139 t140 t141 t142 t143 t144 t145 t146 t147 t148 t149 t150 t151 t153 t154 t155 t156 t157 t158 t163 t164 t165 t166 t167 t168 t170 t172 t174 t177 t178 t180 t181 t182 t183 t184 t185 t186 t188 t191 t192 t193 t194 t195 t199 t203 t208 t209 t220 t228 t229 t230 t231 t232 t236 t240 t241 t243 t254 t255 t257 t259 t261 t262 t265 t266 t267 t271 t279 t280 t281 t282 t283 t284 t285 t286 t287 t288 t289 t290 t291 t293 t294 en3 en4 en5 en6 en7 en8 en9 en10 en11 en12 en13 en14 en15 en16 en17 en18 en19 en20 en21 en22 en23 en24 en25 en26 en27 en28 en29 en30 en31 en32 en33 en34 en35 en36 en37 en38 en39 en40 en41 en42 en43 en44 en45 en46 en47 en48 en49 en50 en51 en52 en53 en54 en55 en56 en57 en58 en59 en60 en61 en62 en63 en64 en65 en66 en67 en68 en69 en70 en71 en72 en73 en74 en75 en76 en77 en78 en79 en80 en81 en82 en83 en84 en85 en86 en87 en88 en89 en90 en91 en92 en93 en94 en95 en96 en97 en98 en99 en100 en101 en102 en103 en104 en105 en106 en107 en108 en109 en110 en111 en112 en113 en114 en115 en116 en117 en118 en119 en120 en121 en122 en123 en124 en125 en126 en127 en128 en129 en130 en131 en132 en133 en134 en135 en136 en137 en138 en139 en140 en141 en142 en143 en144 en145 en146 en147 en148 en149 en150 en151 en152 en153 en154 en155 en156 en157 en158 en159 en160 en161 en162 en163 en164 en165 en166 en167 en168 en169 en170 en171 en172 en173 en174 en175 en176 en177 en178 en179 en180 en181 en182 en183 en184 en185 en186 en187 en188 en189 en190 en191 en192 en193 en194 en195 en196 en197 en198 en199 en200 en201 en202 en203 en204 en205 en206 en207 en208 en209 en210 en211 en212 en213 en214 en215 en216 en217 en218 en219 en235 en236 en237 en238 en239 en240 en241 en242
end Go.Proofs.Ytmdeoikpiiambaa.Fx
end
section
/- The engine, part 14: a law's arguments. Own work. -/
set_option linter.unusedVariables false
namespace Go.Eng
open Go Go.RowKit

/-- a slice of integers that came in: nil, or it leads to a row -/
def IsRow (k : IntKind) (w : World) (a : Option Addr) (len cap : Nat) (zs : List Int) : Prop :=
  (a = none ∧ len = 0 ∧ cap = 0 ∧ zs = []) ∨
  ∃ x, a = some x ∧ len ≤ cap ∧ cap ≤ maxLen ∧ zs.length = cap ∧ (∀ i, i < zs.length → w.cell? (x.add i) = some (.int k (zs.getD i 0))) ∧ ∀ n ∈ zs, (Lit.int k n).wf = true
theorem IsRow.len {k : IntKind} {w : World} {a : Option Addr} {len cap : Nat} {zs : List Int} (h : IsRow k w a len cap zs) : (zs.take len).length = len ∧ len ≤ cap ∧ len ≤ maxLen := by
  rcases h with ⟨_, rfl, rfl, rfl⟩ | ⟨x, _, h1, h2, h3, _⟩
  · exact ⟨rfl, Nat.le_refl _, Nat.zero_le _⟩
  · exact ⟨by simp; omega, h1, by omega⟩
theorem IsRow.den {k : IntKind} {w : World} {a : Option Addr} {len cap : Nat} {zs : List Int} (h : IsRow k w a len cap zs) (B : Names) : Den (fun a => w.cell? a) B (.ro len (ints k (zs.take len))) (.slice a len cap) := by
  obtain ⟨g1, g2, _⟩ := h.len
  refine ro_int g1 g2 fun hp => ?_
  rcases h with ⟨_, rfl, _⟩ | ⟨x, h1, h2, h3, h4, h5, _⟩
  · omega
  · refine ⟨x, h1, fun i hi => ?_⟩
    rw [h5 i (by omega)]
    congr 2
    simp [List.getD_eq_getElem?_getD, hi]
theorem IsRow.wf {k : IntKind} {w : World} {a : Option Addr} {len cap : Nat} {zs : List Int} (h : IsRow k w a len cap zs) : ∀ n ∈ zs.take len, (Lit.int k n).wf = true := by
  rcases h with ⟨_, rfl, _, rfl⟩ | ⟨x, _, _, _, _, _, h⟩
  · intro n hn; simp at hn
  · exact fun n hn => h n (List.mem_of_mem_take hn)
theorem wf_u8 {n : Int} (h : (Lit.int .u8 n).wf = true) : n = ((BitVec.ofInt 8 n).toNat : Int) := by
  simp [Lit.wf, IntKind.min, IntKind.max, IntKind.signed, IntKind.bits] at h
  rw [BitVec.toNat_ofInt]
  omega
theorem ints_bv8 {l : List Int} (h : ∀ n ∈ l, (Lit.int .u8 n).wf = true) : ints .u8 l = bvs .u8 (l.map (BitVec.ofInt 8)) := by
  simp only [ints, bvs, List.map_map]
  refine List.map_congr_left fun n hn => ?_
  simp only [Function.comp]
  rw [← wf_u8 (h n hn)]
theorem IsRow.bv8 {w : World} {a : Option Addr} {len cap : Nat} {zs : List Int} (h : IsRow .u8 w a len cap zs) (B : Names) :
    ∃ b : List (BitVec 8), b.length = len ∧ b.length ≤ maxLen ∧ Den (fun a => w.cell? a) B (.ro b.length (bvs .u8 b)) (.slice a len cap) := by
  refine ⟨(zs.take len).map (BitVec.ofInt 8), by simpa using h.len.1, by rw [List.length_map, h.len.1]; exact h.len.2.2, ?_⟩
  rw [← ints_bv8 h.wf, List.length_map, h.len.1]
  exact h.den B
theorem wf_u16 {n : Int} (h : (Lit.int .u16 n).wf = true) : n = ((BitVec.ofInt 16 n).toNat : Int) := by
  simp [Lit.wf, IntKind.min, IntKind.max, IntKind.signed, IntKind.bits] at h
  rw [BitVec.toNat_ofInt]
  omega
theorem ints_bv16 {l : List Int} (h : ∀ n ∈ l, (Lit.int .u16 n).wf = true) : ints .u16 l = bvs .u16 (l.map (BitVec.ofInt 16)) := by
  simp only [ints, bvs, List.map_map]
  refine List.map_congr_left fun n hn => ?_
  simp only [Function.comp]
  rw [← wf_u16 (h n hn)]
theorem IsRow.bv16 {w : World} {a : Option Addr} {len cap : Nat} {zs : List Int} (h : IsRow .u16 w a len cap zs) (B : Names) :
    ∃ b : List (BitVec 16), b.length = len ∧ b.length ≤ maxLen ∧ Den (fun a => w.cell? a) B (.ro b.length (bvs .u16 b)) (.slice a len cap) := by
  refine ⟨(zs.take len).map (BitVec.ofInt 16), by simpa using h.len.1, by rw [List.length_map, h.len.1]; exact h.len.2.2, ?_⟩
  rw [← ints_bv16 h.wf, List.length_map, h.len.1]
  exact h.den B
theorem wf_u32 {n : Int} (h : (Lit.int .u32 n).wf = true) : n = ((BitVec.ofInt 32 n).toNat : Int) := by
  simp [Lit.wf, IntKind.min, IntKind.max, IntKind.signed, IntKind.bits] at h
  rw [BitVec.toNat_ofInt]
  omega
theorem ints_bv32 {l : List Int} (h : ∀ n ∈ l, (Lit.int .u32 n).wf = true) : ints .u32 l = bvs .u32 (l.map (BitVec.ofInt 32)) := by
  simp only [ints, bvs, List.map_map]
  refine List.map_congr_left fun n hn => ?_
  simp only [Function.comp]
  rw [← wf_u32 (h n hn)]
theorem IsRow.bv32 {w : World} {a : Option Addr} {len cap : Nat} {zs : List Int} (h : IsRow .u32 w a len cap zs) (B : Names) :
    ∃ b : List (BitVec 32), b.length = len ∧ b.length ≤ maxLen ∧ Den (fun a => w.cell? a) B (.ro b.length (bvs .u32 b)) (.slice a len cap) := by
  refine ⟨(zs.take len).map (BitVec.ofInt 32), by simpa using h.len.1, by rw [List.length_map, h.len.1]; exact h.len.2.2, ?_⟩
  rw [← ints_bv32 h.wf, List.length_map, h.len.1]
  exact h.den B
theorem wf_u64 {n : Int} (h : (Lit.int .u64 n).wf = true) : n = ((BitVec.ofInt 64 n).toNat : Int) := by
  simp [Lit.wf, IntKind.min, IntKind.max, IntKind.signed, IntKind.bits] at h
  rw [BitVec.toNat_ofInt]
  omega
theorem ints_bv64 {l : List Int} (h : ∀ n ∈ l, (Lit.int .u64 n).wf = true) : ints .u64 l = bvs .u64 (l.map (BitVec.ofInt 64)) := by
  simp only [ints, bvs, List.map_map]
  refine List.map_congr_left fun n hn => ?_
  simp only [Function.comp]
  rw [← wf_u64 (h n hn)]
theorem IsRow.bv64 {w : World} {a : Option Addr} {len cap : Nat} {zs : List Int} (h : IsRow .u64 w a len cap zs) (B : Names) :
    ∃ b : List (BitVec 64), b.length = len ∧ b.length ≤ maxLen ∧ Den (fun a => w.cell? a) B (.ro b.length (bvs .u64 b)) (.slice a len cap) := by
  refine ⟨(zs.take len).map (BitVec.ofInt 64), by simpa using h.len.1, by rw [List.length_map, h.len.1]; exact h.len.2.2, ?_⟩
  rw [← ints_bv64 h.wf, List.length_map, h.len.1]
  exact h.den B
theorem wf_i64 {n : Int} (h : (Lit.int .i64 n).wf = true) : -9223372036854775808 ≤ n ∧ n < 9223372036854775808 := by
  simp [Lit.wf, IntKind.min, IntKind.max, IntKind.signed, IntKind.bits] at h
  omega
end Go.Eng
end
section
/- The engine, part 24: a law's arguments of any plain shape. Own work. -/
set_option linter.unusedVariables false
namespace Go.Eng
open Go Go.RowKit

/-- whatever reads as a value of the type is what 'f' tells of some 'a' -/
def Reads (P : Program) (W : World) (t : TypeId) {α : Type} (f : α → List AV) (ok : α → Prop) : Prop :=
  ∀ (H : Type) (enc : TypeId × Value → H) (base : Nat) (sp : Nat → Bool) (held : Bool) (fuel : Nat) (cs : List Value) (x : DataW H × List MemPlace),
    DataW.trod enc P W base sp held fuel t cs = some x → ∃ a, ok a ∧ ∀ B, DenL (fun a => W.cell? a) B (f a) cs
section
variable {P : Program} {W : World} {t e : TypeId}
theorem Reads.u8 (ht : P.underlying t = some (.int .u8)) : Reads P W t (fun b : BitVec 8 => [.int .u8 (b.toNat : Int)]) (fun _ => True) := by
  intro H enc base sp held fuel cs x h
  obtain ⟨n, rfl, _, hw⟩ := DataW.trod_int ht h
  exact ⟨BitVec.ofInt 8 n, trivial, fun B => by
    have e := wf_u8 hw
    simp only [DenL, Den]
    exact ⟨_, _, rfl, by rw [← e], rfl⟩⟩
theorem Reads.u16 (ht : P.underlying t = some (.int .u16)) : Reads P W t (fun b : BitVec 16 => [.int .u16 (b.toNat : Int)]) (fun _ => True) := by
  intro H enc base sp held fuel cs x h
  obtain ⟨n, rfl, _, hw⟩ := DataW.trod_int ht h
  exact ⟨BitVec.ofInt 16 n, trivial, fun B => by
    have e := wf_u16 hw
    simp only [DenL, Den]
    exact ⟨_, _, rfl, by rw [← e], rfl⟩⟩
theorem Reads.u32 (ht : P.underlying t = some (.int .u32)) : Reads P W t (fun b : BitVec 32 => [.int .u32 (b.toNat : Int)]) (fun _ => True) := by
  intro H enc base sp held fuel cs x h
  obtain ⟨n, rfl, _, hw⟩ := DataW.trod_int ht h
  exact ⟨BitVec.ofInt 32 n, trivial, fun B => by
    have e := wf_u32 hw
    simp only [DenL, Den]
    exact ⟨_, _, rfl, by rw [← e], rfl⟩⟩
theorem Reads.u64 (ht : P.underlying t = some (.int .u64)) : Reads P W t (fun b : BitVec 64 => [.int .u64 (b.toNat : Int)]) (fun _ => True) := by
  intro H enc base sp held fuel cs x h
  obtain ⟨n, rfl, _, hw⟩ := DataW.trod_int ht h
  exact ⟨BitVec.ofInt 64 n, trivial, fun B => by
    have e := wf_u64 hw
    simp only [DenL, Den]
    exact ⟨_, _, rfl, by rw [← e], rfl⟩⟩
theorem Reads.i64 (ht : P.underlying t = some (.int .i64)) : Reads P W t (fun n : Int => [.int .i64 n]) (fun n => -9223372036854775808 ≤ n ∧ n < 9223372036854775808) := by
  intro H enc base sp held fuel cs x h
  obtain ⟨n, rfl, _, hw⟩ := DataW.trod_int ht h
  exact ⟨n, wf_i64 hw, fun B => by simp [DenL, Den]⟩
theorem Reads.bool (ht : P.underlying t = some .bool) : Reads P W t (fun b : Bool => [.bool b]) (fun _ => True) := by
  intro H enc base sp held fuel cs x h
  obtain ⟨b, rfl, _⟩ := DataW.trod_bool ht h
  exact ⟨b, trivial, fun B => by simp [DenL, Den]⟩
theorem DenAt.app {H : RO} {B : Names} {A : Option Addr} : ∀ {l l' : List AV} {i : Nat}, DenAt H B A i l → DenAt H B A (i + l.length) l' → DenAt H B A i (l ++ l')
  | [], l', i, _, h => by simpa using h
  | x :: r, l', i, h, h' => by
    simp only [DenAt, List.cons_append] at h ⊢
    refine ⟨h.1, DenAt.app h.2 ?_⟩
    rw [List.length_cons] at h'
    rw [show i + 1 + r.length = i + (r.length + 1) by omega]
    exact h'
theorem Reads.build {α : Type} {f : α → List AV} {ok : α → Prop} (he : Reads P W e f ok) {H : Type} {enc : TypeId × Value → H} {base : Nat} {sp : Nat → Bool} {held : Bool} {m : Nat} (a : Addr) :
    ∀ (n o : Nat), (∀ i, i < n → ∃ y, (W.cells? base (a.add ((o + i) * P.cellsOf e)) (P.cellsOf e)).bind (DataW.trod enc P W base sp held m e) = some y) →
      ∃ L : List α, L.length = n ∧ (∀ z ∈ L, ok z) ∧ ∀ B, DenAt (fun a => W.cell? a) B (some a) (o * P.cellsOf e) (L.flatMap f)
  | 0, o, _ => ⟨[], rfl, (fun z hz => by cases hz), fun B => trivial⟩
  | n + 1, o, h => by
    obtain ⟨y, hy⟩ := h 0 (by omega)
    obtain ⟨cs, hcs, hy⟩ := Option.bind_eq_some_iff.1 hy
    obtain ⟨z, hz, hd⟩ := he _ _ _ _ _ _ _ _ hy
    obtain ⟨_, hl, hc⟩ := World.cells?_some hcs
    obtain ⟨L, hL, hok, hD⟩ := Reads.build he a n (o + 1) fun i hi => by
      have := h (i + 1) (by omega)
      rwa [show o + (i + 1) = o + 1 + i by omega] at this
    refine ⟨z :: L, by rw [List.length_cons, hL], fun z' hz' => ?_, fun B => ?_⟩
    · rcases List.mem_cons.1 hz' with rfl | h'
      · exact hz
      · exact hok _ h'
    · rw [List.flatMap_cons]
      have hfl : (f z).length = P.cellsOf e := by rw [← (hd B).length, hl]
      refine DenAt.app (DenAt.of_get fun j x hj => ?_) ?_
      · obtain ⟨v, hv, hdv⟩ := (hd B).get j x hj
        refine ⟨a, v, rfl, ?_, hdv⟩
        have hj' : j < P.cellsOf e := by rw [← hfl]; exact (List.getElem?_eq_some_iff.1 hj).1
        have := hc j hj'
        rw [Nat.add_zero, Addr.add_add] at this
        rw [← hv]; exact this
      · rw [hfl, show o * P.cellsOf e + P.cellsOf e = (o + 1) * P.cellsOf e by rw [Nat.add_mul, Nat.one_mul]]
        exact hD B
theorem Reads.slice {α : Type} {f : α → List AV} {ok : α → Prop} (ht : P.underlying t = some (.slice e)) (he : Reads P W e f ok) :
    Reads P W t (fun L : List α => [.ro L.length (L.flatMap f)]) (fun L => L.length ≤ maxLen ∧ ∀ z ∈ L, ok z) := by
  intro H enc base sp held fuel cs x h
  rcases DataW.trod_slice ht h with ⟨rfl, _⟩ | ⟨a, len, cap, elems, rest, n, _, rfl, _, _, hl, hm, hlen, hel, _⟩
  · refine ⟨[], ⟨Nat.zero_le _, (fun z hz => by cases hz)⟩, fun B => ?_⟩
    simp only [DenL]
    exact ⟨_, _, rfl, by simp only [Den]; exact ⟨none, 0, rfl, Nat.le_refl _, trivial⟩, rfl⟩
  · obtain ⟨L, hL, hok, hD⟩ := Reads.build he (H := H) (enc := enc) (base := base) (sp := sp) (held := held) (m := n) a len 0 fun i hi => by
      rw [Nat.zero_add, hel i hi, List.getElem?_eq_getElem (by omega)]
      exact ⟨_, rfl⟩
    refine ⟨L, ⟨by omega, hok⟩, fun B => ?_⟩
    simp only [DenL]
    refine ⟨_, _, rfl, ?_, rfl⟩
    simp only [Den]
    refine ⟨some a, cap, by rw [hL], by omega, ?_⟩
    have := hD B
    rwa [Nat.zero_mul] at this
theorem bvs_fm (k : IntKind) {w : Nat} (L : List (BitVec w)) : bvs k L = L.flatMap fun b => [AV.int k (b.toNat : Int)] := by
  induction L with
  | nil => rfl
  | cons x r ih => rw [bvs_cons, List.flatMap_cons, ih]; rfl
theorem Reads.sl8 (ht : P.underlying t = some (.slice e)) (he : P.underlying e = some (.int .u8)) : Reads P W t (fun L : List (BitVec 8) => [.ro L.length (bvs .u8 L)]) (fun L => L.length ≤ maxLen) := by
  intro H enc base sp held fuel cs x h
  obtain ⟨L, hL, hd⟩ := (Reads.slice (W := W) ht (Reads.u8 he)) H enc base sp held fuel cs x h
  refine ⟨L, hL.1, fun B => ?_⟩
  show DenL _ B [.ro L.length (bvs .u8 L)] cs
  rw [bvs_fm]
  exact hd B
theorem Reads.sl32 (ht : P.underlying t = some (.slice e)) (he : P.underlying e = some (.int .u32)) : Reads P W t (fun L : List (BitVec 32) => [.ro L.length (bvs .u32 L)]) (fun L => L.length ≤ maxLen) := by
  intro H enc base sp held fuel cs x h
  obtain ⟨L, hL, hd⟩ := (Reads.slice (W := W) ht (Reads.u32 he)) H enc base sp held fuel cs x h
  refine ⟨L, hL.1, fun B => ?_⟩
  show DenL _ B [.ro L.length (bvs .u32 L)] cs
  rw [bvs_fm]
  exact hd B
/-- a struct's fields, from a cell on -/
def ReadsF (P : Program) (W : World) (fs : List Field) (o e : Nat) {α : Type} (f : α → List AV) (ok : α → Prop) : Prop :=
  ∀ (H : Type) (enc : TypeId × Value → H) (base : Nat) (sp : Nat → Bool) (held : Bool) (n : Nat) (cs : List Value), cs.length = e →
    (∀ fd ∈ fs, ∃ y, DataW.trod enc P W base sp held n fd.type ((cs.drop fd.offset).take (P.cellsOf fd.type)) = some y) → ∃ a, ok a ∧ ∀ B, DenL (fun a => W.cell? a) B (f a) (cs.drop o)
theorem ReadsF.nil {o e : Nat} (h : o = e) : ReadsF P W [] o e (fun _ : Unit => []) (fun _ => True) := by
  intro H enc base sp held n cs hl _
  refine ⟨(), trivial, fun B => ?_⟩
  rw [List.drop_eq_nil_of_le (by omega)]
  rfl
theorem ReadsF.cons {o e o' : Nat} {fd : Field} {fs : List Field} {α β : Type} {f : α → List AV} {ok : α → Prop} {g : β → List AV} {ok' : β → Prop} (ho : fd.offset = o) (ho' : o + P.cellsOf fd.type = o')
    (h1 : Reads P W fd.type f ok) (h2 : ReadsF P W fs o' e g ok') : ReadsF P W (fd :: fs) o e (fun p : α × β => f p.1 ++ g p.2) (fun p => ok p.1 ∧ ok' p.2) := by
  intro H enc base sp held n cs hl hf
  obtain ⟨y, hy⟩ := hf fd (List.mem_cons_self ..)
  obtain ⟨a, ha, hda⟩ := h1 _ _ _ _ _ _ _ _ hy
  obtain ⟨b, hb, hdb⟩ := h2 H enc base sp held n cs hl fun fd' h => hf fd' (List.mem_cons_of_mem _ h)
  refine ⟨(a, b), ⟨ha, hb⟩, fun B => ?_⟩
  have : cs.drop o = (cs.drop fd.offset).take (P.cellsOf fd.type) ++ cs.drop o' := by
    rw [ho, ← ho', ← List.drop_drop, List.take_append_drop]
  rw [this]
  exact (hda B).append (hdb B)
theorem Reads.struct {α : Type} {f : α → List AV} {ok : α → Prop} {fs : Array Field} (ht : P.underlying t = some (.struct fs)) (h : ReadsF P W fs.toList 0 (P.cellsOf t) f ok) : Reads P W t f ok := by
  intro H enc base sp held fuel cs x hx
  obtain ⟨xs, n, _, _, hl, hxl, hf⟩ := DataW.trod_struct ht hx
  obtain ⟨a, ha, hd⟩ := h H enc base sp held n cs hl fun fd hfd => by
    obtain ⟨i, hi⟩ := List.getElem?_of_mem hfd
    have hi' : fs[i]? = some fd := by simpa using hi
    rw [hf i fd hi', List.getElem?_eq_getElem (by rw [hxl]; exact (Array.getElem?_eq_some_iff.1 hi').1)]
    exact ⟨_, rfl⟩
  exact ⟨a, ha, fun B => by simpa using hd B⟩
/-- an argument that is a slice -/
theorem Reads.argS {H : Type} {enc : TypeId × Value → H} {base : Nat} {sp : Nat → Bool} {held : Bool} {v : Value} {d : DataW H} {p : List MemPlace} {α : Type} {g : α → AV} {ok : α → Prop} (h : Reads P W t (fun a => [g a]) ok)
    (ht : P.underlying t = some (.slice e)) (hv : ∃ a len cap, v = .slice a len cap) (hd : DataW.Trod enc P W base sp held t v d p) : ∃ a, ok a ∧ ∀ B, Den (fun a => W.cell? a) B (g a) v := by
  obtain ⟨fuel, hf⟩ := hd
  obtain ⟨a, ha, hD⟩ := h _ _ _ _ _ _ _ _ hf
  refine ⟨a, ha, fun B => ?_⟩
  obtain ⟨x, len, cap, rfl⟩ := hv
  have := hD B
  simp only [DenL] at this
  obtain ⟨u, s, e1, h1, rfl⟩ := this
  have e2 : (Value.slice x len cap).cells.toList = [.slice x len cap] := by simp [Value.cells]
  rw [e2] at e1
  cases e1
  exact h1
/-- an argument that is a struct -/
theorem Reads.argT {H : Type} {enc : TypeId × Value → H} {base : Nat} {sp : Nat → Bool} {held : Bool} {v : Value} {d : DataW H} {p : List MemPlace} {α : Type} {f : α → List AV} {ok : α → Prop} (h : Reads P W t f ok)
    (hv : ∃ cs, v = .agg cs) (hd : DataW.Trod enc P W base sp held t v d p) : ∃ a, ok a ∧ ∀ B, Den (fun a => W.cell? a) B (.agg (f a)) v := by
  obtain ⟨fuel, hf⟩ := hd
  obtain ⟨a, ha, hD⟩ := h _ _ _ _ _ _ _ _ hf
  refine ⟨a, ha, fun B => ?_⟩
  obtain ⟨cs, rfl⟩ := hv
  simp only [Den]
  have := hD B
  refine ⟨cs.toList, by simp, ?_⟩
  have e2 : (Value.agg cs).cells.toList = cs.toList := by simp [Value.cells]
  rw [e2] at this
  exact this
end
end Go.Eng
end
section
/- The engine, part 35: the walk's equations, as the set that the kit's word go_sem names, for short texts. -/
namespace Go.Eng
open Go
/-! a load, by what is loaded from: a place that isn't known yet stays as it is -/
theorem loadx_ptr (P : Program) (rd : Nat → Bool) (m : Mem) (ty : TypeId) (n off : Nat) (k : AV → Prop) : loadx P rd m ty (.ptr n off) k = (match look m n with
    | some (.cells l _) => rd n = true ∧ known P ty = true ∧ pickx (aggT P ty) P ty l off k
    | some (.fz l _) => rd n = true ∧ known P ty = true ∧ pickx (aggT P ty) P ty l off k
    | _ => False) := rfl
theorem loadx_rop (P : Program) (rd : Nat → Bool) (m : Mem) (ty : TypeId) (xs : List AV) (k : AV → Prop) : loadx P rd m ty (.rop xs) k = (known P ty = true ∧ pickx (aggT P ty) P ty xs 0 k) := rfl
attribute [go_sem] binx_ifeql binx_ifneq isZ_two appq_true appq_false opx_invoke invx_iface Option.isSome_none renA renL renM renO evx evs evp Eng.look cst cst1 putd dstOk params loadx_ptr loadx_rop partx loI hiI bltx mmI boxx srcx calx nilx upd del resv fillA setMany if_true if_false ite_true ite_false eq_self forall_const implies_true ne_eq beq_self_eq_true bne_self_eq_false wrD engS0 engS1 engS2 engS3 engS4 engS5 engS6 engS7 engS8 engS9 engU0 engT0 engT1 engT2
end Go.Eng
end
section
/- The engine, part 38: an element of bytes, or of a row of plain elements, that lie somewhere. Own work. -/
set_option linter.unusedVariables false
set_option linter.unusedSimpArgs false
namespace Go.Eng
open Go
/-- an element of several cells -/
theorem slA_agg {P : Program} {t e : TypeId} {s : Nat} {m : Mem} {v : AV} {k : Nat} {L : List AV} {ns : List Nat} (h : SlA e s m v k L ns) (i : Nat) (hi : i < k) (hs : 0 < s) (he : elemT P t = some e) (hz : sizeT P e = some s) (hk : known P e = true) (ha : aggT P e = true) :
    ∃ p, (∀ q : AV → Prop, q p → idxx P t v (.int .i64 (i : Nat)) q) ∧ (∀ (rd : Nat → Bool) (q : AV → Prop), (∀ n ∈ ns, rd n = true) → q (.agg ((L.drop (i * s)).take s)) → loadx P rd m e p q) := by
  have hik : i * s + s ≤ k * s := by rw [← Nat.succ_mul]; exact Nat.mul_le_mul_right _ hi
  rcases h with ⟨rfl, rfl, _⟩ | ⟨rfl, hl, hf, rfl⟩ | ⟨n, off, cap, pre, sp, rfl, rfl, hn, rfl, hl, hf, h1, h2, h3, h4, h5⟩
  · cases hi
  · refine ⟨.rop (L.drop (i * s)), fun q hq => ?_, fun rd q _ hq => ?_⟩
    · rw [idxx_ro, he, Asks_some, hz, Asks_some]
      refine ⟨⟨by omega, by omega⟩, ?_, ?_⟩
      · show i * s < _; omega
      · exact hq
    · rw [loadx_rop, ha, pickx_true, hz, Asks_some]
      exact ⟨hk, by rw [List.length_drop]; omega, by rw [List.drop_zero]; exact hq⟩
  · refine ⟨.ptr n (pre.length + i * s), fun q hq => ?_, fun rd q hrd hq => ?_⟩
    · rw [idxx_sl, he, Asks_some, hz, Asks_some]
      exact ⟨⟨by omega, by omega⟩, hq⟩
    · rw [loadx_ptr, hn]
      show rd n = true ∧ known P e = true ∧ pickx (aggT P e) P e _ _ q
      rw [ha, pickx_true, hz, Asks_some]
      refine ⟨hrd n (.head _), hk, by rw [List.length_append, List.length_append]; omega, ?_⟩
      rw [show pre.length + i * s = pre.length + (i * s) from rfl, ← List.drop_drop, List.drop_left, List.drop_append_of_le_length (by omega), List.take_append_of_le_length (by rw [List.length_drop]; omega)]
      exact hq
/-- an element of one cell -/
theorem slA_one {P : Program} {t e : TypeId} {m : Mem} {v : AV} {k : Nat} {L : List AV} {ns : List Nat} (h : SlA e 1 m v k L ns) (i : Nat) (hi : i < k) (he : elemT P t = some e) (hz : sizeT P e = some 1) (hk : known P e = true) (ha : aggT P e = false) :
    ∃ p, (∀ q : AV → Prop, q p → idxx P t v (.int .i64 (i : Nat)) q) ∧ (∀ (rd : Nat → Bool) (q : AV → Prop), (∀ n ∈ ns, rd n = true) → q (L.getD i (dflt P e)) → loadx P rd m e p q) := by
  rcases h with ⟨rfl, rfl, _⟩ | ⟨rfl, hl, hf, rfl⟩ | ⟨n, off, cap, pre, sp, rfl, rfl, hn, rfl, hl, hf, h1, h2, h3, h4, h5⟩
  · cases hi
  · refine ⟨.rop (L.drop i), fun q hq => ?_, fun rd q _ hq => ?_⟩
    · rw [idxx_ro, he, Asks_some, hz, Asks_some]
      refine ⟨⟨by omega, by omega⟩, ?_, ?_⟩
      · show i * 1 < _; omega
      · show q (.rop (L.drop (i * 1))); rw [Nat.mul_one]; exact hq
    · rw [loadx_rop, ha, pickx_false]
      refine ⟨hk, by rw [List.length_drop]; omega, ?_⟩
      rw [List.getD_eq_getElem?_getD, List.getElem?_drop, Nat.add_zero, ← List.getD_eq_getElem?_getD]; exact hq
  · refine ⟨.ptr n (pre.length + i), fun q hq => ?_, fun rd q hrd hq => ?_⟩
    · rw [idxx_sl, he, Asks_some, hz, Asks_some]
      refine ⟨⟨by omega, by omega⟩, ?_⟩
      show q (.ptr n (pre.length + i * 1)); rw [Nat.mul_one]; exact hq
    · rw [loadx_ptr, hn]
      show rd n = true ∧ known P e = true ∧ pickx (aggT P e) P e _ _ q
      rw [ha, pickx_false]
      refine ⟨hrd n (.head _), hk, by rw [List.length_append, List.length_append]; omega, ?_⟩
      rw [List.getD_eq_getElem?_getD, List.getElem?_append_right (by omega), show pre.length + i - pre.length = i by omega, List.getElem?_append_left (by omega), ← List.getD_eq_getElem?_getD]
      exact hq
/-- bytes as such a row -/
theorem ByAt.slA {ty : TypeId} {m : Mem} {v : AV} {X : List (BitVec 8)} {ns : List Nat} (h : ByAt ty m v X ns) : SlA ty 1 m v X.length (bvs .u8 X) ns := by
  rcases h with ⟨rfl, rfl, rfl⟩ | ⟨rfl, rfl⟩ | ⟨n, off, cap, pre, sp, rfl, rfl, h3, rfl, h5, h6, h7, h8, h9⟩
  · exact .nil _ _ _
  · exact .ro _ _ (by rw [bvs_length, Nat.mul_one]) (bvs_flat .u8 X)
  · exact .inr (.inr ⟨n, pre.length, cap, pre, sp, rfl, rfl, h3, rfl, by rw [bvs_length, Nat.mul_one], bvs_flat .u8 X, h5, by rw [bvs_length]; omega, h7, h8, h9⟩)
theorem ByAt.idx {P : Program} {t : TypeId} {m : Mem} {v : AV} {X : List (BitVec 8)} {ns : List Nat} (h : ByAt 5 m v X ns) (i : Nat) (hi : i < X.length) (he : elemT P t = some 5) (hz : sizeT P 5 = some 1) (hk : known P 5 = true) (ha : aggT P 5 = false) (hd : dflt P 5 = .int .u8 0) :
    ∃ p, (∀ q : AV → Prop, q p → idxx P t v (.int .i64 (i : Nat)) q) ∧ (∀ (rd : Nat → Bool) (q : AV → Prop), (∀ n ∈ ns, rd n = true) → q (.int .u8 ((X.getD i 0).toNat : Int)) → loadx P rd m 5 p q) := by
  obtain ⟨p, h1, h2⟩ := slA_one h.slA i hi he hz hk ha
  refine ⟨p, h1, fun rd q hr hq => h2 rd q hr ?_⟩
  rw [hd, bvs_getD]
  exact hq
theorem look_upd_s {m : Mem} {n : Nat} {o : AObj} (h : (look m n).isSome = true) : look (upd m n o) n = some o := by
  obtain ⟨x, hx⟩ := Option.isSome_iff_exists.1 h
  exact look_upd_same o hx
theorem look_upd_o {m : Mem} {n k : Nat} {o : AObj} (h : (n == k) = false) : look (upd m n o) k = look m k := look_upd_other o (by simpa using h)
theorem Rdm.leN {wr : Nat → Bool} {m : Mem} {nx nf : Nat} (r : Rdm wr m nx) (h : nf ≤ nx) {t t' : Slots} (hs : slotsSame t t') : ∃ l, Le nf l wr t m nx t' m nx := Le.same h hs (memSame_slf r.nd) r.nd r.wn r.kp
end Go.Eng
end
section
/- Coding bits: numbers, states, what a bit makes of them; both coders agree; what was coded is read (no program in sight). BRIEF -/
set_option linter.unusedVariables false
set_option linter.unusedSimpArgs false
set_option maxRecDepth 100000
namespace Go.Proofs.Ytmdeoikpiiambaa
open Go Go.Eng
/-! Rea -/
/-- the number of bytes, the highest first -/
def num : List (BitVec 8) → Nat
  | [] => 0
  | q :: r => q.toNat * 256 ^ r.length + num r
theorem num_app (a : List (BitVec 8)) (b : List (BitVec 8)) : num (a ++ b) = num a * 256 ^ b.length + num b := by
  induction a with
  | nil => simp [num]
  | cons q r ih => rw [List.cons_append, num, num, ih, List.length_append, Nat.pow_add, Nat.add_mul, Nat.mul_assoc, Nat.add_assoc]
theorem num_lt : ∀ (a : List (BitVec 8)), num a < 256 ^ a.length
  | [] => by simp [num]
  | q :: r => by
    have h1 := num_lt r
    have hq := q.isLt
    have h2 : q.toNat * 256 ^ r.length ≤ 255 * 256 ^ r.length := Nat.mul_le_mul_right _ (by omega)
    rw [num, List.length_cons, Nat.pow_succ]
    omega
theorem num_inj : ∀ (a b : List (BitVec 8)), a.length = b.length → num a = num b → a = b
  | [], [], _, _ => rfl
  | [], _ :: _, h, _ => by cases h
  | _ :: _, [], h, _ => by cases h
  | p :: a, q :: b, h, e => by
    have hl : a.length = b.length := by simpa using h
    rw [num, num, hl] at e
    have h1 := num_lt a
    have h2 := num_lt b
    rw [hl] at h1
    have hP : 0 < 256 ^ b.length := Nat.pow_pos (by decide)
    have key : ∀ x y u v P : Nat, u < P → v < P → x * P + u = y * P + v → x = y ∧ u = v := by
      intro x y u v P hu hv e
      have hx : x = y := by
        rcases Nat.lt_trichotomy x y with g | g | g
        · have : (x + 1) * P ≤ y * P := Nat.mul_le_mul_right _ g
          rw [Nat.add_mul, Nat.one_mul] at this
          omega
        · exact g
        · have : (y + 1) * P ≤ x * P := Nat.mul_le_mul_right _ g
          rw [Nat.add_mul, Nat.one_mul] at this
          omega
      subst hx
      exact ⟨rfl, by omega⟩
    obtain ⟨e1, e2⟩ := key _ _ _ _ _ h1 h2 e
    rw [BitVec.eq_of_toNat_eq e1, num_inj a b hl e2]
theorem num_rep255 : ∀ n, num (List.replicate n 255#8) + 1 = 256 ^ n
  | 0 => rfl
  | n + 1 => by
    have h := num_rep255 n
    rw [List.replicate_succ, num, List.length_replicate, Nat.pow_succ, show (255#8).toNat = 255 from rfl]
    omega
theorem num_rep0 : ∀ n, num (List.replicate n 0#8) = 0
  | 0 => rfl
  | n + 1 => by rw [List.replicate_succ, num, num_rep0 n]; simp
/-- a coder: low, size, what is held back, the bytes of 255 behind it, what is out -/
structure ES where
  low : BitVec 64
  size : BitVec 32
  held : BitVec 8
  full : Nat
  out : List (BitVec 8)
def carry (e : ES) : BitVec 8 := (e.low >>> 32).setWidth 8
def lowN (low : BitVec 64) : BitVec 64 := (low &&& 16777215#64) <<< 8
def putS (e : ES) : ES :=
  if 0 < (carry e).toNat ∨ e.low.toNat < 4278190080 then ⟨lowN e.low, e.size, (e.low >>> 24).setWidth 8, 0, e.out ++ [e.held + carry e] ++ List.replicate e.full (255#8 + carry e)⟩
  else ⟨lowN e.low, e.size, e.held, e.full + 1, e.out⟩
/-- what is not out yet -/
def tailN (e : ES) : Nat := num (e.held :: List.replicate e.full 255#8)
def valN (e : ES) : Nat := num (e.out ++ e.held :: List.replicate e.full 255#8) * 4294967296 + e.low.toNat
def InvE (e : ES) (g : Nat) : Prop := tailN e * 4294967296 + e.low.toNat + g ≤ 256 ^ (e.full + 1) * 4294967296 ∧ e.low.toNat + g ≤ 8589934592 ∧ 1 ≤ g
theorem tailN_eq (e : ES) : tailN e + 1 = (e.held.toNat + 1) * 256 ^ e.full := by
  have := num_rep255 e.full
  rw [tailN, num, List.length_replicate, Nat.add_mul]
  omega
theorem valN_eq (e : ES) : valN e = (num e.out * 256 ^ (e.full + 1) + tailN e) * 4294967296 + e.low.toNat := by
  rw [valN, num_app, List.length_cons, List.length_replicate]; rfl
theorem lowN_nat (low : BitVec 64) : (lowN low).toNat = low.toNat % 16777216 * 256 := by
  have h : low.toNat &&& 16777215 = low.toNat % 2 ^ 24 := Nat.and_two_pow_sub_one_eq_mod low.toNat 24
  rw [lowN, BitVec.toNat_shiftLeft, BitVec.toNat_and, show (16777215#64).toNat = 16777215 from rfl, h, Nat.shiftLeft_eq]
  omega
theorem fac256 (X b g Y : Nat) (h : X * 16777216 + b + g ≤ Y * 16777216) : X * 4294967296 + b * 256 + 256 * g ≤ Y * 4294967296 := by
  have h2 := Nat.mul_le_mul_left 256 h
  have e1 : 256 * (X * 16777216 + b + g) = X * 4294967296 + b * 256 + 256 * g := by
    rw [Nat.mul_add, Nat.mul_add, Nat.mul_comm 256 (X * 16777216), Nat.mul_assoc, Nat.mul_comm 256 b]
  have e2 : 256 * (Y * 16777216) = Y * 4294967296 := by rw [Nat.mul_comm, Nat.mul_assoc]
  rw [e1, e2] at h2
  exact h2
theorem arith1 (a b g L : Nat) (hab : L = 16777216 * a + b) (hb : b < 16777216) (h2 : L + g ≤ 8589934592) (hg1 : 1 ≤ g) (hg : g < 16777216) (hd : 0 < a / 256 % 256 ∨ L < 4278190080) : a % 256 * 4294967296 + b * 256 + 256 * g ≤ 256 * 4294967296 := by
  refine fac256 _ _ _ _ ?_
  have ha : a < 512 := by omega
  rcases Nat.lt_or_ge a 256 with h | h
  · have e1 : a % 256 = a := Nat.mod_eq_of_lt h
    have e2 : a / 256 = 0 := Nat.div_eq_of_lt h
    rw [e2] at hd
    have hd : L < 4278190080 := hd.resolve_left (by decide)
    have h254 : a ≤ 254 := by omega
    rw [e1]
    omega
  · obtain ⟨r, rfl⟩ : ∃ r, a = 256 + r := ⟨a - 256, by omega⟩
    have e1 : (256 + r) % 256 = r := by omega
    rw [e1]
    omega
theorem arith2 (T a b g L Z : Nat) (hab : L = 16777216 * a + b) (ha : a = 255) (h1 : T * 4294967296 + L + g ≤ Z * 4294967296) : (256 * T + 255) * 4294967296 + b * 256 + 256 * g ≤ 256 * Z * 4294967296 := by
  refine fac256 _ _ _ _ ?_
  subst ha
  have e1 : (256 * T + 255) * 16777216 = T * 4294967296 + 16777216 * 255 := by rw [Nat.add_mul, Nat.mul_comm 256 T, Nat.mul_assoc]
  have e2 : 256 * Z * 16777216 = Z * 4294967296 := by rw [Nat.mul_comm 256 Z, Nat.mul_assoc]
  rw [e1, e2]
  rw [hab] at h1
  rw [Nat.add_assoc (T * 4294967296) (16777216 * 255) b]
  exact h1
theorem putS_inv (e : ES) (g : Nat) (h : InvE e g) (hg : g < 16777216) : InvE (putS e) (256 * g) ∧ valN (putS e) = 256 * valN e ∧ (putS e).out.length + (putS e).full = e.out.length + e.full + 1 ∧ (putS e).size = e.size := by
  obtain ⟨h1, h2, h3⟩ := h
  have hT := tailN_eq e
  have hV := valN_eq e
  have hh := e.held.isLt
  have hA : 0 < 256 ^ e.full := Nat.pow_pos (by decide)
  have hl := lowN_nat e.low
  have hc : (carry e).toNat = e.low.toNat / 4294967296 % 256 := by
    rw [carry, BitVec.toNat_setWidth, BitVec.toNat_ushiftRight, Nat.shiftRight_eq_div_pow]
  have hp : 256 ^ (e.full + 1) = 256 * 256 ^ e.full := by rw [Nat.pow_succ, Nat.mul_comm]
  have hb : ((e.low >>> 24).setWidth 8).toNat = e.low.toNat / 16777216 % 256 := by
    rw [BitVec.toNat_setWidth, BitVec.toNat_ushiftRight, Nat.shiftRight_eq_div_pow]
  obtain ⟨a, b, hab, hbq⟩ : ∃ a b, e.low.toNat = 16777216 * a + b ∧ b < 16777216 := ⟨_, _, (Nat.div_add_mod _ _).symm, Nat.mod_lt _ (by decide)⟩
  have d1 : e.low.toNat / 16777216 = a := by omega
  have d2 : e.low.toNat % 16777216 = b := by omega
  have d3 : e.low.toNat / 4294967296 = a / 256 := by rw [← d1, Nat.div_div_eq_div_mul]
  rw [d1] at hb
  rw [d2] at hl
  rw [d3] at hc
  rcases Decidable.em (0 < (carry e).toNat ∨ e.low.toNat < 4278190080) with hd | hd
  · have hP : putS e = ⟨lowN e.low, e.size, (e.low >>> 24).setWidth 8, 0, e.out ++ [e.held + carry e] ++ List.replicate e.full (255#8 + carry e)⟩ := by rw [putS, if_pos hd]
    have t1 : tailN (putS e) = a % 256 := by
      rw [hP, tailN]; show num [(e.low >>> 24).setWidth 8] = _; rw [num, num, List.length_nil, hb]; omega
    have v1 := valN_eq (putS e)
    have l1 : (putS e).low.toNat = b * 256 := by rw [hP]; exact hl
    have f1 : (putS e).full = 0 := by rw [hP]
    have o1 : (putS e).out.length = e.out.length + 1 + e.full := by rw [hP]; simp; omega
    have n1 : num (putS e).out = num e.out * 256 ^ (e.full + 1) + tailN e + a / 256 := by
      have ho : (putS e).out = e.out ++ ([e.held + carry e] ++ List.replicate e.full (255#8 + carry e)) := by rw [hP, List.append_assoc]
      rw [ho, num_app, List.length_append, List.length_replicate, List.length_singleton, Nat.add_comm 1 e.full]
      rcases Nat.lt_or_ge a 256 with hlo | hlo
      · have c0 : carry e = 0#8 := BitVec.eq_of_toNat_eq (by rw [hc]; show _ = 0; omega)
        have z : a / 256 = 0 := by omega
        rw [c0, z, BitVec.add_zero, BitVec.add_zero]
        rfl
      · have c1 : carry e = 1#8 := BitVec.eq_of_toNat_eq (by rw [hc]; show _ = 1; omega)
        have z : a / 256 = 1 := by omega
        have hx : tailN e + 1 < 256 * 256 ^ e.full := by omega
        rw [hT] at hx
        have hh2 : e.held.toNat + 1 < 256 := Nat.lt_of_mul_lt_mul_right hx
        have s1 : (e.held + 1#8).toNat = e.held.toNat + 1 := by rw [BitVec.toNat_add]; show (e.held.toNat + 1) % 256 = _; omega
        rw [c1, z, show (255#8 + 1#8) = 0#8 from rfl]
        show _ + num ((e.held + 1#8) :: List.replicate e.full 0#8) = _
        rw [num, num_rep0, List.length_replicate, s1]
        omega
    refine ⟨⟨?_, ?_, by omega⟩, ?_, by rw [o1, f1]; omega, by rw [hP]⟩
    · rw [t1, l1, f1]
      exact arith1 a b g _ hab hbq h2 h3 hg (by rw [← hc]; exact hd)
    · rw [l1]; omega
    · rw [v1, t1, l1, f1, n1, hV, hab]
      show (_ * 256 + _) * 4294967296 + _ = _
      generalize num e.out * 256 ^ (e.full + 1) + tailN e = X
      omega
  · have hP : putS e = ⟨lowN e.low, e.size, e.held, e.full + 1, e.out⟩ := by rw [putS, if_neg hd]
    have hlo : 4278190080 ≤ e.low.toNat ∧ e.low.toNat < 4294967296 := by
      have := hc
      omega
    have t1 : tailN (putS e) = 256 * tailN e + 255 := by
      have := tailN_eq (putS e)
      have f : (putS e).full = e.full + 1 := by rw [hP]
      have g : (putS e).held = e.held := by rw [hP]
      rw [f, g, hp, Nat.mul_left_comm, ← hT] at this
      omega
    have l1 : (putS e).low.toNat = b * 256 := by rw [hP]; exact hl
    have f1 : (putS e).full = e.full + 1 := by rw [hP]
    have o1 : (putS e).out = e.out := by rw [hP]
    have v1 := valN_eq (putS e)
    have hp2 : 256 ^ (e.full + 1 + 1) = 256 * 256 ^ (e.full + 1) := by rw [Nat.pow_succ 256 (e.full + 1), Nat.mul_comm]
    refine ⟨⟨?_, ?_, by omega⟩, ?_, by rw [o1, f1]; omega, by rw [hP]⟩
    · rw [t1, l1, f1, hp2]
      exact arith2 _ a b g _ _ hab (by omega) h1
    · rw [l1]; omega
    · have : a = 255 := by omega
      rw [v1, t1, l1, f1, o1, hp2, hV, Nat.mul_left_comm]
      generalize num e.out * 256 ^ (e.full + 1) = X
      omega
/-! Rda -/
def fairV (c : BitVec 16) : BitVec 16 := if c.toNat < 1 ∨ 2048 ≤ c.toNat then 1024#16 else c
theorem fairV_range (c : BitVec 16) : 1 ≤ (fairV c).toNat ∧ (fairV c).toNat ≤ 2047 := by
  unfold fairV
  split
  · exact ⟨by decide, by decide⟩
  · omega
def nx0 (p : BitVec 16) : BitVec 16 := p + (2048#16 - p) >>> 5
def nx1 (p : BitVec 16) : BitVec 16 := p - p >>> 5
theorem p64 (p : BitVec 16) : (BitVec.setWidth 64 p).toNat = p.toNat := by have := p.isLt; rw [BitVec.toNat_setWidth]; omega
theorem nx0_eq (p : BitVec 16) (h1 : 1 ≤ p.toNat) (h2 : p.toNat ≤ 2047) : (BitVec.setWidth 16 (BitVec.setWidth 64 p + (2048#64 - BitVec.setWidth 64 p) / 32#64)).toNat = (nx0 p).toNat := by
  have a1 : (2048#64 - BitVec.setWidth 64 p).toNat = 2048 - p.toNat := by
    rw [BitVec.toNat_sub, p64, show (2048#64).toNat = 2048 from rfl]; omega
  have a2 : ((2048#64 - BitVec.setWidth 64 p) / 32#64).toNat = (2048 - p.toNat) / 32 := by rw [BitVec.toNat_udiv, a1]; rfl
  have b1 : (2048#16 - p).toNat = 2048 - p.toNat := by
    rw [BitVec.toNat_sub, show (2048#16).toNat = 2048 from rfl]; omega
  have b2 : ((2048#16 - p) >>> 5).toNat = (2048 - p.toNat) / 32 := by rw [BitVec.toNat_ushiftRight, b1, Nat.shiftRight_eq_div_pow]
  unfold nx0
  rw [BitVec.toNat_setWidth, BitVec.toNat_add, BitVec.toNat_add, p64, a2, b2]
  omega
theorem nx1_eq (p : BitVec 16) (h1 : 1 ≤ p.toNat) (h2 : p.toNat ≤ 2047) : (BitVec.setWidth 16 (BitVec.setWidth 64 p - BitVec.setWidth 64 (p / 32#16))).toNat = (nx1 p).toNat := by
  have a1 : (BitVec.setWidth 64 (p / 32#16)).toNat = p.toNat / 32 := by rw [p64, BitVec.toNat_udiv]; rfl
  have b1 : (p >>> 5).toNat = p.toNat / 32 := by rw [BitVec.toNat_ushiftRight, Nat.shiftRight_eq_div_pow]
  unfold nx1
  rw [BitVec.toNat_setWidth, BitVec.toNat_sub, BitVec.toNat_sub, a1, b1, p64]
  omega
theorem bvsS_getD (k : IntKind) {w : Nat} (L : List (BitVec w)) (S : List AV) (i : Nat) (hi : i < L.length) : (bvs k L ++ S).getD i (.int k 0) = .int k ((L.getD i 0).toNat : Int) := by
  rw [← bvs_getD]
  simp only [List.getD_eq_getElem?_getD]
  rw [List.getElem?_append_left (by rw [bvs_length]; exact hi)]
def nxB (p : BitVec 16) (bit : Bool) : BitVec 16 := if bit then nx1 p else nx0 p
def bitI (bit : Bool) : Int := if bit then 1 else 0
/-- a reader: the place in the bytes behind the head, Code, Range, whether it is out -/
structure DS where
  k : Nat
  c : BitVec 32
  r : BitVec 32
  o : Bool
def scl (D : List (BitVec 8)) : Nat → DS → DS
  | 0, s => s
  | f + 1, s => if 16777216 ≤ s.r.toNat then s else if D.length ≤ s.k then ⟨s.k, s.c, s.r <<< 8, true⟩ else scl D f ⟨s.k + 1, s.c <<< 8 ||| (D.getD s.k 0).setWidth 32, s.r <<< 8, s.o⟩
theorem shl8 (r : BitVec 32) (h : r.toNat < 16777216) : (r <<< 8).toNat = r.toNat * 256 := by
  rw [BitVec.toNat_shiftLeft, Nat.shiftLeft_eq]; omega
theorem w64 (x : BitVec 32) : (BitVec.setWidth 64 x).toNat = x.toNat := by have := x.isLt; rw [BitVec.toNat_setWidth]; omega
theorem b64 (x : BitVec 8) : (BitVec.setWidth 64 x).toNat = x.toNat := by have := x.isLt; rw [BitVec.toNat_setWidth]; omega
theorem r256 (r : BitVec 32) (h : r.toNat < 16777216) : (BitVec.setWidth 64 r * 256#64).toNat = (r <<< 8).toNat := by
  rw [BitVec.toNat_mul, w64, shl8 r h, show (256#64).toNat = 256 from rfl]; omega
theorem or8 (c : BitVec 32) (q : BitVec 8) : (c <<< 8 ||| q.setWidth 32).toNat = (256 * c.toNat + q.toNat) % 4294967296 := by
  have hq := q.isLt
  have hc := c.isLt
  have e : c.toNat * 256 % 4294967296 = 2 ^ 8 * (c.toNat % 16777216) := by omega
  rw [BitVec.toNat_or, BitVec.toNat_shiftLeft, Nat.shiftLeft_eq, BitVec.toNat_setWidth, show (2 : Nat) ^ 32 = 4294967296 from rfl, show (2 : Nat) ^ 8 = 256 from rfl, e, Nat.mod_eq_of_lt (a := q.toNat) (by omega), ← Nat.two_pow_add_eq_or_of_lt (by omega : q.toNat < 2 ^ 8)]
  omega
theorem c256 (c : BitVec 32) (q : BitVec 8) : ((256#64 * BitVec.setWidth 64 c + BitVec.setWidth 64 q) % 4294967296#64).toNat = (c <<< 8 ||| q.setWidth 32).toNat := by
  have hq := q.isLt
  have hc := c.isLt
  rw [or8, BitVec.toNat_umod, BitVec.toNat_add, BitVec.toNat_mul, w64, b64, show (256#64).toNat = 256 from rfl, show (4294967296#64).toNat = 4294967296 from rfl]
  omega
/-! Rdb -/
def okS (D : List (BitVec 8)) (s : DS) : Prop := s.k ≤ D.length ∧ (s.o = false → 16777216 ≤ s.r.toNat)
theorem scl_ok (D : List (BitVec 8)) : ∀ (f : Nat) (s : DS), s.k ≤ D.length → 16777216 ≤ s.r.toNat * 256 ^ f → okS D (scl D f s)
  | 0, s, h1, h2 => ⟨h1, fun _ => by rw [Nat.pow_zero, Nat.mul_one] at h2; exact h2⟩
  | f + 1, s, h1, h2 => by
    rw [scl]
    split
    · exact ⟨h1, fun _ => by assumption⟩
    · split
      · exact ⟨h1, fun e => by cases e⟩
      · refine scl_ok D f _ (by show s.k + 1 ≤ _; omega) ?_
        show _ ≤ (s.r <<< 8).toNat * _
        rw [shl8 s.r (by omega), Nat.mul_assoc, show 256 * 256 ^ f = 256 ^ (f + 1) by rw [Nat.pow_succ, Nat.mul_comm]]
        exact h2
theorem scl_ok3 (D : List (BitVec 8)) (s : DS) (h1 : s.k ≤ D.length) (h2 : 1 ≤ s.r.toNat) : okS D (scl D 3 s) := scl_ok D 3 s h1 (by show _ ≤ _ * 16777216; omega)
def bnd (r : BitVec 32) (p : BitVec 16) : BitVec 32 := (r >>> 11) * p.setWidth 32
theorem bnd_nat (r : BitVec 32) (p : BitVec 16) (hp : p.toNat ≤ 2047) : (bnd r p).toNat = r.toNat / 2048 * p.toNat := by
  have hr := r.isLt
  have h1 : (r >>> 11).toNat = r.toNat / 2048 := by rw [BitVec.toNat_ushiftRight, Nat.shiftRight_eq_div_pow]
  have h2 : (p.setWidth 32).toNat = p.toNat := by rw [BitVec.toNat_setWidth]; omega
  have h3 : r.toNat / 2048 * p.toNat ≤ r.toNat / 2048 * 2047 := Nat.mul_le_mul_left _ hp
  rw [bnd, BitVec.toNat_mul, h1, h2]
  exact Nat.mod_eq_of_lt (by omega)
theorem bnd_range (r : BitVec 32) (p : BitVec 16) (h1 : 1 ≤ p.toNat) (hp : p.toNat ≤ 2047) (hr : 16777216 ≤ r.toNat) : 8192 ≤ (bnd r p).toNat ∧ (bnd r p).toNat + 8192 ≤ r.toNat := by
  have hn := bnd_nat r p hp
  have h2 : r.toNat / 2048 * p.toNat ≤ r.toNat / 2048 * 2047 := Nat.mul_le_mul_left _ hp
  have h3 : r.toNat / 2048 * 1 ≤ r.toNat / 2048 * p.toNat := Nat.mul_le_mul_left _ h1
  omega
theorem bnd64 (r : BitVec 32) (p : BitVec 16) (hp : p.toNat ≤ 2047) : (BitVec.setWidth 64 (r / 2048#32) * BitVec.setWidth 64 p).toNat = (bnd r p).toNat := by
  have hr := r.isLt
  have h1 : (r / 2048#32).toNat = r.toNat / 2048 := by rw [BitVec.toNat_udiv]; rfl
  have h3 : r.toNat / 2048 * p.toNat ≤ r.toNat / 2048 * 2047 := Nat.mul_le_mul_left _ hp
  rw [bnd_nat r p hp, BitVec.toNat_mul, w64, p64, h1]
  exact Nat.mod_eq_of_lt (by omega)
theorem sub64 (a b : BitVec 32) (h : b.toNat ≤ a.toNat) : (BitVec.setWidth 64 a - BitVec.setWidth 64 b).toNat = (a - b).toNat := by
  have ha := a.isLt
  have hb := b.isLt
  rw [BitVec.toNat_sub, BitVec.toNat_sub, w64, w64]; omega
theorem subN (a b : BitVec 32) (h : b.toNat ≤ a.toNat) : (a - b).toNat = a.toNat - b.toNat := by
  have ha := a.isLt
  rw [BitVec.toNat_sub]; omega
def bitS (D : List (BitVec 8)) (s : DS) (p : BitVec 16) : Bool × DS :=
  if s.o then (false, s) else if s.c.toNat < (bnd s.r p).toNat then (false, scl D 3 ⟨s.k, s.c, bnd s.r p, s.o⟩) else (true, scl D 3 ⟨s.k, s.c - bnd s.r p, s.r - bnd s.r p, s.o⟩)
theorem bitS_ok (D : List (BitVec 8)) (s : DS) (p : BitVec 16) (h1 : 1 ≤ p.toNat) (hp : p.toNat ≤ 2047) (hs : okS D s) : okS D (bitS D s p).2 := by
  obtain ⟨k1, k2⟩ := hs
  unfold bitS
  split
  · exact ⟨k1, k2⟩
  · have ho : s.o = false := by simpa using ‹¬ s.o = true›
    obtain ⟨g1, g2⟩ := bnd_range s.r p h1 hp (k2 ho)
    split
    · exact scl_ok3 D _ k1 (by show 1 ≤ (bnd s.r p).toNat; omega)
    · exact scl_ok3 D _ k1 (by show 1 ≤ (s.r - bnd s.r p).toNat; rw [subN _ _ (by omega)]; omega)
def doneS (D : List (BitVec 8)) (s : DS) : Bool := !s.o && decide (s.k = D.length) && (s.c == 0#32)
/-! Rdd -/
def plnStep (D : List (BitVec 8)) (x : DS × BitVec 32) : DS × BitVec 32 :=
  if x.1.o then x else if (x.1.r >>> 1).toNat ≤ x.1.c.toNat then (scl D 3 ⟨x.1.k, x.1.c - x.1.r >>> 1, x.1.r >>> 1, x.1.o⟩, x.2 <<< 1 ||| 1#32) else (scl D 3 ⟨x.1.k, x.1.c, x.1.r >>> 1, x.1.o⟩, x.2 <<< 1)
def plnD (D : List (BitVec 8)) (s : DS) : Nat → DS × BitVec 32
  | 0 => (s, 0#32)
  | j + 1 => plnStep D (plnD D s j)
def plnV (x : DS × BitVec 32) : BitVec 32 := if x.1.o then 0#32 else x.2
theorem pln_out {D : List (BitVec 8)} {s : DS} {j : Nat} (h : (plnD D s j).1.o = true) : ∀ d, plnD D s (j + d) = plnD D s j
  | 0 => rfl
  | d + 1 => by rw [← Nat.add_assoc, plnD, pln_out h d, plnStep, if_pos h]
theorem half_nat (r : BitVec 32) : (r >>> 1).toNat = r.toNat / 2 := by rw [BitVec.toNat_ushiftRight, Nat.shiftRight_eq_div_pow]
theorem plnStep_ok (D : List (BitVec 8)) (x : DS × BitVec 32) (h : okS D x.1) : okS D (plnStep D x).1 := by
  obtain ⟨k1, k2⟩ := h
  unfold plnStep
  split
  · exact ⟨k1, k2⟩
  · have ho : x.1.o = false := by simpa using ‹¬ x.1.o = true›
    have := k2 ho
    have := half_nat x.1.r
    split
    · exact scl_ok3 D _ k1 (by show 1 ≤ (x.1.r >>> 1).toNat; omega)
    · exact scl_ok3 D _ k1 (by show 1 ≤ (x.1.r >>> 1).toNat; omega)
theorem pln_ok (D : List (BitVec 8)) (s : DS) (h : okS D s) : ∀ j, okS D (plnD D s j).1
  | 0 => h
  | j + 1 => plnStep_ok D _ (pln_ok D s h j)
def nB (n : Int) : Nat := if n < 0 then 0 else if 32 < n then 32 else n.toNat
theorem nB_le (n : Int) : nB n ≤ 32 := by unfold nB; split <;> (try split) <;> omega
theorem half32 (r : BitVec 32) : r / 2#32 = r >>> 1 := by
  refine BitVec.eq_of_toNat_eq ?_
  rw [half_nat, BitVec.toNat_udiv]; rfl
theorem dbl32 (v : BitVec 32) : v * 2#32 = v <<< 1 := by
  refine BitVec.eq_of_toNat_eq ?_
  rw [BitVec.toNat_mul, BitVec.toNat_shiftLeft, Nat.shiftLeft_eq]; rfl
theorem odd32 (v : BitVec 32) : v <<< 1 + 1#32 = v <<< 1 ||| 1#32 := by
  have hv := v.isLt
  refine BitVec.eq_of_toNat_eq ?_
  have e : v.toNat * 2 % 4294967296 = 2 ^ 1 * (v.toNat % 2147483648) := by omega
  rw [BitVec.toNat_add, BitVec.toNat_or, BitVec.toNat_shiftLeft, Nat.shiftLeft_eq, show (1#32).toNat = 1 from rfl, show (2 : Nat) ^ 32 = 4294967296 from rfl, show v.toNat * 2 ^ 1 = v.toNat * 2 from rfl, e, ← Nat.two_pow_add_eq_or_of_lt (by decide : 1 < 2 ^ 1)]
  omega
/-! Rde -/
def code0 (b : List (BitVec 8)) : BitVec 32 := (((b.getD 1 0).setWidth 32 <<< 24 ||| (b.getD 2 0).setWidth 32 <<< 16) ||| (b.getD 3 0).setWidth 32 <<< 8) ||| (b.getD 4 0).setWidth 32
def start (b : List (BitVec 8)) : DS := ⟨0, code0 b, 4294967295#32, false⟩
def cdN (b : List (BitVec 8)) : Nat → BitVec 64
  | 0 => 0#64
  | j + 1 => 256#64 * cdN b j + (b.getD (j + 1) 0).setWidth 64
theorem cdN_code (b : List (BitVec 8)) : (cdN b 4).toNat = (code0 b).toNat := by
  have h1 := (b.getD 1 0).isLt
  have h2 := (b.getD 2 0).isLt
  have h3 := (b.getD 3 0).isLt
  have h4 := (b.getD 4 0).isLt
  have e : code0 b = ((((b.getD 1 0).setWidth 32 <<< 8 ||| (b.getD 2 0).setWidth 32) <<< 8 ||| (b.getD 3 0).setWidth 32) <<< 8 ||| (b.getD 4 0).setWidth 32) := by
    simp only [code0, BitVec.shiftLeft_or_distrib, ← BitVec.shiftLeft_add, Nat.reduceAdd]
  have w : ((b.getD 1 0).setWidth 32).toNat = (b.getD 1 0).toNat := by rw [BitVec.toNat_setWidth]; omega
  rw [e, or8, or8, or8, w]
  show (256#64 * (256#64 * (256#64 * (256#64 * 0#64 + (b.getD 1 0).setWidth 64) + (b.getD 2 0).setWidth 64) + (b.getD 3 0).setWidth 64) + (b.getD 4 0).setWidth 64).toNat = _
  simp only [BitVec.toNat_add, BitVec.toNat_mul, b64, show (256#64).toNat = 256 from rfl, show (0#64).toNat = 0 from rfl]
  omega
def newE (b : List (BitVec 8)) : Int := if b.length < 5 then 2 else if b.getD 0 0 ≠ 0#8 then 6 else 0
/-! Rdf -/
abbrev Ded := (Int) × (BitVec 16) × (Int) × (BitVec 32) × (Int) × Unit
def dedD : Ded := (0, 0#16, 0, 0#32, 0, ())
def stepD (D : List (BitVec 8)) (s : DS) (d : Ded) : DS := if d.1 = 0 then (bitS D s (fairV d.2.1)).2 else (plnD D s (nB d.2.2.2.2.1)).1
def runD (D : List (BitVec 8)) (s : DS) (L : List Ded) : Nat → DS
  | 0 => s
  | i + 1 => stepD D (runD D s L i) (L.getD i dedD)
theorem start_ok (b : List (BitVec 8)) : okS (b.drop 5) (start b) := ⟨Nat.zero_le _, fun _ => by show 16777216 ≤ (4294967295#32).toNat; decide⟩
/-! Red -/
def szE (e : ES) (r : BitVec 32) : ES := ⟨e.low, r, e.held, e.full, e.out⟩
def sclE : Nat → ES → ES
  | 0, e => e
  | f + 1, e => if 16777216 ≤ e.size.toNat then e else sclE f (putS (szE e (e.size <<< 8)))
theorem putS_len (e : ES) : (putS e).out.length + (putS e).full = e.out.length + e.full + 1 ∧ (putS e).size = e.size := by
  unfold putS
  split
  · simp; omega
  · simp; omega
theorem sclE_len : ∀ (f : Nat) (e : ES), (sclE f e).out.length + (sclE f e).full ≤ e.out.length + e.full + f
  | 0, e => Nat.le_refl _
  | f + 1, e => by
    rw [sclE]
    split
    · omega
    · have h1 := sclE_len f (putS (szE e (e.size <<< 8)))
      have h2 := (putS_len (szE e (e.size <<< 8))).1
      have h3 : (szE e (e.size <<< 8)).out = e.out := rfl
      have h4 : (szE e (e.size <<< 8)).full = e.full := rfl
      rw [h3, h4] at h2
      omega
/-! Ree -/
def bit1 (e : ES) (b : BitVec 32) (bit : Bool) : ES := if bit then ⟨e.low + b.setWidth 64, e.size - b, e.held, e.full, e.out⟩ else ⟨e.low, b, e.held, e.full, e.out⟩
def bitE (e : ES) (p : BitVec 16) (bit : Bool) : ES := sclE 3 (bit1 e (bnd e.size p) bit)
theorem bit1_out (e : ES) (b : BitVec 32) (bit : Bool) : (bit1 e b bit).out = e.out ∧ (bit1 e b bit).full = e.full := by cases bit <;> exact ⟨rfl, rfl⟩
def newS : ES := ⟨0#64, 4294967295#32, 0#8, 0, []⟩
/-! Reg -/
def putN' (e : ES) : Nat → ES
  | 0 => e
  | n + 1 => putS (putN' e n)
def bytE (e : ES) : List (BitVec 8) := (putN' e 5).out
theorem putN_len (e : ES) : ∀ n, (putN' e n).out.length + (putN' e n).full = e.out.length + e.full + n
  | 0 => rfl
  | n + 1 => by rw [putN', (putS_len _).1, putN_len e n]; omega
/-! Reh -/
theorem sclE_size : ∀ (f : Nat) (e : ES), 16777216 ≤ e.size.toNat * 256 ^ f → 16777216 ≤ (sclE f e).size.toNat
  | 0, e, h => by rw [Nat.pow_zero, Nat.mul_one] at h; exact h
  | f + 1, e, h => by
    rw [sclE]
    split
    · assumption
    · refine sclE_size f _ ?_
      rw [(putS_len _).2]
      show _ ≤ (e.size <<< 8).toNat * _
      rw [shl8 e.size (by omega), Nat.mul_assoc, show 256 * 256 ^ f = 256 ^ (f + 1) by rw [Nat.pow_succ, Nat.mul_comm]]
      exact h
theorem sclE_size3 (e : ES) (h : 1 ≤ e.size.toNat) : 16777216 ≤ (sclE 3 e).size.toNat := sclE_size 3 e (by show _ ≤ _ * 16777216; omega)
def pl1 (e : ES) (b : BitVec 32) : ES := ⟨e.low + ((e.size >>> 1) &&& -b).setWidth 64, e.size >>> 1, e.held, e.full, e.out⟩
def plB (v : BitVec 32) (n j : Nat) : BitVec 32 := (v >>> (n - 1 - j)) &&& 1#32
def plE (e : ES) (v : BitVec 32) (n : Nat) : Nat → ES
  | 0 => e
  | j + 1 => sclE 3 (pl1 (plE e v n j) (plB v n j))
def plO (v : BitVec 32) (n : Nat) : Nat → BitVec 32
  | 0 => 0#32
  | j + 1 => plO v n j <<< 1 ||| plB v n j
theorem plE_len (e : ES) (v : BitVec 32) (n : Nat) : ∀ j, (plE e v n j).out.length + (plE e v n j).full ≤ e.out.length + e.full + 3 * j
  | 0 => Nat.le_refl _
  | j + 1 => by
    have h1 := sclE_len 3 (pl1 (plE e v n j) (plB v n j))
    have h2 := plE_len e v n j
    have h3 : (pl1 (plE e v n j) (plB v n j)).out = (plE e v n j).out := rfl
    have h4 : (pl1 (plE e v n j) (plB v n j)).full = (plE e v n j).full := rfl
    rw [h3, h4] at h1
    rw [plE]; omega
theorem plE_size (e : ES) (v : BitVec 32) (n : Nat) (h : 16777216 ≤ e.size.toNat) : ∀ j, 16777216 ≤ (plE e v n j).size.toNat
  | 0 => h
  | j + 1 => by
    have := plE_size e v n h j
    have := half_nat (plE e v n j).size
    exact sclE_size3 _ (by show 1 ≤ ((plE e v n j).size >>> 1).toNat; omega)
/-! Reb -/
def wrS (e : ES) (q : BitVec 8) : ES := ⟨e.low, e.size, e.held, e.full, e.out ++ [q]⟩
/-! Rec -/
theorem carryE (e : ES) : BitVec.setWidth 8 (e.low >>> 32) = carry e := rfl
theorem lowE (e : ES) : (e.low &&& 16777215#64) <<< 8 = lowN e.low := rfl
/-- behind the byte that was held back, and some of 255 -/
def puI (e : ES) (i : Nat) : ES := ⟨e.low, e.size, e.held, e.full, e.out ++ [e.held + carry e] ++ List.replicate i (255#8 + carry e)⟩
theorem puI_0 (e : ES) : puI e 0 = ⟨e.low, e.size, e.held, e.full, e.out ++ [e.held + carry e]⟩ := by simp [puI]
theorem puI_succ (e : ES) (i : Nat) : wrS (puI e i) (255#8 + carry e) = puI e (i + 1) := by
  simp only [puI, wrS, List.append_assoc]
  rw [← List.replicate_succ']
theorem puI_len (e : ES) (i : Nat) : (puI e i).out.length = e.out.length + 1 + i := by simp [puI]; omega
/-! Rra -/
structure RS where
  low : List (BitVec 8)
  rng : BitVec 32
def addI (L : List (BitVec 8)) (n : Nat) : Nat → List (BitVec 8) × Nat
  | 0 => (L, n)
  | j + 1 => ((addI L n j).1.set (L.length - 1 - j) (BitVec.ofNat 8 ((addI L n j).2 + ((addI L n j).1.getD (L.length - 1 - j) 0).toNat)), ((addI L n j).2 + ((addI L n j).1.getD (L.length - 1 - j) 0).toNat) / 256)
def addB (L : List (BitVec 8)) (n : Nat) : List (BitVec 8) := (addI L n L.length).1
theorem addI_len (L : List (BitVec 8)) (n : Nat) : ∀ j, (addI L n j).1.length = L.length
  | 0 => rfl
  | j + 1 => by rw [addI, List.length_set, addI_len L n j]
theorem addB_len (L : List (BitVec 8)) (n : Nat) : (addB L n).length = L.length := addI_len L n _
theorem num_set : ∀ (M : List (BitVec 8)) (i : Nat) (q : BitVec 8), i < M.length → num (M.set i q) + (M.getD i 0).toNat * 256 ^ (M.length - 1 - i) = num M + q.toNat * 256 ^ (M.length - 1 - i)
  | [], i, q, h => by cases h
  | p :: r, 0, q, _ => by
    show num (q :: r) + p.toNat * 256 ^ (r.length + 1 - 1 - 0) = num (p :: r) + q.toNat * 256 ^ (r.length + 1 - 1 - 0)
    rw [num, num, show r.length + 1 - 1 - 0 = r.length by omega]
    omega
  | p :: r, i + 1, q, h => by
    have hi : i < r.length := by simpa using h
    have := num_set r i q hi
    show num (p :: r.set i q) + (r.getD i 0).toNat * 256 ^ (r.length + 1 - 1 - (i + 1)) = num (p :: r) + q.toNat * 256 ^ (r.length + 1 - 1 - (i + 1))
    rw [num, num, List.length_set, show r.length + 1 - 1 - (i + 1) = r.length - 1 - i by omega]
    omega
theorem addI_num (L : List (BitVec 8)) (n : Nat) : ∀ j, j ≤ L.length → num (addI L n j).1 + (addI L n j).2 * 256 ^ j = num L + n
  | 0, _ => by simp [addI]
  | j + 1, h => by
    have ih := addI_num L n j (by omega)
    have hl := addI_len L n j
    have hs := num_set (addI L n j).1 (L.length - 1 - j) (BitVec.ofNat 8 ((addI L n j).2 + ((addI L n j).1.getD (L.length - 1 - j) 0).toNat)) (by omega)
    rw [hl, show L.length - 1 - (L.length - 1 - j) = j by omega, BitVec.toNat_ofNat] at hs
    rw [addI]
    show num ((addI L n j).1.set _ _) + (_ / 256) * 256 ^ (j + 1) = _
    generalize (addI L n j).2 = c at *
    generalize ((addI L n j).1.getD (L.length - 1 - j) 0).toNat = q at *
    generalize num ((addI L n j).1.set (L.length - 1 - j) (BitVec.ofNat 8 (c + q))) = A at *
    have hd : (c + q) % 2 ^ 8 + 256 * ((c + q) / 256) = c + q := Nat.mod_add_div (c + q) 256
    have hm := congrArg (· * 256 ^ j) hd
    simp only [Nat.add_mul] at hm
    rw [Nat.pow_succ, show (c + q) / 256 * (256 ^ j * 256) = 256 * ((c + q) / 256) * 256 ^ j by rw [Nat.mul_comm (256 ^ j), ← Nat.mul_assoc, Nat.mul_comm ((c + q) / 256) 256]]
    omega
theorem addB_num (L : List (BitVec 8)) (n : Nat) (h : num L + n < 256 ^ L.length) : num (addB L n) = num L + n := by
  have := addI_num L n L.length (Nat.le_refl _)
  have h0 : (addI L n L.length).2 = 0 := by
    rcases Nat.eq_zero_or_pos (addI L n L.length).2 with g | g
    · exact g
    · have : 1 * 256 ^ L.length ≤ (addI L n L.length).2 * 256 ^ L.length := Nat.mul_le_mul_right _ g
      omega
  rw [h0, Nat.zero_mul, Nat.add_zero] at this
  exact this
theorem bvsS_set (k : IntKind) {w : Nat} (L : List (BitVec w)) (S : List AV) (i : Nat) (hi : i < L.length) (x : BitVec w) : (bvs k L ++ S).set i (.int k (x.toNat : Int)) = bvs k (L.set i x) ++ S := by
  rw [List.set_append_left _ _ (by rw [bvs_length]; exact hi), bvs_set]
/-! Rrb -/
def rclE : Nat → RS → RS
  | 0, s => s
  | f + 1, s => if 16777216 ≤ s.rng.toNat then s else rclE f ⟨s.low ++ [0#8], s.rng <<< 8⟩
theorem rclE_len : ∀ (f : Nat) (s : RS), s.low.length ≤ (rclE f s).low.length ∧ (rclE f s).low.length ≤ s.low.length + f
  | 0, s => ⟨Nat.le_refl _, Nat.le_refl _⟩
  | f + 1, s => by
    rw [rclE]
    split
    · omega
    · have h := rclE_len f ⟨s.low ++ [0#8], s.rng <<< 8⟩
      simp only [List.length_append, List.length_singleton] at h
      omega
/-! Rrc -/
def rb1 (s : RS) (b : BitVec 32) (bit : Bool) : RS := if bit then ⟨addB s.low b.toNat, s.rng - b⟩ else ⟨s.low, b⟩
def rbitE (s : RS) (p : BitVec 16) (bit : Bool) : RS := rclE 3 (rb1 s (bnd s.rng p) bit)
theorem rb1_len (s : RS) (b : BitVec 32) (bit : Bool) : (rb1 s b bit).low.length = s.low.length := by
  cases bit
  · rfl
  · exact addB_len _ _
/-! Rrd -/
def rp1 (t : RS) (bit : Bool) : RS := ⟨if bit then addB t.low (t.rng >>> 1).toNat else t.low, t.rng >>> 1⟩
def rplE (s : RS) : Nat → BitVec 32 → RS
  | 0, v => s
  | n + 1, v => rclE 3 (rp1 (rplE s n (v / 2#32)) (decide (v % 2#32 = 1#32)))
theorem rp1_len (t : RS) (bit : Bool) : (rp1 t bit).low.length = t.low.length := by
  cases bit
  · rfl
  · exact addB_len _ _
theorem rclE_rng : ∀ (f : Nat) (e : RS), 16777216 ≤ e.rng.toNat * 256 ^ f → 16777216 ≤ (rclE f e).rng.toNat
  | 0, e, h => by rw [Nat.pow_zero, Nat.mul_one] at h; exact h
  | f + 1, e, h => by
    rw [rclE]
    split
    · assumption
    · refine rclE_rng f _ ?_
      show _ ≤ (e.rng <<< 8).toNat * _
      rw [shl8 e.rng (by omega), Nat.mul_assoc, show 256 * 256 ^ f = 256 ^ (f + 1) by rw [Nat.pow_succ, Nat.mul_comm]]
      exact h
theorem rclE_rng3 (e : RS) (h : 1 ≤ e.rng.toNat) : 16777216 ≤ (rclE 3 e).rng.toNat := rclE_rng 3 e (by show _ ≤ _ * 16777216; omega)
theorem rplE_len (s : RS) : ∀ (n : Nat) (v : BitVec 32), s.low.length ≤ (rplE s n v).low.length ∧ (rplE s n v).low.length ≤ s.low.length + 3 * n
  | 0, v => ⟨Nat.le_refl _, Nat.le_refl _⟩
  | n + 1, v => by
    have h1 := rclE_len 3 (rp1 (rplE s n (v / 2#32)) (decide (v % 2#32 = 1#32)))
    have h2 := rplE_len s n (v / 2#32)
    rw [rp1_len] at h1
    rw [rplE]; omega
theorem rplE_rng (s : RS) (h : 16777216 ≤ s.rng.toNat) : ∀ (n : Nat) (v : BitVec 32), 16777216 ≤ (rplE s n v).rng.toNat
  | 0, _ => h
  | n + 1, v => by
    have := rplE_rng s h n (v / 2#32)
    have := half_nat (rplE s n (v / 2#32)).rng
    exact rclE_rng3 _ (by show 1 ≤ ((rplE s n (v / 2#32)).rng >>> 1).toNat; omega)
/-! Rre -/
/-- the coder's state and the document's -/
structure RelW (e : ES) (s : RS) : Prop where
  val : valN e = num s.low
  len : s.low.length = e.out.length + e.full + 4
  sz : e.size = s.rng
  inv : InvE e e.size.toNat
  top : num s.low + s.rng.toNat ≤ 256 ^ s.low.length
def RelE (e : ES) (s : RS) : Prop := RelW e s ∧ 16777216 ≤ e.size.toNat
def newR : RS := ⟨[0#8, 0#8, 0#8, 0#8], 4294967295#32⟩
theorem newRel : RelE newS newR := ⟨⟨rfl, rfl, rfl, ⟨by decide, by decide, by decide⟩, by decide⟩, by decide⟩
theorem InvE.less {e : ES} {g g' : Nat} (h : InvE e g) (h1 : 1 ≤ g') (h2 : g' ≤ g) : InvE e g' := by
  obtain ⟨a, b, c⟩ := h
  exact ⟨by omega, by omega, h1⟩
/-- the state goes over to a part of its stretch -/
theorem RelW.part {e : ES} {s : RS} (h : RelW e s) (o g : BitVec 32) (h1 : 1 ≤ g.toNat) (h2 : o.toNat + g.toNat ≤ e.size.toNat) :
    RelW ⟨e.low + o.setWidth 64, g, e.held, e.full, e.out⟩ ⟨addB s.low o.toNat, g⟩ := by
  obtain ⟨v, l, z, ⟨i1, i2, i3⟩, t⟩ := h
  have hlow : (e.low + o.setWidth 64).toNat = e.low.toNat + o.toNat := by
    rw [BitVec.toNat_add, BitVec.toNat_setWidth]
    have := o.isLt
    omega
  rw [← z] at t
  have hn : num (addB s.low o.toNat) = num s.low + o.toNat := addB_num _ _ (by omega)
  refine ⟨?_, ?_, rfl, ⟨?_, ?_, h1⟩, ?_⟩
  · have a := valN_eq e
    have b := valN_eq ⟨e.low + o.setWidth 64, g, e.held, e.full, e.out⟩
    have c : tailN ⟨e.low + o.setWidth 64, g, e.held, e.full, e.out⟩ = tailN e := rfl
    rw [c] at b
    dsimp only at b
    rw [b, hn, ← v, a, hlow, Nat.add_assoc]
  · rw [addB_len]; exact l
  · show tailN e * _ + (e.low + o.setWidth 64).toNat + g.toNat ≤ _
    rw [hlow]
    show _ ≤ 256 ^ (e.full + 1) * _
    omega
  · show (e.low + o.setWidth 64).toNat + g.toNat ≤ _
    rw [hlow]; omega
  · rw [addB_len, hn]
    show _ + g.toNat ≤ _
    omega
theorem RelW.part0 {e : ES} {s : RS} (h : RelW e s) (g : BitVec 32) (h1 : 1 ≤ g.toNat) (h2 : g.toNat ≤ e.size.toNat) : RelW ⟨e.low, g, e.held, e.full, e.out⟩ ⟨s.low, g⟩ := by
  obtain ⟨v, l, z, i, t⟩ := h
  rw [← z] at t
  exact ⟨v, l, rfl, (show InvE e e.size.toNat from i).less h1 h2, by show num s.low + g.toNat ≤ 256 ^ s.low.length; omega⟩
theorem RelW.scale : ∀ (f : Nat) {e : ES} {s : RS}, RelW e s → RelW (sclE f e) (rclE f s)
  | 0, e, s, h => h
  | f + 1, e, s, h => by
    rw [sclE, rclE, ← h.sz]
    rcases Decidable.em (16777216 ≤ e.size.toNat) with hs | hs
    · rw [if_pos hs, if_pos hs]; exact h
    · rw [if_neg hs, if_neg hs]
      refine RelW.scale f ?_
      obtain ⟨v, l, z, i, t⟩ := h
      obtain ⟨p1, p2, p3, p4⟩ := putS_inv (szE e (e.size <<< 8)) e.size.toNat i (by omega)
      have hsh := shl8 e.size (by omega)
      have hz : (putS (szE e (e.size <<< 8))).size = e.size <<< 8 := p4
      have hv : valN (szE e (e.size <<< 8)) = valN e := rfl
      refine ⟨?_, ?_, hz, ?_, ?_⟩
      · rw [p2, hv, v, num_app, List.length_singleton, num, num]
        show _ = num s.low * 256 ^ 1 + (0 * _ + 0)
        omega
      · have : (putS (szE e (e.size <<< 8))).out.length + (putS (szE e (e.size <<< 8))).full = e.out.length + e.full + 1 := p3
        rw [List.length_append, List.length_singleton]; omega
      · rw [hz, hsh, Nat.mul_comm]; exact p1
      · rw [List.length_append, List.length_singleton, Nat.pow_succ, num_app, List.length_singleton, num, num]
        show num s.low * 256 ^ 1 + (0 * _ + 0) + (e.size <<< 8).toNat ≤ _
        rw [hsh]
        rw [← z] at t
        omega
theorem RelW.big {e : ES} {s : RS} (h : RelW e s) (h1 : 1 ≤ e.size.toNat) : RelE (sclE 3 e) (rclE 3 s) := ⟨h.scale 3, sclE_size3 e h1⟩
theorem RelE.bit {e : ES} {s : RS} (h : RelE e s) (p : BitVec 16) (h1 : 1 ≤ p.toNat) (h2 : p.toNat ≤ 2047) (bit : Bool) : RelE (bitE e p bit) (rbitE s p bit) := by
  obtain ⟨hw, hb⟩ := h
  obtain ⟨b1, b2⟩ := bnd_range e.size p h1 h2 hb
  rw [bitE, rbitE, ← hw.sz]
  cases bit with
  | false => exact (hw.part0 (bnd e.size p) (by omega) (by omega)).big (by show 1 ≤ (bnd e.size p).toNat; omega)
  | true =>
    have hs := subN e.size (bnd e.size p) (by omega)
    have := (hw.part (bnd e.size p) (e.size - bnd e.size p) (by omega) (by omega)).big (by show 1 ≤ (e.size - bnd e.size p).toNat; omega)
    rw [show rb1 s (bnd e.size p) true = ⟨addB s.low (bnd e.size p).toNat, e.size - bnd e.size p⟩ from by rw [hw.sz]; rfl]
    exact this
theorem RelE.plain {e : ES} {s : RS} (h : RelE e s) (b : BitVec 32) (q : Bool) (hb : b = if q then 1#32 else 0#32) : RelE (sclE 3 (pl1 e b)) (rclE 3 (rp1 s q)) := by
  obtain ⟨hw, hb'⟩ := h
  have hh := half_nat e.size
  cases q with
  | false =>
    have hb : b = 0#32 := hb
    subst hb
    have : pl1 e 0#32 = ⟨e.low, e.size >>> 1, e.held, e.full, e.out⟩ := by rw [pl1, show -(0#32) = 0#32 from rfl, BitVec.and_zero]; simp
    rw [this, rp1, ← hw.sz]
    exact (hw.part0 (e.size >>> 1) (by omega) (by omega)).big (by show 1 ≤ (e.size >>> 1).toNat; omega)
  | true =>
    have hb : b = 1#32 := hb
    subst hb
    have : pl1 e 1#32 = ⟨e.low + (e.size >>> 1).setWidth 64, e.size >>> 1, e.held, e.full, e.out⟩ := by rw [pl1, show -(1#32) = BitVec.allOnes 32 from rfl, BitVec.and_allOnes]
    rw [this, rp1, ← hw.sz]
    exact (hw.part (e.size >>> 1) (e.size >>> 1) (by omega) (by omega)).big (by show 1 ≤ (e.size >>> 1).toNat; omega)
theorem shr_nat (v : BitVec 32) (k : Nat) : (v >>> k).toNat = v.toNat / 2 ^ k := by rw [BitVec.toNat_ushiftRight, Nat.shiftRight_eq_div_pow]
theorem plB_nat (v : BitVec 32) (n j : Nat) : (plB v n j).toNat = v.toNat / 2 ^ (n - 1 - j) % 2 := by
  rw [plB, BitVec.toNat_and, shr_nat]
  exact Nat.and_two_pow_sub_one_eq_mod _ 1
theorem RelE.plains {e : ES} {s : RS} (h : RelE e s) (v : BitVec 32) (n : Nat) : ∀ j, j ≤ n → RelE (plE e v n j) (rplE s j (v >>> (n - j)))
  | 0, _ => h
  | j + 1, hj => by
    have ih := RelE.plains h v n j (by omega)
    have e1 : (v >>> (n - (j + 1))) / 2#32 = v >>> (n - j) := by
      refine BitVec.eq_of_toNat_eq ?_
      rw [BitVec.toNat_udiv, shr_nat, shr_nat, show n - j = n - (j + 1) + 1 by omega, Nat.pow_succ, ← Nat.div_div_eq_div_mul]
      rfl
    rw [plE, rplE, e1]
    refine ih.plain _ _ ?_
    have h2 := plB_nat v n j
    rw [show n - 1 - j = n - (j + 1) by omega] at h2
    have h3 : ((v >>> (n - (j + 1))) % 2#32).toNat = (plB v n j).toNat := by
      rw [BitVec.toNat_umod, shr_nat, h2]; rfl
    have h4 : (v >>> (n - (j + 1))) % 2#32 = plB v n j := BitVec.eq_of_toNat_eq h3
    rw [h4]
    have h5 : (plB v n j).toNat < 2 := by rw [h2]; omega
    rcases Nat.lt_or_ge (plB v n j).toNat 1 with g | g
    · have : plB v n j = 0#32 := BitVec.eq_of_toNat_eq (by show _ = 0; omega)
      rw [this]; rfl
    · have : plB v n j = 1#32 := BitVec.eq_of_toNat_eq (by show _ = 1; omega)
      rw [this]; rfl
theorem plO_nat (v : BitVec 32) (n : Nat) (hn : n ≤ 32) : ∀ j, j ≤ n → (plO v n j).toNat = v.toNat / 2 ^ (n - j) % 2 ^ j
  | 0, _ => by rw [plO, Nat.pow_zero, Nat.mod_one]; rfl
  | j + 1, hj => by
    have ih := plO_nat v n hn j (by omega)
    have hb := plB_nat v n j
    rw [show n - 1 - j = n - (j + 1) by omega] at hb
    have hlt : (plO v n j).toNat < 2 ^ j := by rw [ih]; exact Nat.mod_lt _ (Nat.pow_pos (by decide))
    have hp : 2 ^ j * 2 ≤ 2 ^ 32 := by rw [← Nat.pow_succ]; exact Nat.pow_le_pow_right (by decide) (by omega)
    have hb1 : (plB v n j).toNat < 2 ^ 1 := by rw [hb]; exact Nat.mod_lt _ (by decide)
    have e : (plO v n j <<< 1).toNat = 2 ^ 1 * (plO v n j).toNat := by
      rw [BitVec.toNat_shiftLeft, Nat.shiftLeft_eq, Nat.mod_eq_of_lt (by omega)]; omega
    rw [plO, BitVec.toNat_or, e, ← Nat.two_pow_add_eq_or_of_lt hb1, hb, ih]
    have hd : v.toNat / 2 ^ (n - j) = v.toNat / 2 ^ (n - (j + 1)) / 2 := by
      rw [Nat.div_div_eq_div_mul, show n - j = n - (j + 1) + 1 by omega, Nat.pow_succ]
    rw [hd, show 2 ^ (j + 1) = 2 * 2 ^ j from by rw [Nat.pow_succ, Nat.mul_comm], Nat.mod_mul]
    omega
theorem plO_val (v : BitVec 32) (n : Nat) (hn : n ≤ 32) : (plO v n n).toNat = v.toNat % 2 ^ n := by
  rw [plO_nat v n hn n (Nat.le_refl _), Nat.sub_self, Nat.pow_zero, Nat.div_one]
theorem putN_inv {e : ES} (h : InvE e 1) : ∀ n, InvE (putN' e n) 1 ∧ valN (putN' e n) = 256 ^ n * valN e
  | 0 => ⟨h, by rw [Nat.pow_zero, Nat.one_mul]; rfl⟩
  | n + 1 => by
    obtain ⟨h1, h2⟩ := putN_inv h n
    obtain ⟨p1, p2, _⟩ := putS_inv (putN' e n) 1 h1 (by decide)
    refine ⟨p1.less (by decide) (by decide), ?_⟩
    rw [putN', p2, h2, Nat.pow_succ, Nat.mul_comm (256 ^ n) 256, Nat.mul_assoc]
theorem putS_low (e : ES) : (putS e).low.toNat = e.low.toNat % 16777216 * 256 := by
  rw [← lowN_nat, putS]
  split <;> rfl
theorem bytE_eq {e : ES} {s : RS} (h : RelW e s) (h1 : 1 ≤ e.size.toNat) : bytE e = 0#8 :: s.low := by
  have hi : InvE e 1 := h.inv.less (Nat.le_refl _) h1
  have l1 := putS_low (putN' e 0)
  have l2 := putS_low (putN' e 1)
  have l3 := putS_low (putN' e 2)
  have l4 := putS_low (putN' e 3)
  have l5 := putS_low (putN' e 4)
  change (putN' e 1).low.toNat = _ at l1
  change (putN' e 2).low.toNat = _ at l2
  change (putN' e 3).low.toNat = _ at l3
  change (putN' e 4).low.toNat = _ at l4
  change (putN' e 5).low.toNat = _ at l5
  have z4 : (putN' e 4).low.toNat = 0 := by omega
  have z4' : (putN' e 4).low = 0#64 := BitVec.eq_of_toNat_eq z4
  have hP : putN' e 5 = ⟨lowN (putN' e 4).low, (putN' e 4).size, ((putN' e 4).low >>> 24).setWidth 8, 0, (putN' e 4).out ++ [(putN' e 4).held + carry (putN' e 4)] ++ List.replicate (putN' e 4).full (255#8 + carry (putN' e 4))⟩ := by
    show putS (putN' e 4) = _
    rw [putS, if_pos (.inr (by rw [z4]; decide))]
  have f5 : (putN' e 5).full = 0 := by rw [hP]
  have k5 : (putN' e 5).held = 0#8 := by rw [hP, z4']; rfl
  have hlen := putN_len e 5
  rw [f5] at hlen
  obtain ⟨_, hv⟩ := putN_inv hi 5
  have ht : tailN (putN' e 5) = 0 := by rw [tailN, f5, k5]; rfl
  have hv5 := valN_eq (putN' e 5)
  rw [ht, f5, l5, z4, hv, h.val] at hv5
  refine num_inj _ _ ?_ ?_
  · show (putN' e 5).out.length = s.low.length + 1
    rw [h.len]; omega
  · show num (putN' e 5).out = num (0#8 :: s.low)
    rw [num]
    show _ = 0 * _ + _
    have e5 : (256 : Nat) ^ 5 = 1099511627776 := by decide
    rw [e5] at hv5
    omega
/-! Rrh -/
theorem bitE_len (e : ES) (p : BitVec 16) (b : Bool) : (bitE e p b).out.length + (bitE e p b).full ≤ e.out.length + e.full + 3 := by
  have h1 := sclE_len 3 (bit1 e (bnd e.size p) b)
  obtain ⟨h2, h3⟩ := bit1_out e (bnd e.size p) b
  rw [h2, h3] at h1
  exact h1
/-! Rri -/
/-- one deed, by both -/
def rcS (x : ES × RS) (d : Ded) : ES × RS :=
  if d.1 = 0 then (bitE x.1 (fairV d.2.1) (d.2.2.1 != 0), rbitE x.2 (fairV d.2.1) (d.2.2.1 != 0))
  else (plE x.1 d.2.2.2.1 (nB d.2.2.2.2.1) (nB d.2.2.2.2.1), rplE x.2 (nB d.2.2.2.2.1) d.2.2.2.1)
def runE (L : List Ded) : Nat → ES × RS
  | 0 => (newS, newR)
  | j + 1 => rcS (runE L j) (L.getD j dedD)
theorem rcS_ok (x : ES × RS) (d : Ded) (h : RelE x.1 x.2) : RelE (rcS x d).1 (rcS x d).2 ∧ (rcS x d).1.out.length + (rcS x d).1.full ≤ x.1.out.length + x.1.full + 96 := by
  obtain ⟨p1, p2⟩ := fairV_range d.2.1
  rcases Decidable.em (d.1 = 0) with h0 | h0
  · rw [rcS, if_pos h0]
    have := bitE_len x.1 (fairV d.2.1) (d.2.2.1 != 0)
    exact ⟨h.bit _ p1 p2 _, by dsimp only; omega⟩
  · rw [rcS, if_neg h0]
    have h1 := h.plains d.2.2.2.1 (nB d.2.2.2.2.1) (nB d.2.2.2.2.1) (Nat.le_refl _)
    have h2 := plE_len x.1 d.2.2.2.1 (nB d.2.2.2.2.1) (nB d.2.2.2.2.1)
    have h3 := nB_le d.2.2.2.2.1
    rw [Nat.sub_self, BitVec.ushiftRight_zero] at h1
    exact ⟨h1, by dsimp only; omega⟩
theorem rcE_ok (L : List Ded) : ∀ j, RelE (runE L j).1 (runE L j).2 ∧ (runE L j).1.out.length + (runE L j).1.full ≤ 96 * j
  | 0 => ⟨newRel, Nat.le_refl _⟩
  | j + 1 => by
    obtain ⟨h1, h2⟩ := rcE_ok L j
    obtain ⟨h3, h4⟩ := rcS_ok _ (L.getD j dedD) h1
    exact ⟨h3, by show (rcS (runE L j) (L.getD j dedD)).1.out.length + (rcS (runE L j) (L.getD j dedD)).1.full ≤ _; omega⟩
/-! Bka -/
/-- the final bytes lie in a state's stretch -/
structure InF (F : List (BitVec 8)) (s : RS) : Prop where
  len : s.low.length ≤ F.length
  lo : num s.low * 256 ^ (F.length - s.low.length) ≤ num F
  hi : num F < (num s.low + s.rng.toNat) * 256 ^ (F.length - s.low.length)
theorem num_split (F : List (BitVec 8)) (n : Nat) (h : n ≤ F.length) : num F = num (F.take n) * 256 ^ (F.length - n) + num (F.drop n) := by
  have := num_app (F.take n) (F.drop n)
  rw [List.take_append_drop, List.length_drop] at this
  exact this
theorem InF.code {F : List (BitVec 8)} {s : RS} (h : InF F s) : num s.low ≤ num (F.take s.low.length) ∧ num (F.take s.low.length) < num s.low + s.rng.toNat := by
  obtain ⟨hl, h1, h2⟩ := h
  have hd := num_lt (F.drop s.low.length)
  rw [List.length_drop] at hd
  rw [num_split F _ hl] at h1 h2
  generalize 256 ^ (F.length - s.low.length) = P at *
  generalize num (F.take s.low.length) = T at *
  generalize num (F.drop s.low.length) = d at *
  have hP : 0 < P := by omega
  constructor
  · rcases Nat.lt_or_ge T (num s.low) with g | g
    · have : (T + 1) * P ≤ num s.low * P := Nat.mul_le_mul_right _ g
      rw [Nat.add_mul, Nat.one_mul] at this
      omega
    · exact g
  · rcases Nat.lt_or_ge T (num s.low + s.rng.toNat) with g | g
    · exact g
    · have : (num s.low + s.rng.toNat) * P ≤ T * P := Nat.mul_le_mul_right _ g
      omega
theorem InF.back {F : List (BitVec 8)} : ∀ (f : Nat) {s : RS}, InF F (rclE f s) → InF F s
  | 0, s, h => h
  | f + 1, s, h => by
    rw [rclE] at h
    split at h
    · exact h
    · have h2 := InF.back f h
      obtain ⟨hl, h3, h4⟩ := h2
      have hs : (s.rng <<< 8).toNat = s.rng.toNat * 256 := shl8 s.rng (by omega)
      have hn : num (s.low ++ [0#8]) = num s.low * 256 := by rw [num_app]; show num s.low * 256 ^ 1 + (0 * _ + 0) = _; omega
      rw [List.length_append, List.length_singleton] at hl
      have hp : 256 * 256 ^ (F.length - (s.low.length + 1)) = 256 ^ (F.length - s.low.length) := by
        rw [← Nat.pow_succ', show (F.length - (s.low.length + 1)).succ = F.length - s.low.length by omega]
      dsimp only at h3 h4
      rw [List.length_append, List.length_singleton, hn, Nat.mul_assoc, hp] at h3
      rw [List.length_append, List.length_singleton, hn, hs, ← Nat.add_mul, Nat.mul_assoc, hp] at h4
      exact ⟨by omega, h3, h4⟩
theorem InF.whole {F low : List (BitVec 8)} {r g o : Nat} (hl : low.length ≤ F.length) (h3 : (num low + o) * 256 ^ (F.length - low.length) ≤ num F) (h4 : num F < (num low + o + g) * 256 ^ (F.length - low.length)) (h : o + g ≤ r) :
    num low * 256 ^ (F.length - low.length) ≤ num F ∧ num F < (num low + r) * 256 ^ (F.length - low.length) := by
  have a := Nat.mul_le_mul_right (256 ^ (F.length - low.length)) (show num low ≤ num low + o by omega)
  have b := Nat.mul_le_mul_right (256 ^ (F.length - low.length)) (show num low + o + g ≤ num low + r by omega)
  omega
theorem InF.part {F : List (BitVec 8)} {s : RS} {g : BitVec 32} {o : Nat} (ht : num s.low + o < 256 ^ s.low.length) (h : InF F ⟨addB s.low o, g⟩) (hog : o + g.toNat ≤ s.rng.toNat) : InF F s := by
  obtain ⟨hl, h3, h4⟩ := h
  dsimp only at hl h3 h4
  rw [addB_len, addB_num _ _ ht] at h3 h4
  rw [addB_len] at hl
  obtain ⟨a, b⟩ := InF.whole hl h3 h4 hog
  exact ⟨hl, a, b⟩
theorem InF.part0 {F : List (BitVec 8)} {s : RS} {g : BitVec 32} (h : InF F ⟨s.low, g⟩) (hog : g.toNat ≤ s.rng.toNat) : InF F s := by
  obtain ⟨hl, h3, h4⟩ := h
  dsimp only at hl h3 h4
  obtain ⟨a, b⟩ := InF.whole (low := s.low) (r := s.rng.toNat) (g := g.toNat) (o := 0) hl h3 h4 (by omega)
  exact ⟨hl, a, b⟩
/-- the reader's state, as the coder's state was -/
structure DR (F : List (BitVec 8)) (s : RS) (t : DS) : Prop where
  o : t.o = false
  k : t.k + 4 = s.low.length
  r : t.r = s.rng
  c : t.c.toNat + num s.low = num (F.take s.low.length)
def Agr (F D : List (BitVec 8)) : Prop := ∀ k, k + 4 < F.length → k < D.length ∧ D.getD k 0 = F.getD (k + 4) 0
theorem num_take (F : List (BitVec 8)) (n : Nat) (h : n < F.length) : num (F.take (n + 1)) = 256 * num (F.take n) + (F.getD n 0).toNat := by
  rw [List.take_succ_eq_append_getElem h, num_app, List.getD_eq_getElem?_getD, List.getElem?_eq_getElem h]
  show num (F.take n) * 256 ^ 1 + (F[n].toNat * 256 ^ 0 + 0) = _
  simp only [Option.getD_some]
  omega
theorem DR.scale {F D : List (BitVec 8)} (hA : Agr F D) : ∀ (f : Nat) {s : RS} {t : DS}, DR F s t → InF F (rclE f s) → DR F (rclE f s) (scl D f t)
  | 0, s, t, h, _ => h
  | f + 1, s, t, h, hI => by
    have hs := hI.back (f + 1)
    rw [rclE] at hI ⊢
    rw [scl]
    obtain ⟨ho, hk, hr, hc⟩ := h
    rw [hr]
    rcases Decidable.em (16777216 ≤ s.rng.toNat) with hb | hb
    · rw [if_pos hb, if_pos hb]; exact ⟨ho, hk, hr, hc⟩
    · rw [if_neg hb] at hI
      rw [if_neg hb, if_neg hb]
      have hl := (hI.back f).len
      have hl : s.low.length + 1 ≤ F.length := by simpa using hl
      obtain ⟨g1, g2⟩ := hA t.k (by omega)
      rw [if_neg (by omega)]
      refine DR.scale hA f ?_ hI
      have hcd := hs.code
      have hn : num (s.low ++ [0#8]) = num s.low * 256 := by rw [num_app]; show num s.low * 256 ^ 1 + (0 * _ + 0) = _; omega
      refine ⟨ho, ?_, rfl, ?_⟩
      · rw [List.length_append, List.length_singleton]; show t.k + 1 + 4 = _; omega
      · show (t.c <<< 8 ||| (D.getD t.k 0).setWidth 32).toNat + num (s.low ++ [0#8]) = num (F.take (s.low ++ [0#8]).length)
        have hq := (F.getD s.low.length 0).isLt
        rw [or8, hn, List.length_append, List.length_singleton, num_take F _ (by omega), g2, hk, Nat.mod_eq_of_lt (by omega)]
        omega
/-- the document's coder's states that come up -/
def RT (s : RS) : Prop := ∃ e, RelE e s
theorem RT.top {s : RS} (h : RT s) : num s.low + s.rng.toNat ≤ 256 ^ s.low.length ∧ 16777216 ≤ s.rng.toNat := by
  obtain ⟨e, h1, h2⟩ := h
  exact ⟨h1.top, by rw [← h1.sz]; exact h2⟩
theorem DR.bit {F D : List (BitVec 8)} (hA : Agr F D) {s : RS} {p : BitVec 16} (p1 : 1 ≤ p.toNat) (p2 : p.toNat ≤ 2047) (hT : RT s) {bit : Bool} (hI : InF F (rbitE s p bit)) :
    InF F s ∧ ∀ t, DR F s t → (bitS D t p).1 = bit ∧ DR F (rbitE s p bit) (bitS D t p).2 := by
  obtain ⟨h1, h2⟩ := hT.top
  obtain ⟨b1, b2⟩ := bnd_range s.rng p p1 p2 h2
  have hM := hI.back 3
  cases bit with
  | false =>
    have hM : InF F ⟨s.low, bnd s.rng p⟩ := hM
    refine ⟨hM.part0 (by omega), fun t ht => ?_⟩
    obtain ⟨ho, hk, hr, hc⟩ := ht
    have hcd : _ ∧ num (F.take s.low.length) < num s.low + (bnd s.rng p).toNat := hM.code
    have he : bitS D t p = (false, scl D 3 ⟨t.k, t.c, bnd s.rng p, t.o⟩) := by rw [bitS, ho, hr, if_neg (by decide), if_pos (by omega)]
    rw [he]
    exact ⟨rfl, DR.scale hA 3 ⟨ho, hk, rfl, hc⟩ hI⟩
  | true =>
    have hM : InF F ⟨addB s.low (bnd s.rng p).toNat, s.rng - bnd s.rng p⟩ := hM
    have hsN := subN s.rng (bnd s.rng p) (by omega)
    have hn := addB_num s.low (bnd s.rng p).toNat (by omega)
    refine ⟨hM.part (by omega) (by omega), fun t ht => ?_⟩
    obtain ⟨ho, hk, hr, hc⟩ := ht
    have hcd : num (addB s.low (bnd s.rng p).toNat) ≤ num (F.take (addB s.low (bnd s.rng p).toNat).length) ∧ _ := hM.code
    rw [addB_len, hn] at hcd
    have hcs := subN t.c (bnd s.rng p) (by omega)
    have he : bitS D t p = (true, scl D 3 ⟨t.k, t.c - bnd s.rng p, s.rng - bnd s.rng p, t.o⟩) := by rw [bitS, ho, hr, if_neg (by decide), if_neg (by omega)]
    rw [he]
    refine ⟨rfl, DR.scale hA 3 ⟨ho, ?_, rfl, ?_⟩ hI⟩
    · show t.k + 4 = (addB _ _).length
      rw [addB_len]; exact hk
    · show (t.c - bnd s.rng p).toNat + num (addB _ _) = num (F.take (addB _ _).length)
      rw [addB_len, hn, hcs]; omega
theorem RT.plain {s : RS} (h : RT s) (q : Bool) : RT (rclE 3 (rp1 s q)) := by
  obtain ⟨e, h⟩ := h
  exact ⟨_, h.plain _ q rfl⟩
theorem DR.plain {F D : List (BitVec 8)} (hA : Agr F D) {s : RS} (hT : RT s) {q : Bool} (hI : InF F (rclE 3 (rp1 s q))) :
    InF F s ∧ ∀ t V, DR F s t → DR F (rclE 3 (rp1 s q)) (plnStep D (t, V)).1 ∧ (plnStep D (t, V)).2 = if q then V <<< 1 ||| 1#32 else V <<< 1 := by
  obtain ⟨h1, h2⟩ := hT.top
  have hh := half_nat s.rng
  have hM := hI.back 3
  cases q with
  | false =>
    have hM : InF F ⟨s.low, s.rng >>> 1⟩ := hM
    refine ⟨hM.part0 (by omega), fun t V ht => ?_⟩
    obtain ⟨ho, hk, hr, hc⟩ := ht
    have hcd : _ ∧ num (F.take s.low.length) < num s.low + (s.rng >>> 1).toNat := hM.code
    have he : plnStep D (t, V) = (scl D 3 ⟨t.k, t.c, s.rng >>> 1, t.o⟩, V <<< 1) := by
      rw [plnStep]; dsimp only; rw [ho, hr, if_neg (by decide), if_neg (by omega)]
    rw [he]
    exact ⟨DR.scale hA 3 ⟨ho, hk, rfl, hc⟩ hI, rfl⟩
  | true =>
    have hM : InF F ⟨addB s.low (s.rng >>> 1).toNat, s.rng >>> 1⟩ := hM
    have hn := addB_num s.low (s.rng >>> 1).toNat (by omega)
    refine ⟨hM.part (by omega) (by omega), fun t V ht => ?_⟩
    obtain ⟨ho, hk, hr, hc⟩ := ht
    have hcd : num (addB s.low (s.rng >>> 1).toNat) ≤ num (F.take (addB s.low (s.rng >>> 1).toNat).length) ∧ _ := hM.code
    rw [addB_len, hn] at hcd
    have hcs := subN t.c (s.rng >>> 1) (by omega)
    have he : plnStep D (t, V) = (scl D 3 ⟨t.k, t.c - s.rng >>> 1, s.rng >>> 1, t.o⟩, V <<< 1 ||| 1#32) := by
      rw [plnStep]; dsimp only; rw [ho, hr, if_neg (by decide), if_pos (by omega)]
    rw [he]
    refine ⟨DR.scale hA 3 ⟨ho, ?_, rfl, ?_⟩ hI, rfl⟩
    · show t.k + 4 = (addB _ _).length
      rw [addB_len]; exact hk
    · show (t.c - s.rng >>> 1).toNat + num (addB _ _) = num (F.take (addB _ _).length)
      rw [addB_len, hn, hcs]; omega
theorem DR.plains {F D : List (BitVec 8)} (hA : Agr F D) {s : RS} (hT : RT s) : ∀ (n : Nat) (v : BitVec 32), n ≤ 32 → InF F (rplE s n v) →
    RT (rplE s n v) ∧ InF F s ∧ ∀ t, DR F s t → DR F (rplE s n v) (plnD D t n).1 ∧ (plnD D t n).2.toNat = v.toNat % 2 ^ n
  | 0, v, _, hI => ⟨hT, hI, fun t ht => ⟨ht, by rw [Nat.pow_zero, Nat.mod_one]; rfl⟩⟩
  | n + 1, v, hn, hI => by
    rw [rplE] at hI ⊢
    have hT0 : RT (rplE s n (v / 2#32)) := by
      have : ∀ m w, RT (rplE s m w) := by
        intro m
        induction m with
        | zero => intro w; exact hT
        | succ m ih => intro w; exact (ih _).plain _
      exact this n _
    obtain ⟨h1, h2⟩ := DR.plain hA hT0 hI
    obtain ⟨_, h3, h4⟩ := DR.plains hA hT n (v / 2#32) (by omega) h1
    refine ⟨hT0.plain _, h3, fun t ht => ?_⟩
    obtain ⟨h5, h6⟩ := h4 t ht
    obtain ⟨h7, h8⟩ := h2 (plnD D t n).1 (plnD D t n).2 h5
    refine ⟨h7, ?_⟩
    show (plnStep D (plnD D t n)).2.toNat = _
    have h8 : (plnStep D (plnD D t n)).2 = _ := h8
    rw [h8]
    have hv2 : (v / 2#32).toNat = v.toNat / 2 := by rw [BitVec.toNat_udiv]; rfl
    have hvm : (v % 2#32).toNat = v.toNat % 2 := by rw [BitVec.toNat_umod]; rfl
    rw [hv2] at h6
    have hlt : (plnD D t n).2.toNat < 2 ^ n := by rw [h6]; exact Nat.mod_lt _ (Nat.pow_pos (by decide))
    have hp : 2 ^ n * 2 ≤ 2 ^ 32 := by rw [← Nat.pow_succ]; exact Nat.pow_le_pow_right (by decide) hn
    have e : ((plnD D t n).2 <<< 1).toNat = 2 ^ 1 * (plnD D t n).2.toNat := by
      rw [BitVec.toNat_shiftLeft, Nat.shiftLeft_eq, Nat.mod_eq_of_lt (by omega)]; omega
    rw [show 2 ^ (n + 1) = 2 * 2 ^ n from by rw [Nat.pow_succ, Nat.mul_comm], Nat.mod_mul]
    by_cases hb : v % 2#32 = 1#32
    · rw [decide_eq_true hb, if_pos rfl, BitVec.toNat_or, e, show (1#32).toNat = 1 from rfl, ← Nat.two_pow_add_eq_or_of_lt (by decide : 1 < 2 ^ 1), h6, ← hvm, hb]
      show _ = 1 + _; omega
    · have hz : v.toNat % 2 = 0 := by
        have : ¬ (v % 2#32).toNat = 1 := fun h => hb (BitVec.eq_of_toNat_eq h)
        omega
      rw [decide_eq_false hb, if_neg (by decide), e, h6, hz]; omega
/-! Bkb -/
def gotD (D : List (BitVec 8)) (t : DS) (d : Ded) : BitVec 32 := if d.1 = 0 then (if (bitS D t (fairV d.2.1)).1 then 1#32 else 0#32) else plnV (plnD D t (nB d.2.2.2.2.1))
def wantD (d : Ded) : BitVec 32 := if d.1 = 0 then (if (d.2.2.1 != 0) then 1#32 else 0#32) else plO d.2.2.2.1 (nB d.2.2.2.2.1) (nB d.2.2.2.2.1)
theorem deed_back {F D : List (BitVec 8)} (hA : Agr F D) (x : ES × RS) (hT : RelE x.1 x.2) (d : Ded) (hI : InF F (rcS x d).2) :
    InF F x.2 ∧ ∀ t, DR F x.2 t → gotD D t d = wantD d ∧ DR F (rcS x d).2 (stepD D t d) := by
  have hR : RT x.2 := ⟨_, hT⟩
  obtain ⟨p1, p2⟩ := fairV_range d.2.1
  rcases Decidable.em (d.1 = 0) with h0 | h0
  · rw [rcS, if_pos h0] at hI
    obtain ⟨h1, h2⟩ := DR.bit hA p1 p2 hR hI
    refine ⟨h1, fun t ht => ?_⟩
    obtain ⟨h3, h4⟩ := h2 t ht
    rw [gotD, wantD, if_pos h0, if_pos h0, h3, rcS, stepD, if_pos h0, if_pos h0]
    exact ⟨rfl, h4⟩
  · rw [rcS, if_neg h0] at hI
    obtain ⟨_, h1, h2⟩ := DR.plains hA hR (nB d.2.2.2.2.1) d.2.2.2.1 (nB_le _) hI
    refine ⟨h1, fun t ht => ?_⟩
    obtain ⟨h3, h4⟩ := h2 t ht
    rw [gotD, wantD, if_neg h0, if_neg h0, rcS, stepD, if_neg h0, if_neg h0, plnV, h3.o, if_neg (by decide)]
    exact ⟨BitVec.eq_of_toNat_eq (by rw [h4, plO_val _ _ (nB_le _)]), h3⟩
theorem inF_end (s : RS) (h : RT s) : InF s.low s := by
  have := h.top
  refine ⟨Nat.le_refl _, ?_, ?_⟩
  · rw [Nat.sub_self, Nat.pow_zero, Nat.mul_one]; exact Nat.le_refl _
  · rw [Nat.sub_self, Nat.pow_zero, Nat.mul_one]; omega
theorem inF_all (L : List Ded) (n : Nat) : ∀ k, k ≤ n → InF (runE L n).2.low (runE L (n - k)).2
  | 0, _ => inF_end _ ⟨_, (rcE_ok L n).1⟩
  | k + 1, h => by
    have ih := inF_all L n k (by omega)
    rw [show n - k = n - (k + 1) + 1 by omega] at ih
    have hA : Agr (runE L n).2.low ((runE L n).2.low.drop 4) := fun i hi => ⟨by rw [List.length_drop]; omega, by simp [List.getD_eq_getElem?_getD, Nat.add_comm]⟩
    exact (deed_back hA (runE L (n - (k + 1))) (rcE_ok L _).1 _ ih).1
theorem inF_all' (L : List Ded) (n j : Nat) (h : j ≤ n) : InF (runE L n).2.low (runE L j).2 := by
  have := inF_all L n (n - j) (by omega)
  rwa [show n - (n - j) = j by omega] at this
theorem dr_all (L : List Ded) (n : Nat) {D : List (BitVec 8)} (hA : Agr (runE L n).2.low D) {t0 : DS} (h0 : DR (runE L n).2.low newR t0) : ∀ j, j ≤ n → DR (runE L n).2.low (runE L j).2 (runD D t0 L j)
  | 0, _ => h0
  | j + 1, h => ((deed_back hA (runE L j) (rcE_ok L j).1 (L.getD j dedD) (inF_all' L n (j + 1) h)).2 _ (dr_all L n hA h0 j (by omega))).2
theorem got_all (L : List Ded) (n : Nat) {D : List (BitVec 8)} (hA : Agr (runE L n).2.low D) {t0 : DS} (h0 : DR (runE L n).2.low newR t0) (j : Nat) (h : j < n) : gotD D (runD D t0 L j) (L.getD j dedD) = wantD (L.getD j dedD) :=
  ((deed_back hA (runE L j) (rcE_ok L j).1 (L.getD j dedD) (inF_all' L n (j + 1) h)).2 _ (dr_all L n hA h0 j (by omega))).1
theorem code0_eq (b F : List (BitVec 8)) (hF : 4 ≤ F.length) (h : ∀ i, i < 4 → b.getD (i + 1) 0 = F.getD i 0) : (code0 b).toNat = num (F.take 4) := by
  rw [num_take F 3 (by omega), num_take F 2 (by omega), num_take F 1 (by omega), num_take F 0 (by omega), ← h 0 (by decide), ← h 1 (by decide), ← h 2 (by decide), ← h 3 (by decide), ← cdN_code]
  have h1 := (b.getD 1 0).isLt
  have h2 := (b.getD 2 0).isLt
  have h3 := (b.getD 3 0).isLt
  have h4 := (b.getD 4 0).isLt
  show (256#64 * (256#64 * (256#64 * (256#64 * 0#64 + (b.getD 1 0).setWidth 64) + (b.getD 2 0).setWidth 64) + (b.getD 3 0).setWidth 64) + (b.getD 4 0).setWidth 64).toNat = _
  simp only [BitVec.toNat_add, BitVec.toNat_mul, b64, show (256#64).toNat = 256 from rfl, show (0#64).toNat = 0 from rfl]
  show _ = 256 * (256 * (256 * (256 * 0 + (b.getD 1 0).toNat) + (b.getD 2 0).toNat) + (b.getD 3 0).toNat) + (b.getD 4 0).toNat
  omega
theorem start_dr (b F : List (BitVec 8)) (hF : 4 ≤ F.length) (h : ∀ i, i < 4 → b.getD (i + 1) 0 = F.getD i 0) : DR F newR (start b) := by
  refine ⟨rfl, rfl, rfl, ?_⟩
  show (code0 b).toNat + 0 = num (F.take 4)
  rw [code0_eq b F hF h, Nat.add_zero]
/-! with less to read -/
def Les (D2 D : List (BitVec 8)) : Prop := D2.length ≤ D.length ∧ ∀ k, k < D2.length → D2.getD k 0 = D.getD k 0
def LR (D2 : List (BitVec 8)) (t2 t : DS) : Prop := t2.o = true ∨ (t2 = t ∧ t.k ≤ D2.length)
theorem LR.scl {D2 D : List (BitVec 8)} (hD : Les D2 D) : ∀ (f : Nat) (t : DS), t.k ≤ D2.length → LR D2 (scl D2 f t) (scl D f t)
  | 0, t, h => .inr ⟨rfl, h⟩
  | f + 1, t, h => by
    rw [Go.Proofs.Ytmdeoikpiiambaa.scl, Go.Proofs.Ytmdeoikpiiambaa.scl]
    split
    · exact .inr ⟨rfl, h⟩
    · rcases Nat.lt_or_ge t.k D2.length with g | g
      · have := hD.1
        rw [if_neg (by omega), if_neg (by omega), hD.2 _ g]
        exact LR.scl hD f _ g
      · rw [if_pos g]; exact .inl rfl
theorem LR.bit {D2 D : List (BitVec 8)} (hD : Les D2 D) {t2 t : DS} (h : LR D2 t2 t) (p : BitVec 16) : LR D2 (bitS D2 t2 p).2 (bitS D t p).2 := by
  rcases h with h | ⟨rfl, h⟩
  · rw [bitS, if_pos h]; exact .inl h
  · rw [bitS, bitS]
    split
    · exact .inr ⟨rfl, h⟩
    · split
      · exact LR.scl hD 3 _ h
      · exact LR.scl hD 3 _ h
theorem LR.pln {D2 D : List (BitVec 8)} (hD : Les D2 D) {t2 t : DS} (h : LR D2 t2 t) : ∀ n, (plnD D2 t2 n).1.o = true ∨ (plnD D2 t2 n = plnD D t n ∧ (plnD D t n).1.k ≤ D2.length)
  | 0 => by
    rcases h with h | ⟨rfl, h⟩
    · exact .inl h
    · exact .inr ⟨rfl, h⟩
  | n + 1 => by
    rw [plnD, plnD]
    rcases LR.pln hD h n with h | ⟨e, h⟩
    · rw [plnStep, if_pos h]; exact .inl h
    · rw [e]
      generalize plnD D t n = x at *
      rw [plnStep, plnStep]
      split
      · exact .inr ⟨rfl, h⟩
      · split
        · rcases LR.scl hD 3 ⟨x.1.k, x.1.c - x.1.r >>> 1, x.1.r >>> 1, x.1.o⟩ h with g | ⟨g1, g2⟩
          · exact .inl g
          · exact .inr ⟨by rw [g1], g2⟩
        · rcases LR.scl hD 3 ⟨x.1.k, x.1.c, x.1.r >>> 1, x.1.o⟩ h with g | ⟨g1, g2⟩
          · exact .inl g
          · exact .inr ⟨by rw [g1], g2⟩
theorem LR.run {D2 D : List (BitVec 8)} (hD : Les D2 D) {t0 : DS} (h0 : t0.k ≤ D2.length) (L : List Ded) : ∀ j, LR D2 (runD D2 t0 L j) (runD D t0 L j)
  | 0 => .inr ⟨rfl, h0⟩
  | j + 1 => by
    have ih := LR.run hD h0 L j
    rw [runD, runD, stepD, stepD]
    split
    · exact ih.bit hD _
    · rcases ih.pln hD (nB (L.getD j dedD).2.2.2.2.1) with g | ⟨g1, g2⟩
      · exact .inl g
      · exact .inr ⟨by rw [g1], g2⟩
/-! the ends -/
theorem done_same (L : List Ded) (n : Nat) {F : List (BitVec 8)} (hF : (runE L n).2.low = F) (h4 : 4 ≤ F.length) : doneS (F.drop 4) (runD (F.drop 4) (start (0#8 :: F)) L n) = true ∧ (∀ j, j < n → gotD (F.drop 4) (runD (F.drop 4) (start (0#8 :: F)) L j) (L.getD j dedD) = wantD (L.getD j dedD)) := by
  subst hF
  have hA : Agr (runE L n).2.low ((runE L n).2.low.drop 4) := fun i hi => ⟨by rw [List.length_drop]; omega, by simp [List.getD_eq_getElem?_getD, Nat.add_comm]⟩
  have h0 := start_dr (0#8 :: (runE L n).2.low) (runE L n).2.low h4 (fun i _ => rfl)
  refine ⟨?_, fun j hj => got_all L n hA h0 j hj⟩
  obtain ⟨o, k, r, c⟩ := dr_all L n hA h0 n (Nat.le_refl _)
  have e9 : num (List.take (runE L n).2.low.length (runE L n).2.low) = num (runE L n).2.low := by rw [List.take_length]
  rw [e9] at c
  have hc : (runD ((runE L n).2.low.drop 4) (start (0#8 :: (runE L n).2.low)) L n).c = 0#32 := BitVec.eq_of_toNat_eq (by show _ = 0; omega)
  rw [doneS, o, hc, decide_eq_true (by rw [List.length_drop]; omega)]
  rfl
end Go.Proofs.Ytmdeoikpiiambaa
end
section
/- Programs that ask for bits, told once for coders and readers: what they come to, and what was coded is read. BRIEF -/
set_option linter.unusedVariables false
set_option linter.unusedSimpArgs false
set_option maxRecDepth 100000
namespace Go.Proofs.Ytmdeoikpiiambaa
open Go Go.Eng

inductive Pg (α : Type) where
  | ret (a : α)
  | bit (j : Nat) (w : Bool) (k : Bool → Pg α)
  | plain (v : BitVec 32) (n : Nat) (k : BitVec 32 → Pg α)
def Pg.bind {α β : Type} : Pg α → (α → Pg β) → Pg β
  | .ret a, f => f a
  | .bit j w k, f => .bit j w fun b => (k b).bind f
  | .plain v n k, f => .plain v n fun u => (k u).bind f
/-- what codes bits, or reads them -/
structure Mach (σ : Type) where
  bit : σ → BitVec 16 → Bool → Bool × σ
  plain : σ → BitVec 32 → Nat → BitVec 32 × σ
/-- the chance behind a bit -/
def nxP (P : List (BitVec 16)) (j : Nat) (b : Bool) : List (BitVec 16) := P.set j (nxB (fairV (P.getD j 0)) b)
def run {α σ : Type} (M : Mach σ) : Pg α → List (BitVec 16) → σ → α × List (BitVec 16) × σ
  | .ret a, P, s => (a, P, s)
  | .bit j w k, P, s => run M (k (M.bit s (P.getD j 0) w).1) (nxP P j (M.bit s (P.getD j 0) w).1) (M.bit s (P.getD j 0) w).2
  | .plain v n k, P, s => run M (k (M.plain s v n).1) P (M.plain s v n).2
theorem run_bind {α β σ : Type} (M : Mach σ) (f : α → Pg β) : ∀ (p : Pg α) (P : List (BitVec 16)) (s : σ), run M (p.bind f) P s = run M (f (run M p P s).1) (run M p P s).2.1 (run M p P s).2.2
  | .ret a, P, s => rfl
  | .bit j w k, P, s => run_bind M f (k (M.bit s (P.getD j 0) w).1) _ _
  | .plain v n k, P, s => run_bind M f (k (M.plain s v n).1) _ _
/-- at most so many steps -/
def Pg.Le {α : Type} : Nat → Pg α → Prop
  | _, .ret a => True
  | 0, .bit _ _ _ => False
  | 0, .plain _ _ _ => False
  | n + 1, .bit j w k => ∀ b, (k b).Le n
  | n + 1, .plain v m k => m ≤ 32 ∧ ∀ b, (k b).Le n
theorem Pg.Le.mono {α : Type} : ∀ {n m : Nat} {p : Pg α}, p.Le n → n ≤ m → p.Le m
  | n, m, .ret a, h, hm => by unfold Pg.Le; trivial
  | 0, m, .bit _ _ _, h, hm => h.elim
  | 0, m, .plain _ _ _, h, hm => h.elim
  | n + 1, 0, .bit _ _ _, h, hm => by omega
  | n + 1, 0, .plain _ _ _, h, hm => by omega
  | n + 1, m + 1, .bit j w k, h, hm => fun b => Pg.Le.mono (h b) (by omega)
  | n + 1, m + 1, .plain v q k, h, hm => ⟨h.1, fun b => Pg.Le.mono (h.2 b) (by omega)⟩
theorem Pg.Le.ret {α : Type} (n : Nat) (a : α) : (Pg.ret a).Le n := by unfold Pg.Le; trivial
theorem Pg.Le.bind {α β : Type} {f : α → Pg β} {m : Nat} (hf : ∀ a, (f a).Le m) : ∀ {n : Nat} {p : Pg α}, p.Le n → (p.bind f).Le (n + m)
  | n, .ret a, h => (hf a).mono (by omega)
  | 0, .bit _ _ _, h => h.elim
  | 0, .plain _ _ _, h => h.elim
  | n + 1, .bit j w k, h => by rw [show n + 1 + m = (n + m) + 1 by omega]; exact fun b => Pg.Le.bind hf (h b)
  | n + 1, .plain v q k, h => by rw [show n + 1 + m = (n + m) + 1 by omega]; exact ⟨h.1, fun b => Pg.Le.bind hf (h.2 b)⟩
/-- a machine's budget: so many steps more may be -/
structure Bud {σ : Type} (M : Mach σ) (Ok : σ → Nat → Prop) : Prop where
  bit : ∀ s c w k, Ok s (k + 1) → Ok (M.bit s c w).2 k
  plain : ∀ s v n k, n ≤ 32 → Ok s (k + 1) → Ok (M.plain s v n).2 k
  less : ∀ s k j, Ok s k → j ≤ k → Ok s j
theorem Bud.run {α σ : Type} {M : Mach σ} {Ok : σ → Nat → Prop} (B : Bud M Ok) : ∀ (n k : Nat) (p : Pg α) (P : List (BitVec 16)) (s : σ), p.Le n → Ok s (k + n) → Ok (run M p P s).2.2 k
  | n, k, .ret a, P, s, _, h => B.less _ _ _ h (by omega)
  | 0, k, .bit _ _ _, P, s, hl, h => hl.elim
  | 0, k, .plain _ _ _, P, s, hl, h => hl.elim
  | n + 1, k, .bit j w q, P, s, hl, h => B.run n k (q (M.bit s (P.getD j 0) w).1) _ _ (hl _) (B.bit _ _ _ _ (by rw [Nat.add_assoc]; exact h))
  | n + 1, k, .plain v m q, P, s, hl, h => B.run n k (q (M.plain s v m).1) _ _ (hl.2 _) (B.plain _ _ _ _ hl.1 (by rw [Nat.add_assoc]; exact h))
/-! machines -/
def encM : Mach ES := ⟨fun e c w => (w, bitE e (fairV c) w), fun e v n => (plO v n n, plE e v n n)⟩
def rencM : Mach RS := ⟨fun e c w => (w, rbitE e (fairV c) w), fun e v n => (plO v n n, rplE e n v)⟩
def decM (D : List (BitVec 8)) : Mach DS := ⟨fun s c _ => bitS D s (fairV c), fun s _ n => (plnV (plnD D s n), (plnD D s n).1)⟩
def encB (e : ES) (k : Nat) : Prop := 16777216 ≤ e.size.toNat ∧ e.out.length + e.full + 100 * k ≤ 900000
theorem encBud : Bud encM encB := by
  refine ⟨fun s c w k h => ?_, fun s v n k hn h => ?_, fun s k j h hj => ?_⟩
  · obtain ⟨h1, h2⟩ := h
    obtain ⟨p1, p2⟩ := fairV_range c
    obtain ⟨b1, b2⟩ := bnd_range s.size (fairV c) p1 p2 h1
    refine ⟨?_, ?_⟩
    · show 16777216 ≤ (sclE 3 (bit1 s (bnd s.size (fairV c)) w)).size.toNat
      refine sclE_size3 _ ?_
      cases w with
      | true => show 1 ≤ (s.size - bnd s.size (fairV c)).toNat; rw [subN _ _ (by omega)]; omega
      | false => show 1 ≤ (bnd s.size (fairV c)).toNat; omega
    · have := bitE_len s (fairV c) w
      show (bitE s (fairV c) w).out.length + (bitE s (fairV c) w).full + 100 * k ≤ 900000
      omega
  · obtain ⟨h1, h2⟩ := h
    refine ⟨plE_size s v n h1 n, ?_⟩
    have := plE_len s v n n
    show (plE s v n n).out.length + (plE s v n n).full + 100 * k ≤ 900000
    omega
  · exact ⟨h.1, by have := h.2; omega⟩
def rencB (e : RS) (k : Nat) : Prop := 16777216 ≤ e.rng.toNat ∧ 1 ≤ e.low.length ∧ e.low.length + 100 * k ≤ 900000
theorem rencBud : Bud rencM rencB := by
  refine ⟨fun s c w k h => ?_, fun s v n k hn h => ?_, fun s k j h hj => ?_⟩
  · obtain ⟨h1, h2, h3⟩ := h
    obtain ⟨p1, p2⟩ := fairV_range c
    obtain ⟨b1, b2⟩ := bnd_range s.rng (fairV c) p1 p2 h1
    have l1 := rclE_len 3 (rb1 s (bnd s.rng (fairV c)) w)
    have l2 := rb1_len s (bnd s.rng (fairV c)) w
    refine ⟨?_, ?_, ?_⟩
    · show 16777216 ≤ (rclE 3 (rb1 s (bnd s.rng (fairV c)) w)).rng.toNat
      refine rclE_rng3 _ ?_
      cases w with
      | true => show 1 ≤ (s.rng - bnd s.rng (fairV c)).toNat; rw [subN _ _ (by omega)]; omega
      | false => show 1 ≤ (bnd s.rng (fairV c)).toNat; omega
    · show 1 ≤ (rclE 3 (rb1 s (bnd s.rng (fairV c)) w)).low.length; omega
    · show (rclE 3 (rb1 s (bnd s.rng (fairV c)) w)).low.length + 100 * k ≤ 900000; omega
  · obtain ⟨h1, h2, h3⟩ := h
    have := rplE_len s n v
    refine ⟨rplE_rng s h1 n v, ?_, ?_⟩
    · show 1 ≤ (rplE s n v).low.length; omega
    · show (rplE s n v).low.length + 100 * k ≤ 900000; omega
  · exact ⟨h.1, h.2.1, by have := h.2.2; omega⟩
def decB (D : List (BitVec 8)) (s : DS) (_ : Nat) : Prop := okS D s
theorem decBud (D : List (BitVec 8)) : Bud (decM D) (decB D) := by
  refine ⟨fun s c w k h => ?_, fun s v n k _ h => pln_ok D s h n, fun s k j h hj => h⟩
  obtain ⟨p1, p2⟩ := fairV_range c
  exact bitS_ok D s (fairV c) p1 p2 h
/-- both coders agree -/
theorem run_rel {α : Type} : ∀ (n : Nat) (p : Pg α) (P : List (BitVec 16)) (e : ES) (s : RS), p.Le n → RelE e s →
    (run encM p P e).1 = (run rencM p P s).1 ∧ (run encM p P e).2.1 = (run rencM p P s).2.1 ∧ RelE (run encM p P e).2.2 (run rencM p P s).2.2
  | n, .ret a, P, e, s, _, h => ⟨rfl, rfl, h⟩
  | 0, .bit _ _ _, P, e, s, hl, h => hl.elim
  | 0, .plain _ _ _, P, e, s, hl, h => hl.elim
  | n + 1, .bit j w k, P, e, s, hl, h => by
    obtain ⟨p1, p2⟩ := fairV_range (P.getD j 0)
    exact run_rel n (k w) (nxP P j w) _ _ (hl _) (h.bit _ p1 p2 w)
  | n + 1, .plain v m k, P, e, s, hl, h => by
    have hp := h.plains v m m (Nat.le_refl _)
    rw [Nat.sub_self, show v >>> 0 = v from by simp] at hp
    exact run_rel n (k (plO v m m)) P _ _ (hl.2 _) hp
/-! what a coder is told -/
inductive Cmd where
  | b (j : Nat) (w : Bool)
  | l (v : BitVec 32) (n : Nat)
/-- what a program tells a coder -/
def cmds {α : Type} : Pg α → α × List Cmd
  | .ret a => (a, [])
  | .bit j w k => ((cmds (k w)).1, .b j w :: (cmds (k w)).2)
  | .plain v n k => ((cmds (k (plO v n n))).1, .l v n :: (cmds (k (plO v n n))).2)
theorem cmds_bind {α β : Type} (f : α → Pg β) : ∀ p : Pg α, cmds (p.bind f) = ((cmds (f (cmds p).1)).1, (cmds p).2 ++ (cmds (f (cmds p).1)).2)
  | .ret a => rfl
  | .bit j w k => by rw [Pg.bind, cmds, cmds_bind f]; rfl
  | .plain v n k => by rw [Pg.bind, cmds, cmds_bind f]; rfl
/-- a machine that codes what it is told -/
def Enc {σ : Type} (M : Mach σ) : Prop := (∀ s c w, (M.bit s c w).1 = w) ∧ ∀ s v n, (M.plain s v n).1 = plO v n n
def told {σ : Type} (M : Mach σ) : List Cmd → List (BitVec 16) → σ → List (BitVec 16) × σ
  | [], P, s => (P, s)
  | .b j w :: r, P, s => told M r (nxP P j w) (M.bit s (P.getD j 0) w).2
  | .l v n :: r, P, s => told M r P (M.plain s v n).2
theorem run_enc {α σ : Type} {M : Mach σ} (h : Enc M) : ∀ (p : Pg α) (P : List (BitVec 16)) (s : σ), run M p P s = ((cmds p).1, told M (cmds p).2 P s)
  | .ret a, P, s => rfl
  | .bit j w k, P, s => by rw [run, h.1, run_enc h, cmds, told]
  | .plain v n k, P, s => by rw [run, h.2, run_enc h, cmds, told]
theorem encE : Enc encM := ⟨fun _ _ _ => rfl, fun _ _ _ => rfl⟩
theorem rencE : Enc rencM := ⟨fun _ _ _ => rfl, fun _ _ _ => rfl⟩
theorem told_app {σ : Type} (M : Mach σ) : ∀ (a b : List Cmd) (P : List (BitVec 16)) (s : σ), told M (a ++ b) P s = told M b (told M a P s).1 (told M a P s).2
  | [], b, P, s => rfl
  | .b j w :: r, b, P, s => told_app M r b _ _
  | .l v n :: r, b, P, s => told_app M r b _ _
/-- the deeds, with the chances that they meet -/
def deeds : List Cmd → List (BitVec 16) → List Ded
  | [], P => []
  | .b j w :: r, P => (0, P.getD j 0, bitI w, 0, 0, ()) :: deeds r (nxP P j w)
  | .l v n :: r, P => (1, 0, 0, v, (n : Int), ()) :: deeds r P
def chs : List Cmd → List (BitVec 16) → List (BitVec 16)
  | [], P => P
  | .b j w :: r, P => chs r (nxP P j w)
  | .l v n :: r, P => chs r P
theorem deeds_app : ∀ (a b : List Cmd) (P : List (BitVec 16)), deeds (a ++ b) P = deeds a P ++ deeds b (chs a P)
  | [], b, P => rfl
  | .b j w :: r, b, P => by rw [List.cons_append, deeds, deeds_app r b, deeds]; rfl
  | .l v n :: r, b, P => by rw [List.cons_append, deeds, deeds_app r b, deeds]; rfl
theorem chs_app : ∀ (a b : List Cmd) (P : List (BitVec 16)), chs (a ++ b) P = chs b (chs a P)
  | [], b, P => rfl
  | .b j w :: r, b, P => chs_app r b _
  | .l v n :: r, b, P => chs_app r b _
theorem bitI_ne (w : Bool) : (bitI w != 0) = w := by cases w <;> rfl
theorem told_deeds : ∀ (a : List Cmd) (P : List (BitVec 16)) (x : ES × RS), (∀ v n, Cmd.l v n ∈ a → n ≤ 32) → (told encM a P x.1).2 = ((deeds a P).foldl rcS x).1 ∧ (told rencM a P x.2).2 = ((deeds a P).foldl rcS x).2
  | [], P, x, _ => ⟨rfl, rfl⟩
  | .b j w :: r, P, x, h => by
    have ih := told_deeds r (nxP P j w) (rcS x (0, P.getD j 0, bitI w, 0, 0, ())) fun v n hm => h v n (.tail _ hm)
    have e : rcS x (0, P.getD j 0, bitI w, 0, 0, ()) = (bitE x.1 (fairV (P.getD j 0)) w, rbitE x.2 (fairV (P.getD j 0)) w) := by
      rw [rcS, if_pos rfl]
      show (bitE x.1 _ (bitI w != 0), rbitE x.2 _ (bitI w != 0)) = _
      rw [bitI_ne]
    rw [deeds, List.foldl_cons]
    rw [e] at ih ⊢
    exact ih
  | .l v n :: r, P, x, h => by
    have ih := told_deeds r P (rcS x (1, 0, 0, v, (n : Int), ())) fun v n hm => h v n (.tail _ hm)
    have hn : nB (n : Int) = n := by
      have := h v n (.head _)
      unfold nB
      rw [if_neg (by omega), if_neg (by omega)]; rfl
    have e : rcS x (1, 0, 0, v, (n : Int), ()) = (plE x.1 v n n, rplE x.2 n v) := by
      rw [rcS, if_neg (by show ¬ (1 : Int) = 0; decide)]
      show (plE x.1 v (nB (n : Int)) (nB (n : Int)), rplE x.2 (nB (n : Int)) v) = _
      rw [hn]
    rw [deeds, List.foldl_cons]
    rw [e] at ih ⊢
    exact ih
/-! reading what was coded -/
/-- a reader gets what was coded, deed by deed -/
def Syn (D : List (BitVec 8)) : List Ded → DS → Prop
  | [], t => True
  | d :: r, t => gotD D t d = wantD d ∧ Syn D r (stepD D t d)
/-- alike, but for what is coded -/
inductive Alike {α : Type} : Pg α → Pg α → Prop where
  | ret (a : α) : Alike (.ret a) (.ret a)
  | bit (j : Nat) (w w' : Bool) {k k' : Bool → Pg α} (h : ∀ b, Alike (k b) (k' b)) : Alike (.bit j w k) (.bit j w' k')
  | plain (v v' : BitVec 32) (n : Nat) {k k' : BitVec 32 → Pg α} (h : ∀ b, Alike (k b) (k' b)) : Alike (.plain v n k) (.plain v' n k')
theorem Alike.refl {α : Type} : ∀ p : Pg α, Alike p p
  | .ret a => .ret a
  | .bit j w k => .bit j w w fun b => Alike.refl (k b)
  | .plain v n k => .plain v v n fun b => Alike.refl (k b)
theorem Alike.bind {α β : Type} {f g : α → Pg β} (hf : ∀ a, Alike (f a) (g a)) {p q : Pg α} (h : Alike p q) : Alike (p.bind f) (q.bind g) := by
  induction h with
  | ret a => exact hf a
  | bit j w w' h ih => exact .bit j w w' ih
  | plain v v' n h ih => exact .plain v v' n ih
theorem Alike.dec {α : Type} {p q : Pg α} (h : Alike p q) (D : List (BitVec 8)) : ∀ P t, run (decM D) p P t = run (decM D) q P t := by
  induction h with
  | ret a => exact fun _ _ => rfl
  | bit j w w' h ih => exact fun P t => ih _ _ _
  | plain v v' n h ih => exact fun P t => ih _ _ _
theorem bit32 (b : Bool) (w : Bool) (h : (if b then 1#32 else 0#32) = (if w then 1#32 else 0#32)) : b = w := by
  cases b <;> cases w <;> first | rfl | (exact absurd h (by decide))
/-- what was coded is read -/
theorem run_dec {α : Type} (D : List (BitVec 8)) : ∀ (n : Nat) (p : Pg α) (P : List (BitVec 16)) (t : DS), p.Le n → Syn D (deeds (cmds p).2 P) t → run (decM D) p P t = ((cmds p).1, chs (cmds p).2 P, (deeds (cmds p).2 P).foldl (stepD D) t)
  | n, .ret a, P, t, _, h => rfl
  | 0, .bit _ _ _, P, t, hl, h => hl.elim
  | 0, .plain _ _ _, P, t, hl, h => hl.elim
  | n + 1, .bit j w k, P, t, hl, h => by
    rw [cmds, deeds] at h
    obtain ⟨h1, h2⟩ := h
    rw [gotD, wantD, if_pos rfl, if_pos rfl] at h1
    have h1 : (if (bitS D t (fairV (P.getD j 0))).1 then 1#32 else 0#32) = if (bitI w != 0) then 1#32 else 0#32 := h1
    rw [bitI_ne] at h1
    have hw := bit32 _ _ h1
    have e : stepD D t (0, P.getD j 0, bitI w, 0, 0, ()) = (bitS D t (fairV (P.getD j 0))).2 := by rw [stepD, if_pos rfl]
    rw [e] at h2
    have ih := run_dec D n (k w) (nxP P j w) _ (hl _) h2
    show run (decM D) (k (bitS D t (fairV (P.getD j 0))).1) (nxP P j (bitS D t (fairV (P.getD j 0))).1) (bitS D t (fairV (P.getD j 0))).2 = _
    rw [hw, ih, cmds, deeds, chs, List.foldl_cons, e]
  | n + 1, .plain v m k, P, t, hl, h => by
    rw [cmds, deeds] at h
    obtain ⟨h1, h2⟩ := h
    have hn : nB (m : Int) = m := by
      have := hl.1
      unfold nB
      rw [if_neg (by omega), if_neg (by omega)]; rfl
    have n0 : ¬ (1 : Int) = 0 := by decide
    rw [gotD, wantD, if_neg n0, if_neg n0] at h1
    have h1 : plnV (plnD D t (nB (m : Int))) = plO v (nB (m : Int)) (nB (m : Int)) := h1
    rw [hn] at h1
    have e : stepD D t (1, 0, 0, v, (m : Int), ()) = (plnD D t m).1 := by
      rw [stepD, if_neg n0]
      show (plnD D t (nB (m : Int))).1 = _
      rw [hn]
    rw [e] at h2
    have ih := run_dec D n (k (plO v m m)) P _ (hl.2 _) h2
    show run (decM D) (k (plnV (plnD D t m))) P (plnD D t m).1 = _
    rw [h1, ih, cmds, deeds, chs, List.foldl_cons, e]
theorem Syn.app {D : List (BitVec 8)} : ∀ {a b : List Ded} {t : DS}, Syn D (a ++ b) t → Syn D a t ∧ Syn D b (a.foldl (stepD D) t)
  | [], b, t, h => ⟨trivial, h⟩
  | d :: r, b, t, h => by
    obtain ⟨h1, h2⟩ := h
    obtain ⟨h3, h4⟩ := Syn.app h2
    exact ⟨⟨h1, h3⟩, h4⟩
end Go.Proofs.Ytmdeoikpiiambaa
end
section
/- The coder of bits in any memory: a byte is put out, the highest byte, scaling, a bit, plain bits. BRIEF -/
set_option linter.unusedVariables false
set_option linter.unusedSimpArgs false
set_option maxRecDepth 100000
namespace Go.Proofs.Ytmdeoikpiiambaa
open Go Go.Eng

/-- what a call leaves: what it owns may be changed, names may be new, the rest is kept -/
structure Fr (ns : List Nat) (m : Mem) (nx : Nat) (m' : Mem) (nx' : Nat) : Prop where
  le : nx ≤ nx'
  nd : (m'.map fun p => p.1).Nodup
  lt : ∀ p ∈ m', p.1 < nx'
  kp : ∀ k o, k ∉ ns → Eng.look m k = some o → Eng.look m' k = some o
theorem look_ltm {m : Mem} {nx k : Nat} {o : AObj} (lt : ∀ p ∈ m, p.1 < nx) (h : Eng.look m k = some o) : k < nx := by
  obtain ⟨p, hp, rfl⟩ := look_lt h
  exact lt p hp
theorem Fr.refl {ns : List Nat} {m : Mem} {nx : Nat} (nd : (m.map fun p => p.1).Nodup) (lt : ∀ p ∈ m, p.1 < nx) : Fr ns m nx m nx := ⟨Nat.le_refl _, nd, lt, fun _ _ _ h => h⟩
theorem Fr.trans {ns ns1 : List Nat} {m m1 m2 : Mem} {nx nx1 nx2 : Nat} (f : Fr ns m nx m1 nx1) (g : Fr ns1 m1 nx1 m2 nx2) (lt : ∀ p ∈ m, p.1 < nx) (h : ∀ k ∈ ns1, k ∈ ns ∨ nx ≤ k) : Fr ns m nx m2 nx2 :=
  ⟨Nat.le_trans f.le g.le, g.nd, g.lt, fun k o hk ho => g.kp k o (fun hm => by
    rcases h k hm with h | h
    · exact hk h
    · have := look_ltm lt ho; omega) (f.kp k o hk ho)⟩
theorem Fr.rdm {wr : Nat → Bool} {ns : List Nat} {m m' : Mem} {nx nx' : Nat} (f : Fr ns m nx m' nx') (D : Rdm wr m nx) (hw : ∀ k ∈ ns, wr k = true) : Rdm wr m' nx' :=
  ⟨f.nd, fun n hn => by
    obtain ⟨o, ho⟩ := D.kp n hn
    exact ⟨o, f.kp n o (fun h => by rw [hw n h] at hn; cases hn) ho⟩, fun n hn => D.wn n (Nat.le_trans f.le hn)⟩
theorem Fr.gr {ns : List Nat} {m m' : Mem} {nx nx' : Nat} (g : Gr m nx m' nx') : Fr ns m nx m' nx' := ⟨g.le, g.nd, g.lt, fun k o _ h => g.kp k o h⟩
theorem Fr.upd {wr : Nat → Bool} {ns : List Nat} {m : Mem} {nx a : Nat} (D : Rdm wr m nx) (lt : ∀ p ∈ m, p.1 < nx) (h : a ∈ ns) (o : AObj) : Fr ns m nx (Eng.upd m a o) nx :=
  ⟨Nat.le_refl _, (D.upd a o).nd, upd_lt lt a o, fun k x hk hx => by rw [look_upd_other _ (fun e => hk (by rw [← e]; exact h))]; exact hx⟩
theorem Fr.wide {ns ns' : List Nat} {m m' : Mem} {nx nx' : Nat} (f : Fr ns m nx m' nx') (h : ∀ k ∈ ns, k ∈ ns') : Fr ns' m nx m' nx' := ⟨f.le, f.nd, f.lt, fun k o hk ho => f.kp k o (fun hm => hk (h k hm)) ho⟩
/-- a thing in memory that owns names is changed -/
def OwK {σ : Type} (At : Mem → σ → List Nat → Prop) (V : AV) (s' : σ) (ns : List Nat) (m : Mem) (nx : Nat) : Kv := fun v m' nx' => v = V ∧ Fr ns m nx m' nx' ∧ ∃ ns', At m' s' ns' ∧ ∀ k ∈ ns', k ∈ ns ∨ nx ≤ k
theorem Fr.fin {σ : Type} {At : Mem → σ → List Nat → Prop} {V : AV} {s' : σ} {ns ns' : List Nat} {m m' : Mem} {nx nx' : Nat} {wr : Nat → Bool} (f : Fr ns m nx m' nx') (D : Rdm wr m nx) (hw : ∀ k ∈ ns, wr k = true) (h : At m' s' ns') (hn : ∀ k ∈ ns', k ∈ ns ∨ nx ≤ k) : Fin nx wr m' nx' (OwK At V s' ns m nx) V :=
  Fin.keepW (m0 := m') f.le (memSame_slf f.nd) f.nd (f.rdm D hw).kp ⟨rfl, f, ns', h, hn⟩
def eO (v : AV) (e : ES) : AObj := .cells [.int .u64 (e.low.toNat : Int), .int .u32 (e.size.toNat : Int), .int .u8 (e.held.toNat : Int), .int .i64 (e.full : Int), v] 156
def EncAt (a : Nat) (m : Mem) (e : ES) (ns : List Nat) : Prop := ∃ v rs, ns = a :: rs ∧ Eng.look m a = some (eO v e) ∧ ByAt 5 m v e.out rs ∧ v ≠ .ro e.out.length (bvs .u8 e.out) ∧ a ∉ rs
theorem EncAt.ext {a : Nat} {m m' : Mem} {e : ES} {ns : List Nat} (h : EncAt a m e ns) (hk : ∀ k ∈ ns, ∀ o, Eng.look m k = some o → Eng.look m' k = some o) : EncAt a m' e ns := by
  obtain ⟨v, rs, rfl, h1, h2, h3, h4⟩ := h
  exact ⟨v, rs, rfl, hk a (.head _) _ h1, h2.ext fun k hk' => hk k (.tail _ hk'), h3, h4⟩
theorem EncAt.live {a : Nat} {m : Mem} {e : ES} {ns : List Nat} (h : EncAt a m e ns) : ∀ k ∈ ns, ∃ o, Eng.look m k = some o := by
  obtain ⟨v, rs, rfl, h1, h2, h3, h4⟩ := h
  intro k hk
  rcases List.mem_cons.1 hk with rfl | hk
  · exact ⟨_, h1⟩
  · exact h2.live k hk
theorem liveS {m : Mem} {ns : List Nat} (h : ∀ k ∈ ns, ∃ o, Eng.look m k = some o) : ∀ k ∈ ns, (Eng.look m k).isSome = true := fun k hk => by obtain ⟨o, ho⟩ := h k hk; rw [ho]; rfl
theorem nin2 {p a : Nat} {rs : List Nat} (h : p ∉ a :: rs) : (p == a) = false ∧ rs.contains p = false := by
  refine ⟨by rw [beq_eq_false_iff_ne]; exact fun e => h (by rw [e]; exact .head _), ?_⟩
  cases hc : rs.contains p with
  | false => rfl
  | true => exact absurd (.tail _ (List.contains_iff_mem.1 hc)) h
/-- other cells of the same coder -/
theorem EncAt.set {a : Nat} {m : Mem} {e : ES} {ns : List Nat} (h : EncAt a m e ns) (e' : ES) (ho : e'.out = e.out) : ∃ v, Eng.look m a = some (eO v e) ∧ EncAt a (Eng.upd m a (eO v e')) e' ns ∧ a ∈ ns ∧ mapOf [v] = none ∧ one1 v = true ∧ isTup v = false ∧ acells v = [v] := by
  obtain ⟨v, rs, rfl, h1, h2, h3, h4⟩ := h
  obtain ⟨q1, q2, q3, q4, q5⟩ := h2.facts
  refine ⟨v, h1, ⟨v, rs, rfl, look_upd_same _ h1, ?_, by rw [ho]; exact h3, h4⟩, .head _, q1, q2, q3, q4⟩
  rw [ho]
  exact h2.ext fun k hk o ho => by rw [look_upd_other _ (fun e => h4 (by rw [e]; exact hk))]; exact ho
def bxO (a : Nat) : AObj := .cells [.ptr a 0] 63
def crO (c : BitVec 8) : AObj := .cells [.int .u8 (c.toNat : Int)] 5
set_option maxHeartbeats 1000000 in
/-- a byte is put out -/
theorem writeOk {wr : Nat → Bool} {m : Mem} {nx a p k : Nat} {e : ES} {ns : List Nat} (D : Rdm wr m nx) (lt : ∀ p ∈ m, p.1 < nx) (h : EncAt a m e ns) (hw : ∀ k ∈ ns, wr k = true) (q c : BitVec 8) (hp : Eng.look m p = some (bxO a)) (hk : Eng.look m k = some (crO c)) (np : p ∉ ns) (nk : k ∉ ns) (hl : e.out.length ≤ 2000000) :
    CallG false Try.prog 154 [.int .u8 (q.toNat : Int), .ptr p 0, .ptr k 0] wr m nx (OwK (EncAt a) (.tup []) (wrS e (q + c)) ns m nx) := by
  refine fn_okG Try.func154 rfl (by show 3 ≤ _; decide) ?_
  have live := liveS h.live
  obtain ⟨v, rs, rfl, h1, h2, h3, h4⟩ := h
  have h1' := h1
  have hp' := hp
  have hk' := hk
  unfold eO at h1
  unfold bxO at hp
  unfold crO at hk
  have al := look_ltm lt h1
  have pl := look_ltm lt hp
  have kl := look_ltm lt hk
  obtain ⟨q1, q2, q3, q4, q5⟩ := h2.facts
  have f1 : decide (nx ≤ a) = false := decide_eq_false (by omega)
  have f2 : decide (nx ≤ p) = false := decide_eq_false (by omega)
  have f3 : decide (nx ≤ k) = false := decide_eq_false (by omega)
  obtain ⟨u1, u2⟩ := nin2 np
  obtain ⟨u3, u4⟩ := nin2 nk
  simp (maxSteps := 1000000) -implicitDefEqProofs only [go_sem, seval, -List.reduceReplicate, Try.results154, Try.ntmps154]
  refine ⟨Fx.mixed, .inr (.inl ⟨[(0, false), (1, false), (2, false), (3, false), (4, false), (5, false), (6, false), (7, false), (8, true), (9, true), (10, false), (11, false), (12, true)], a :: rs, [9, 12], [4], by kernel_rfl, by kernel_rfl, (fun j hj => ⟨hw j hj, live j hj⟩), ?_⟩)⟩
  have t1 : List.take 1 ((List.replicate 1 0#8).set 0 (q + c)) = [q + c] := rfl
  simp (maxSteps := 1000000) -implicitDefEqProofs only [go_sem, seval, -List.reduceReplicate, h1, hp, hk, f1, f2, f3, q1, q2, q3, q4, q5, u1, u2, u3, u4, beq_self_eq_true, t1]
  refine ⟨.inr trivial, ?_⟩
  have gc := Gr.cons D.nd lt (.cells (bvs .u8 ((List.replicate 1 0#8).set 0 (q + c))) 5)
  have rlt := h2.lt lt
  refine appk_by (Y := [q + c]) (h2.grow gc) h3 gc.nd (fun n hn => by simp [wrD]; omega) gc.lt (fun j hj => by simp [wrD, hj]) (by rw [List.length_singleton]; omega) ?_
  intro v' m' nx' rs' c1 c2 c3 c4 c5 c6 c7 c8
  obtain ⟨p1, p2, p3, p4, p5⟩ := c1.facts
  have ha := c7 a _ h4 (gc.kp a _ h1')
  have ha' := ha
  unfold eO at ha
  simp (maxSteps := 1000000) -implicitDefEqProofs only [go_sem, seval, -List.reduceReplicate, ha, f1, p1, p2, p3, p4, p5]
  have c4' : ∀ j ∈ rs', j ∈ rs ∨ nx ≤ j := fun j hj => (c4 j hj).imp id (fun h => by omega)
  have na : a ∉ rs' := fun hm => by
    rcases c4' a hm with h | h
    · exact h4 h
    · omega
  have DU := (rdmT (nx := nx') c5).upd a (eO v' (wrS e (q + c)))
  have fr : Fr (a :: rs) m nx (Eng.upd m' a (eO v' (wrS e (q + c)))) nx' := ⟨by omega, DU.nd, upd_lt c6 a _, fun j o hj ho => by
    rw [look_upd_other _ (fun e => hj (by rw [← e]; exact .head _))]
    exact c7 j o (fun h => hj (.tail _ h)) (gc.kp j o ho)⟩
  refine fr.fin D hw (ns' := a :: rs') ⟨v', rs', rfl, look_upd_same _ ha', ?_, c2, na⟩ ?_
  · exact c1.ext fun j hj o ho => by rw [look_upd_other _ (fun e => na (by rw [e]; exact hj))]; exact ho
  · intro j hj
    rcases List.mem_cons.1 hj with rfl | hj
    · exact .inl (.head _)
    · exact (c4' j hj).imp (.tail _) id
/-- two names are of one frame -/
theorem EncAt.fr {a : Nat} {m m' : Mem} {nx nx' : Nat} {e : ES} {ns : List Nat} (h : EncAt a m e ns) (g : Gr m nx m' nx') : EncAt a m' e ns := h.ext fun k _ o => g.kp k o
theorem EncAt.lt {a : Nat} {m : Mem} {nx : Nat} {e : ES} {ns : List Nat} (h : EncAt a m e ns) (lt : ∀ p ∈ m, p.1 < nx) : ∀ k ∈ ns, k < nx := fun k hk => by
  obtain ⟨o, ho⟩ := h.live k hk
  exact look_ltm lt ho
set_option maxHeartbeats 2000000 in
/-- the highest byte is put out -/
theorem putEOk {wr : Nat → Bool} {m : Mem} {nx a : Nat} {e : ES} {ns : List Nat} (D : Rdm wr m nx) (lt : ∀ p ∈ m, p.1 < nx) (h : EncAt a m e ns) (hw : ∀ k ∈ ns, wr k = true) (hb : e.out.length + e.full ≤ 1000000) :
    CallG false Try.prog 106 [.ptr a 0] wr m nx (OwK (EncAt a) (.tup []) (putS e) ns m nx) := by
  refine fn_okG Try.func106 rfl (by show 1 ≤ _; decide) ?_
  have wf : IntKind.i64.wrap ((e.full : Int) + 1) = ((e.full + 1 : Nat) : Int) := by rw [wrap_i64] <;> omega
  obtain ⟨v, h1, _⟩ := h.set e rfl
  have al := look_ltm lt h1
  have h1' := h1
  unfold eO at h1
  have f1 : decide (nx ≤ a) = false := decide_eq_false (by omega)
  have fa : (nx = a) = False := eq_false (by omega)
  have fb : (nx + 1 = a) = False := eq_false (by omega)
  have g1 := Gr.cons D.nd lt (bxO a)
  have g2 := g1.trans (Gr.cons g1.nd g1.lt (crO (carry e)))
  have D2 := g2.rdm D
  have hE := h.fr g2
  have w1 := D.wn nx (Nat.le_refl _)
  have w2 := D.wn (nx + 1) (Nat.le_succ _)
  have nlt := h.lt lt
  have np : nx ∉ ns := fun hm => by have := nlt nx hm; omega
  have nk : nx + 1 ∉ ns := fun hm => by have := nlt _ hm; omega
  have hbx : Eng.look ((nx + 1, crO (carry e)) :: (nx, bxO a) :: m) nx = some (bxO a) := by rw [look_cons, if_neg (by omega), look_cons, if_pos rfl]
  have hcx : Eng.look ((nx + 1, crO (carry e)) :: (nx, bxO a) :: m) (nx + 1) = some (crO (carry e)) := by rw [look_cons, if_pos rfl]
  rcases Decidable.em (0 < (carry e).toNat ∨ e.low.toNat < 4278190080) with hd | hd
  · have hP : putS e = ⟨lowN e.low, e.size, (e.low >>> 24).setWidth 8, 0, e.out ++ [e.held + carry e] ++ List.replicate e.full (255#8 + carry e)⟩ := by rw [putS, if_pos hd]
    have hc : (decide (((carry e).toNat : Int) > 0) = true ∧ True) ∨ (decide (((carry e).toNat : Int) > 0) = false ∧ decide ((e.low.toNat : Int) < 4278190080) = true) := by
      rcases Nat.lt_or_ge 0 (carry e).toNat with hc | hc
      · exact .inl ⟨decide_eq_true (by omega), trivial⟩
      · exact .inr ⟨decide_eq_false (by omega), decide_eq_true (by omega)⟩
    rcases hc with ⟨c1, c2⟩ | ⟨c1, c2⟩ <;> (
      simp (maxSteps := 1000000) -implicitDefEqProofs only [go_sem, seval, -List.reduceReplicate, Try.results106, Try.ntmps106, h1, fa, fb, carryE, w1, w2, c1, c2]
      refine (writeOk D2 g2.lt hE hw e.held (carry e) hbx hcx np nk (by omega)).weak ?_
      rintro v3 m3 nx3 ⟨rfl, fr3, ns3, h3, hn3⟩
      have hb3 := fr3.kp nx _ np hbx
      have hc3 := fr3.kp (nx + 1) _ nk hcx
      unfold bxO at hb3
      obtain ⟨v4, h4, _⟩ := h3.set (wrS e (e.held + carry e)) rfl
      unfold eO at h4
      simp (maxSteps := 1000000) -implicitDefEqProofs only [go_sem, seval, -List.reduceReplicate, hb3, h4, wrS]
      have D3 := fr3.rdm D2 hw
      have F3 : Fr ns m nx m3 nx3 := ((Fr.gr g2).trans fr3 lt fun k hk => .inl hk)
      have h3 : EncAt a m3 (puI e 0) ns3 := by rw [puI_0]; exact h3
      refine LoopOk.upX (fun i (x : List Nat × Mem × Nat) => EncAt a x.2.1 (puI e i) x.1 ∧ Fr ns m nx x.2.1 x.2.2 ∧ (∀ k ∈ x.1, k ∈ ns ∨ nx + 1 + 1 ≤ k) ∧ Eng.look x.2.1 nx = some (bxO a) ∧ Eng.look x.2.1 (nx + 1) = some (crO (carry e))) e.full (fun i x => ([(30, .int .i64 (i : Nat)), (29, .int .i64 (e.full : Nat)), (3, .fn (.func 154) [] [.ptr nx 0, .ptr (nx + 1) 0]), (1, .ptr nx 0)], x.2.1, x.2.2)) (ns3, m3, nx3) ⟨h3, F3, hn3, hb3, hc3⟩ ?_ ?_
      · exact D3.leN F3.le ⟨rfl, rfl, rfl, rfl, trivial⟩
      rintro i ⟨ns5, m5, nx5⟩ ⟨hi, a1, a2, a3, a4, a5⟩
      have a1 : EncAt a m5 (puI e i) ns5 := a1
      have a2 : Fr ns m nx m5 nx5 := a2
      have a3 : ∀ k ∈ ns5, k ∈ ns ∨ nx + 1 + 1 ≤ k := a3
      have a4 : Eng.look m5 nx = some (bxO a) := a4
      have a5 : Eng.look m5 (nx + 1) = some (crO (carry e)) := a5
      have D5 := a2.rdm D hw
      have np5 : nx ∉ ns5 := fun hm => by
        rcases a3 nx hm with h | h
        · exact np h
        · omega
      have nk5 : nx + 1 ∉ ns5 := fun hm => by
        rcases a3 (nx + 1) hm with h | h
        · exact nk h
        · omega
      have hw5 : ∀ k ∈ ns5, wr k = true := fun k hk => by
        rcases a3 k hk with h | h
        · exact hw k h
        · exact D.wn k (by omega)
      have hpl := puI_len e i
      rcases Nat.lt_or_ge i e.full with h | h
      · have g1 : decide ((i : Int) < (e.full : Int)) = true := decide_eq_true (by omega)
        have wi : IntKind.i64.wrap ((i : Int) + 1) = ((i + 1 : Nat) : Int) := by rw [wrap_i64] <;> omega
        simp (maxSteps := 1000000) -implicitDefEqProofs only [go_sem, seval, -List.reduceReplicate, g1]
        refine (writeOk D5 a2.lt a1 hw5 255#8 (carry e) a4 a5 np5 nk5 (by omega)).weak ?_
        rintro v6 m6 nx6 ⟨rfl, fr6, ns6, h6, hn6⟩
        rw [puI_succ] at h6
        simp (maxSteps := 1000000) -implicitDefEqProofs only [go_sem, seval, -List.reduceReplicate, wi]
        have le5 := a2.le
        have g5 : nx + 1 < nx5 := look_ltm a2.lt a5
        refine UpX_normal h (ns6, m6, nx6) ⟨h6, a2.trans fr6 lt (fun k hk => (a3 k hk).imp id fun h => by omega), fun k hk => ?_, fr6.kp _ _ np5 a4, fr6.kp _ _ nk5 a5⟩ ((fr6.rdm D5 hw5).leN (Nat.le_trans le5 fr6.le) ⟨rfl, rfl, rfl, rfl, trivial⟩)
        rcases hn6 k hk with h | h
        · exact a3 k h
        · exact .inr (by omega)
      · have hie : i = e.full := by omega
        have g1 : decide ((i : Int) < (e.full : Int)) = false := decide_eq_false (by omega)
        obtain ⟨v7, h7, b1, b2, b3⟩ := a1.set (putS e) (by rw [hP, hie]; rfl)
        have h7' := h7
        unfold eO at h7
        unfold bxO at a4
        have al5 := look_ltm a2.lt h7'
        have gl5 : nx < nx5 := look_ltm a2.lt a4
        have e1 : decide (nx5 ≤ a) = false := decide_eq_false (by omega)
        have e2 : decide (nx5 ≤ nx) = false := decide_eq_false (by omega)
        have e3 : (nx == a) = false := by rw [beq_eq_false_iff_ne]; exact fun h => np5 (by rw [h]; exact b2)
        have live := liveS a1.live
        simp (maxSteps := 1000000) -implicitDefEqProofs only [go_sem, seval, -List.reduceReplicate, g1]
        refine ⟨Fx.mixed, .inr (.inl ⟨[(0, false), (1, false), (2, false), (3, false), (4, false), (5, false), (6, false), (7, false), (8, false), (9, false), (10, true), (11, false), (12, false), (13, true)], [a], [10, 13], [5], by kernel_rfl, by kernel_rfl, (fun j hj => by cases List.mem_singleton.1 hj; exact ⟨hw5 a b2, live a b2⟩), ?_⟩)⟩
        simp (maxSteps := 1000000) -implicitDefEqProofs only [go_sem, seval, -List.reduceReplicate, a4, h7, e1, e2, e3, beq_self_eq_true, puI, look_upd_s, upd_upd, Option.isSome_some]
        have fin1 : Fr ns m nx (Eng.upd m5 a (eO v7 (putS e))) nx5 := a2.trans (Fr.upd D5 a2.lt b2 _) lt (fun k hk => (a3 k hk).imp id fun h => by omega)
        refine ⟨Fx.mixed, .inr (.inl ⟨[(0, false), (1, false), (2, false), (3, false), (4, false), (5, false), (6, false), (7, false), (8, false), (9, true)], [a], [9], [4], by kernel_rfl, by kernel_rfl, (fun j hj => by cases List.mem_singleton.1 hj; exact ⟨hw5 a b2, by rw [look_upd_same _ h7']; rfl⟩), ?_⟩)⟩
        have e4 : Eng.look (Eng.upd m5 a (.cells [.int .u64 (e.low.toNat : Int), .int .u32 (e.size.toNat : Int), .int .u8 ((BitVec.setWidth 8 (e.low >>> 24)).toNat : Int), .int .i64 0, v7] 156)) nx = some (bxO a) := by
          rw [look_upd_other _ (fun h => np5 (by rw [← h]; exact b2))]; exact a4
        unfold bxO at e4
        simp (maxSteps := 1000000) -implicitDefEqProofs only [go_sem, seval, -List.reduceReplicate, e4, h7, e1, e2, e3, beq_self_eq_true, look_upd_s, upd_upd, Option.isSome_some, lowE]
        have e5 : eO v7 (putS e) = .cells [.int .u64 ((lowN e.low).toNat : Int), .int .u32 (e.size.toNat : Int), .int .u8 ((BitVec.setWidth 8 (e.low >>> 24)).toNat : Int), .int .i64 0, v7] 156 := by rw [hP]; rfl
        rw [← e5]
        exact fin1.fin D hw b1 fun k hk => (a3 k hk).imp id fun h => by omega)
  · have hP : putS e = ⟨lowN e.low, e.size, e.held, e.full + 1, e.out⟩ := by rw [putS, if_neg hd]
    have c1 : decide (((carry e).toNat : Int) > 0) = false := decide_eq_false (by omega)
    have c2 : decide ((e.low.toNat : Int) < 4278190080) = false := decide_eq_false (by omega)
    obtain ⟨v7, h7, b1, b2, b3⟩ := h.set (putS e) (by rw [hP])
    have h7' := h7
    unfold eO at h7
    have wa := hw a b2
    simp (maxSteps := 1000000) -implicitDefEqProofs only [go_sem, seval, -List.reduceReplicate, Try.results106, Try.ntmps106, h7, fa, fb, carryE, w1, w2, c1, c2, wf, wa]
    have e0 := h7'
    obtain ⟨U, hU⟩ : ∃ U : Mem, U = Eng.upd m a (.cells [.int .u64 (e.low.toNat : Int), .int .u32 (e.size.toNat : Int), .int .u8 (e.held.toNat : Int), .int .i64 ((e.full + 1 : Nat) : Int), v7] 156) := ⟨_, rfl⟩
    rw [← hU]
    have hUa : Eng.look U a = some (.cells [.int .u64 (e.low.toNat : Int), .int .u32 (e.size.toNat : Int), .int .u8 (e.held.toNat : Int), .int .i64 ((e.full + 1 : Nat) : Int), v7] 156) := by rw [hU]; exact look_upd_same _ h7'
    have sl : (Eng.look ((nx + 1, AObj.cells [AV.int .u8 ((carry e).toNat : Int)] 5) :: (nx, AObj.cells [AV.ptr a 0] 63) :: U) a).isSome = true := by rw [look_cons, if_neg (by omega), look_cons, if_neg (by omega), hUa]; rfl
    refine ⟨Fx.mixed, .inr (.inl ⟨[(0, false), (1, false), (2, false), (3, false), (4, false), (5, false), (6, false), (7, false), (8, false), (9, true)], [a], [9], [4], by kernel_rfl, by kernel_rfl, (fun j hj => by cases List.mem_singleton.1 hj; exact ⟨wa, sl⟩), ?_⟩)⟩
    have e1 : decide (nx + 1 + 1 ≤ a) = false := decide_eq_false (by omega)
    have e2 : decide (nx + 1 + 1 ≤ nx) = false := decide_eq_false (by omega)
    have e3 : (nx == a) = false := by rw [beq_eq_false_iff_ne]; omega
    have e6 : (nx + 1 = nx) = False := eq_false (by omega)
    simp (maxSteps := 1000000) -implicitDefEqProofs only [go_sem, seval, -List.reduceReplicate, hUa, fa, fb, e1, e2, e3, e6, beq_self_eq_true, lowE]
    have e5 : eO v7 (putS e) = .cells [.int .u64 ((lowN e.low).toNat : Int), .int .u32 (e.size.toNat : Int), .int .u8 (e.held.toNat : Int), .int .i64 ((e.full + 1 : Nat) : Int), v7] 156 := by rw [hP]; rfl
    rw [← e5, hU, upd_upd]
    have F1 := Fr.upd (ns := ns) D lt b2 (eO v7 (putS e))
    have c1 := Gr.cons F1.nd F1.lt (bxO a)
    have c2 := c1.trans (Gr.cons c1.nd c1.lt (crO (carry e)))
    exact (F1.trans (Fr.gr c2) lt fun k hk => .inl hk).fin D hw (b1.fr c2) fun k hk => .inl hk
end Go.Proofs.Ytmdeoikpiiambaa
end
section
/- The coder of bits in any memory: scaling, a bit, plain bits, a new one, its bytes. BRIEF -/
set_option linter.unusedVariables false
set_option linter.unusedSimpArgs false
set_option maxRecDepth 100000
namespace Go.Proofs.Ytmdeoikpiiambaa
open Go Go.Eng

theorem wrT {m0 : Mem} {nx0 : Nat} {ns ns' : List Nat} {wr : Nat → Bool} (D : Rdm wr m0 nx0) (hw : ∀ k ∈ ns, wr k = true) (h : ∀ k ∈ ns', k ∈ ns ∨ nx0 ≤ k) : ∀ k ∈ ns', wr k = true := fun k hk => by
  rcases h k hk with h | h
  · exact hw k h
  · exact D.wn k h
theorem subT {ns ns1 ns2 : List Nat} {nx nx1 : Nat} (h : ∀ k ∈ ns1, k ∈ ns ∨ nx ≤ k) (g : ∀ k ∈ ns2, k ∈ ns1 ∨ nx1 ≤ k) (hn : nx ≤ nx1) : ∀ k ∈ ns2, k ∈ ns ∨ nx ≤ k := fun k hk => by
  rcases g k hk with g | g
  · exact h k g
  · exact .inr (by omega)
set_option maxHeartbeats 1000000 in
theorem sclEOk {wr : Nat → Bool} {m : Mem} {nx a : Nat} {e : ES} {ns : List Nat} (D : Rdm wr m nx) (lt : ∀ p ∈ m, p.1 < nx) (h : EncAt a m e ns) (hw : ∀ k ∈ ns, wr k = true) (hb : e.out.length + e.full + 3 ≤ 1000000) (hr : 1 ≤ e.size.toNat) :
    CallG false Try.prog 238 [.ptr a 0] wr m nx (OwK (EncAt a) (.tup []) (sclE 3 e) ns m nx) := by
  refine fn_okG Try.func238 rfl (by show 1 ≤ _; decide) ?_
  simp (maxSteps := 1000000) -implicitDefEqProofs only [go_sem, seval, -List.reduceReplicate, Try.results238, Try.ntmps238]
  refine LoopOk.upX (fun i (x : ES × List Nat × Mem × Nat) => EncAt a x.2.2.1 x.1 x.2.1 ∧ Fr ns m nx x.2.2.1 x.2.2.2 ∧ (∀ k ∈ x.2.1, k ∈ ns ∨ nx ≤ k) ∧ sclE (3 - i) x.1 = sclE 3 e ∧ 16777216 ≤ x.1.size.toNat * 256 ^ (3 - i) ∧ x.1.out.length + x.1.full = e.out.length + e.full + i) 3
    (fun i x => ([(0, .ptr a 0)], x.2.2.1, x.2.2.2)) (e, ns, m, nx) ⟨h, .refl D.nd lt, fun k hk => .inl hk, rfl, by show 16777216 ≤ e.size.toNat * 16777216; omega, rfl⟩ (D.le ⟨rfl, trivial⟩) ?_
  rintro i ⟨y, ns1, m1, nx1⟩ ⟨hi, a1, a2, a3, a4, a5, a6⟩
  have a1 : EncAt a m1 y ns1 := a1
  have a2 : Fr ns m nx m1 nx1 := a2
  have a3 : ∀ k ∈ ns1, k ∈ ns ∨ nx ≤ k := a3
  have a4 : sclE (3 - i) y = sclE 3 e := a4
  have a5 : 16777216 ≤ y.size.toNat * 256 ^ (3 - i) := a5
  have a6 : y.out.length + y.full = e.out.length + e.full + i := a6
  have D1 := a2.rdm D hw
  have hw1 := wrT D hw a3
  rcases Nat.lt_or_ge y.size.toNat 16777216 with h | h
  · have g1 : decide ((y.size.toNat : Int) < 16777216) = true := decide_eq_true (by omega)
    have hi3 : i < 3 := by
      rcases Nat.lt_or_ge i 3 with g | g
      · exact g
      · rw [show 3 - i = 0 by omega] at a5; omega
    have hst : sclE (3 - (i + 1)) (putS (szE y (y.size <<< 8))) = sclE 3 e := by
      rw [← a4, show 3 - i = (3 - (i + 1)) + 1 by omega, sclE, if_neg (by omega)]
    have hr2 := shl8 y.size h
    have hp : 256 ^ (3 - i) = 256 * 256 ^ (3 - (i + 1)) := by rw [show 3 - i = (3 - (i + 1)) + 1 by omega, Nat.pow_succ, Nat.mul_comm]
    obtain ⟨l1, l2⟩ := putS_len (szE y (y.size <<< 8))
    obtain ⟨v, h1, b1, b2, b3⟩ := a1.set (szE y (y.size <<< 8)) rfl
    have h1' := h1
    unfold eO at h1
    have wa := hw1 a b2
    have F2 := Fr.upd (ns := ns1) D1 a2.lt b2 (eO v (szE y (y.size <<< 8)))
    have D2 := F2.rdm D1 hw1
    simp (maxSteps := 1000000) -implicitDefEqProofs only [go_sem, seval, -List.reduceReplicate, g1, h1, wa]
    refine (putEOk D2 F2.lt b1 hw1 (by show y.out.length + y.full ≤ _; omega)).weak ?_
    rintro v3 m3 nx3 ⟨rfl, fr3, ns3, h3, hn3⟩
    simp (maxSteps := 1000000) -implicitDefEqProofs only [go_sem, seval, -List.reduceReplicate]
    have F3 : Fr ns m nx m3 nx3 := a2.trans (F2.trans fr3 a2.lt fun k hk => .inl hk) lt a3
    exact UpX_normal hi3 (putS (szE y (y.size <<< 8)), ns3, m3, nx3) ⟨h3, F3, subT a3 hn3 a2.le, hst, by rw [l2]; show _ ≤ (y.size <<< 8).toNat * _; rw [hr2, Nat.mul_assoc, ← hp]; exact a5, by rw [l1]; show y.out.length + y.full + 1 = _; omega⟩ ((fr3.rdm D2 hw1).leN F3.le ⟨rfl, trivial⟩)
  · have g1 : decide ((y.size.toNat : Int) < 16777216) = false := decide_eq_false (by omega)
    have hst : y = sclE 3 e := by
      rw [← a4]
      cases hc : 3 - i with
      | zero => rfl
      | succ f => rw [sclE, if_pos (by omega)]
    obtain ⟨v, h1, b1, b2, b3⟩ := a1.set y rfl
    unfold eO at h1
    simp (maxSteps := 1000000) -implicitDefEqProofs only [go_sem, seval, -List.reduceReplicate, g1, h1]
    rw [hst] at a1
    exact a2.fin D hw a1 a3
theorem efairOk (c : BitVec 16) : CallG false Try.prog 237 [.int .u16 (c.toNat : Int)] (fun _ => true) [] 0 fun v m nx => v = .int .u16 ((fairV c).toNat : Int) ∧ m = [] ∧ nx = 0 := by
  refine fn_okG Try.func237 rfl (by show 1 ≤ _; decide) ?_
  have hc := c.isLt
  rcases Nat.lt_or_ge c.toNat 1 with h | h
  · have e1 : decide ((c.toNat : Int) < 1) = true := decide_eq_true (by omega)
    have hf : fairV c = 1024#16 := by rw [fairV, if_pos (.inl h)]
    simp (maxSteps := 1000000) -implicitDefEqProofs only [go_sem, seval, -List.reduceReplicate, Try.results237, Try.ntmps237, e1, hf]
    exact Fin.flatv (fun _ => rfl) (fun f => rfl) ⟨rfl, rfl, rfl⟩
  have e1 : decide ((c.toNat : Int) < 1) = false := decide_eq_false (by omega)
  rcases Nat.lt_or_ge c.toNat 2048 with h2 | h2
  · have e2 : decide ((c.toNat : Int) ≥ 2048) = false := decide_eq_false (by omega)
    have hf : fairV c = c := by rw [fairV, if_neg (by omega)]
    simp (maxSteps := 1000000) -implicitDefEqProofs only [go_sem, seval, -List.reduceReplicate, Try.results237, Try.ntmps237, e1, e2, hf]
    exact Fin.flatv (fun _ => rfl) (fun f => rfl) ⟨rfl, rfl, rfl⟩
  · have e2 : decide ((c.toNat : Int) ≥ 2048) = true := decide_eq_true (by omega)
    have hf : fairV c = 1024#16 := by rw [fairV, if_pos (.inr h2)]
    simp (maxSteps := 1000000) -implicitDefEqProofs only [go_sem, seval, -List.reduceReplicate, Try.results237, Try.ntmps237, e1, e2, hf]
    exact Fin.flatv (fun _ => rfl) (fun f => rfl) ⟨rfl, rfl, rfl⟩
set_option maxHeartbeats 1000000 in
theorem bitEOk {wr : Nat → Bool} {m : Mem} {nx a : Nat} {e : ES} {ns : List Nat} (D : Rdm wr m nx) (lt : ∀ p ∈ m, p.1 < nx) (h : EncAt a m e ns) (hw : ∀ k ∈ ns, wr k = true) (hb : encB e 1) (ch : BitVec 16) (w : Bool) :
    CallG false Try.prog 235 [.ptr a 0, .int .u16 (ch.toNat : Int), .int .i64 (bitI w)] wr m nx (OwK (EncAt a) (.tup [.int .i64 (bitI w), .int .u16 ((nxB (fairV ch) w).toNat : Int)]) (bitE e (fairV ch) w) ns m nx) := by
  obtain ⟨p1, p2⟩ := fairV_range ch
  obtain ⟨hr, hb⟩ := hb
  obtain ⟨b1, b2⟩ := bnd_range e.size (fairV ch) p1 p2 hr
  refine fn_okG Try.func235 rfl (by show 3 ≤ _; decide) ?_
  simp (maxSteps := 1000000) -implicitDefEqProofs only [go_sem, seval, -List.reduceReplicate, Try.results235, Try.ntmps235]
  refine (efairOk ch).flat0 ⟨rfl, trivial⟩ (fun _ => rfl) rfl ?_
  generalize fairV ch = p at *
  have hbd : e.size >>> 11 * BitVec.setWidth 32 p = bnd e.size p := rfl
  cases w with
  | true =>
    obtain ⟨v, h1, c1, c2, c3⟩ := h.set (bit1 e (bnd e.size p) true) rfl
    unfold eO at h1
    have wa := hw a c2
    have F2 := Fr.upd (ns := ns) D lt c2 (eO v (bit1 e (bnd e.size p) true))
    have D2 := F2.rdm D hw
    have hS := sclEOk D2 F2.lt c1 hw (by show e.out.length + e.full + 3 ≤ _; omega) (by show 1 ≤ (e.size - bnd e.size p).toNat; rw [subN _ _ (by omega)]; omega)
    simp (maxSteps := 1000000) -implicitDefEqProofs only [go_sem, seval, -List.reduceReplicate, bitI, h1, wa, hbd, look_upd_s, upd_upd, Option.isSome_some]
    refine CallG.weak hS ?_
    rintro v3 m3 nx3 ⟨rfl, fr3, ns3, h3, hn3⟩
    simp (maxSteps := 1000000) -implicitDefEqProofs only [go_sem, seval, -List.reduceReplicate]
    exact (F2.trans fr3 lt fun k hk => .inl hk).fin D hw h3 hn3
  | false =>
    obtain ⟨v, h1, c1, c2, c3⟩ := h.set (bit1 e (bnd e.size p) false) rfl
    unfold eO at h1
    have wa := hw a c2
    have F2 := Fr.upd (ns := ns) D lt c2 (eO v (bit1 e (bnd e.size p) false))
    have D2 := F2.rdm D hw
    have hS := sclEOk D2 F2.lt c1 hw (by show e.out.length + e.full + 3 ≤ _; omega) (by show 1 ≤ (bnd e.size p).toNat; omega)
    simp (maxSteps := 1000000) -implicitDefEqProofs only [go_sem, seval, -List.reduceReplicate, bitI, h1, wa, hbd, look_upd_s, upd_upd, Option.isSome_some]
    refine CallG.weak hS ?_
    rintro v3 m3 nx3 ⟨rfl, fr3, ns3, h3, hn3⟩
    simp (maxSteps := 1000000) -implicitDefEqProofs only [go_sem, seval, -List.reduceReplicate]
    exact (F2.trans fr3 lt fun k hk => .inl hk).fin D hw h3 hn3
set_option maxHeartbeats 1000000 in
theorem plEOk {wr : Nat → Bool} {m : Mem} {nx a : Nat} {e : ES} {ns : List Nat} (D : Rdm wr m nx) (lt : ∀ p ∈ m, p.1 < nx) (h : EncAt a m e ns) (hw : ∀ k ∈ ns, wr k = true) (hb : encB e 1) (v : BitVec 32) (N : Nat) (hN : N ≤ 32) :
    CallG false Try.prog 236 [.ptr a 0, .int .u32 (v.toNat : Int), .int .i64 (N : Nat)] wr m nx (OwK (EncAt a) (.int .u32 ((plO v N N).toNat : Int)) (plE e v N N) ns m nx) := by
  obtain ⟨hr, hb⟩ := hb
  have hmin : (if (if (32 : Int) < (N : Int) then (32 : Int) else (N : Int)) > 0 then (if (32 : Int) < (N : Int) then (32 : Int) else (N : Int)) else 0) = (N : Int) := by
    rw [if_neg (show ¬ (32 : Int) < (N : Int) by omega)]
    split
    · rfl
    · omega
  refine fn_okG Try.func236 rfl (by show 3 ≤ _; decide) ?_
  have wN : IntKind.i64.wrap ((N : Int) - 1) = (N : Int) - 1 := by rw [wrap_i64] <;> omega
  simp (maxSteps := 1000000) -implicitDefEqProofs only [go_sem, seval, -List.reduceReplicate, Try.results236, Try.ntmps236, hmin, wN]
  refine LoopOk.upX (fun j (x : List Nat × Mem × Nat) => EncAt a x.2.1 (plE e v N j) x.1 ∧ Fr ns m nx x.2.1 x.2.2 ∧ ∀ k ∈ x.1, k ∈ ns ∨ nx ≤ k) N
    (fun j x => ([(8, .int .i64 ((N : Int) - 1 - j)), (7, .int .u32 ((plO v N j).toNat : Int)), (1, .int .u32 (v.toNat : Int)), (0, .ptr a 0)], x.2.1, x.2.2)) (ns, m, nx) ⟨h, .refl D.nd lt, fun k hk => .inl hk⟩ (D.le ⟨by simp [Eng.look], rfl, rfl, rfl, trivial⟩) ?_
  rintro j ⟨ns1, m1, nx1⟩ ⟨hj, a1, a2, a3⟩
  have a1 : EncAt a m1 (plE e v N j) ns1 := a1
  have a2 : Fr ns m nx m1 nx1 := a2
  have a3 : ∀ k ∈ ns1, k ∈ ns ∨ nx ≤ k := a3
  have D1 := a2.rdm D hw
  have hw1 := wrT D hw a3
  have hlen := plE_len e v N j
  have hsz := plE_size e v N hr j
  have hh := half_nat (plE e v N j).size
  have e1 : plE e v N (j + 1) = sclE 3 (pl1 (plE e v N j) (plB v N j)) := rfl
  have e2 : plO v N (j + 1) = plO v N j <<< 1 ||| plB v N j := rfl
  rcases Nat.lt_or_ge j N with h | h
  · have g1 : decide ((N : Int) - 1 - (j : Int) ≥ 0) = true := decide_eq_true (by omega)
    have wi : IntKind.i64.wrap ((N : Int) - 1 - (j : Int) - 1) = (N : Int) - 1 - ((j + 1 : Nat) : Int) := by rw [wrap_i64] <;> omega
    have hi : (N : Int) - 1 - (j : Int) = ((N - 1 - j : Nat) : Int) := by omega
    obtain ⟨u, h1, c1, c2, c3⟩ := a1.set (pl1 (plE e v N j) (plB v N j)) rfl
    have h1' := h1
    unfold eO at h1
    have wa := hw1 a c2
    have al := look_ltm a2.lt h1'
    have F2 := Fr.upd (ns := ns1) D1 a2.lt c2 (eO u (pl1 (plE e v N j) (plB v N j)))
    have D2 := F2.rdm D1 hw1
    have hS := sclEOk D2 F2.lt c1 hw1 (by show (plE e v N j).out.length + (plE e v N j).full + 3 ≤ _; omega) (by show 1 ≤ ((plE e v N j).size >>> 1).toNat; omega)
    rw [← e1] at hS
    rw [hi] at g1 wi
    have hb1 : (v >>> (N - 1 - j)) &&& 1#32 = plB v N j := rfl
    have f1 : decide (nx1 ≤ a) = false := decide_eq_false (by omega)
    simp (maxSteps := 1000000) -implicitDefEqProofs only [go_sem, seval, -List.reduceReplicate, hi, g1, h1, wa]
    refine ⟨Fx.mixed, .inr (.inl ⟨[(0, false), (1, false), (2, false), (3, false), (4, false), (5, false), (6, false), (7, false), (8, false), (9, false), (10, false), (11, false), (12, false), (13, false), (14, false), (15, true)], [a], [15], [3, 7], by kernel_rfl, by kernel_rfl, (fun j hj => by cases List.mem_singleton.1 hj; exact ⟨wa, by rw [look_upd_same _ h1']; rfl⟩), ?_⟩)⟩
    simp (maxSteps := 1000000) -implicitDefEqProofs only [go_sem, seval, -List.reduceReplicate, h1, f1, beq_self_eq_true, look_upd_s, upd_upd, Option.isSome_some, hb1]
    refine CallG.weak hS ?_
    rintro v3 m3 nx3 ⟨rfl, fr3, ns3, h3, hn3⟩
    simp (maxSteps := 1000000) -implicitDefEqProofs only [go_sem, seval, -List.reduceReplicate, wi]
    have F3 : Fr ns m nx m3 nx3 := a2.trans (F2.trans fr3 a2.lt fun k hk => .inl hk) lt a3
    exact UpX_normal h (ns3, m3, nx3) ⟨h3, F3, subT a3 hn3 a2.le⟩ ((fr3.rdm D2 hw1).leN F3.le ⟨rfl, rfl, rfl, rfl, trivial⟩)
  · have hj' : j = N := by omega
    have g1 : decide ((N : Int) - 1 - (j : Int) ≥ 0) = false := decide_eq_false (by omega)
    have hv : plO v N N = plO v N j := by rw [hj']
    have hy : plE e v N N = plE e v N j := by rw [hj']
    rw [hv, hy]
    simp (maxSteps := 1000000) -implicitDefEqProofs only [go_sem, seval, -List.reduceReplicate, g1]
    exact a2.fin D hw a1 a3
/-- bytes that a call answers; memory only grew -/
def BsK (X : List (BitVec 8)) (m : Mem) (nx : Nat) : Kv := fun v m' nx' => ∃ ns, ByAt 5 m' v X ns ∧ v ≠ .ro X.length (bvs .u8 X) ∧ (∀ k ∈ ns, nx ≤ k) ∧ Gr m nx m' nx'
theorem tk5 (a b c d f : AV) : List.take 5 [a, b, c, d, f] = [a, b, c, d, f] := rfl
theorem spl5 (a b c d f a' b' c' d' f' : AV) : spl [a, b, c, d, f] 0 [a', b', c', d', f'] = [a', b', c', d', f'] := rfl
set_option maxHeartbeats 1000000 in
theorem bytEOk {wr : Nat → Bool} {m : Mem} {nx a : Nat} {e : ES} {ns : List Nat} (D : Rdm wr m nx) (lt : ∀ p ∈ m, p.1 < nx) (h : EncAt a m e ns) (hb : e.out.length + e.full + 5 ≤ 1000000) :
    CallG false Try.prog 51 [.ptr a 0] wr m nx (BsK (bytE e) m nx) := by
  refine fn_okG Try.func51 rfl (by show 1 ≤ _; decide) ?_
  have ltn := h.lt lt
  obtain ⟨v, rs, rfl, h1, h2, h3, h4⟩ := h
  obtain ⟨q1, q2, q3, q4, q5⟩ := h2.facts
  have h1' := h1
  unfold eO at h1
  have al := look_ltm lt h1'
  have fa : (nx = a) = False := eq_false (by omega)
  have fb : (nx + 1 = a) = False := eq_false (by omega)
  have fc : (nx + 1 = nx) = False := eq_false (by omega)
  have w1 := D.wn nx (Nat.le_refl _)
  have gc1 := Gr.cons D.nd lt (eO v e)
  have gc2 := gc1.trans (Gr.cons gc1.nd gc1.lt (.cells [] 5))
  have zs := (h2.grow gc2).src
  simp only [srcx, Nat.mul_one, Eng.look] at zs
  unfold eO at zs
  simp (maxSteps := 1000000) -implicitDefEqProofs only [go_sem, seval, -List.reduceReplicate, Try.results51, Try.ntmps51, h1, fa, fb, fc, w1, tk5, spl5, q1, q2, q3, q4, q5, zs, one1_bvs]
  refine ⟨.inr trivial, ?_⟩
  have r0 : ByAt 5 ((nx + 1, .cells [] 5) :: (nx, eO v e) :: m) (.sl (nx + 1) 0 0 0) [] [nx + 1] := .row (X := []) (sp := []) rfl (by rw [look_cons, if_pos rfl]; rfl) rfl (by decide) rfl
  refine appk_by r0 (fun e => by cases e) gc2.nd (fun n hn => D.wn n (by omega)) gc2.lt (fun k hk => by cases List.mem_singleton.1 hk; exact D.wn _ (by omega)) (by rw [List.length_nil]; omega) ?_
  intro v3 m3 nx3 ns3 b1 b2 b3 b4 b5 b6 b7 b8
  rw [List.nil_append] at b1 b2
  obtain ⟨p1, p2, p3, p4, p5⟩ := b1.facts
  have n3 : ∀ k ∈ ns3, nx + 1 ≤ k := fun k hk => by
    rcases b4 k hk with h | h
    · cases List.mem_singleton.1 h; exact Nat.le_refl _
    · omega
  have hx3 : Eng.look m3 nx = some (eO v e) := b7 nx _ (fun h => by have := List.mem_singleton.1 h; omega) (by rw [look_cons, if_neg (by omega), look_cons, if_pos rfl]; rfl)
  have hx3' := hx3
  unfold eO at hx3
  simp (maxSteps := 1000000) -implicitDefEqProofs only [go_sem, seval, -List.reduceReplicate, hx3, w1, p1, p2, p3, p4, p5]
  have kp3 : ∀ k o, Eng.look m k = some o → Eng.look m3 k = some o := fun k o ho => by
    have := look_ltm lt ho
    exact b7 k o (fun h => by cases List.mem_singleton.1 h; omega) (gc2.kp k o ho)
  have nd4 := ((rdmT (nx := nx3) b5).upd nx (eO v3 e)).nd
  have F4 : Fr [] m nx (Eng.upd m3 nx (eO v3 e)) nx3 := ⟨by omega, nd4, upd_lt b6 nx _, fun k o _ ho => by
    have := look_ltm lt ho
    rw [look_upd_other _ (by omega)]; exact kp3 k o ho⟩
  have E4 : EncAt nx (Eng.upd m3 nx (eO v3 e)) e (nx :: ns3) := ⟨v3, ns3, rfl, look_upd_same _ hx3', b1.ext fun k hk o ho => by rw [look_upd_other _ (by have := n3 k hk; omega)]; exact ho, b2, fun hm => by have := n3 _ hm; omega⟩
  refine LoopOk.upX (fun j (x : List Nat × Mem × Nat) => EncAt nx x.2.1 (putN' e j) x.1 ∧ Fr [] m nx x.2.1 x.2.2 ∧ ∀ k ∈ x.1, nx ≤ k) 5
    (fun j x => ([(16, .int .i64 (j : Nat)), (3, .ptr nx 0)], x.2.1, x.2.2)) (nx :: ns3, Eng.upd m3 nx (eO v3 e), nx3) ⟨E4, F4, fun k hk => by
      rcases List.mem_cons.1 hk with rfl | hk
      · exact Nat.le_refl _
      · have := n3 k hk; omega⟩ ((F4.rdm D fun k hk => by cases hk).leN F4.le ⟨rfl, rfl, trivial⟩) ?_
  rintro j ⟨ns5, m5, nx5⟩ ⟨hj, a1, a2, a3⟩
  have a1 : EncAt nx m5 (putN' e j) ns5 := a1
  have a2 : Fr [] m nx m5 nx5 := a2
  have a3 : ∀ k ∈ ns5, nx ≤ k := a3
  have D5 := a2.rdm D (fun k hk => by cases hk)
  have hw5 : ∀ k ∈ ns5, wr k = true := fun k hk => D.wn k (a3 k hk)
  have hlen := putN_len e j
  rcases Nat.lt_or_ge j 5 with h | h
  · have g1 : decide ((j : Int) < 5) = true := decide_eq_true (by omega)
    have wi : IntKind.i64.wrap ((j : Int) + 1) = ((j + 1 : Nat) : Int) := by rw [wrap_i64] <;> omega
    simp (maxSteps := 1000000) -implicitDefEqProofs only [go_sem, seval, -List.reduceReplicate, g1]
    refine (putEOk D5 a2.lt a1 hw5 (by omega)).weak ?_
    rintro v6 m6 nx6 ⟨rfl, fr6, ns6, h6, hn6⟩
    simp (maxSteps := 1000000) -implicitDefEqProofs only [go_sem, seval, -List.reduceReplicate, wi]
    have F6 : Fr [] m nx m6 nx6 := a2.trans fr6 lt fun k hk => .inr (a3 k hk)
    exact UpX_normal h (ns6, m6, nx6) ⟨h6, F6, fun k hk => by
      rcases hn6 k hk with h | h
      · exact a3 k h
      · have := a2.le; omega⟩ ((fr6.rdm D5 hw5).leN F6.le ⟨rfl, rfl, trivial⟩)
  · have hj5 : j = 5 := by omega
    have g1 : decide ((j : Int) < 5) = false := decide_eq_false (by omega)
    obtain ⟨u, rs5, rfl, k1, k2, k3, k4⟩ := a1
    unfold eO at k1
    obtain ⟨z1, z2, z3, z4, z5⟩ := k2.facts
    simp (maxSteps := 1000000) -implicitDefEqProofs only [go_sem, seval, -List.reduceReplicate, g1, k1, z1, z2, z3, z4, z5]
    rw [hj5] at k2 k3
    refine Fin.keepW (m0 := m5) a2.le (memSame_slf a2.nd) a2.nd D5.kp ⟨rs5, k2, k3, fun k hk => a3 k (.tail _ hk), ⟨a2.le, a2.nd, a2.lt, fun k o ho => a2.kp k o (fun h => by cases h) ho⟩⟩
end Go.Proofs.Ytmdeoikpiiambaa
end
