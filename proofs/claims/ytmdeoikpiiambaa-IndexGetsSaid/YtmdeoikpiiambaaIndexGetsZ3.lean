/- Part 3 of the proof of the statement IndexGets: Eng34, Eng37, Vla, Vlb, Vlc, Fx, Eng21, Eng22, Eng14, Eng24, Eng35, Vld, Vle, Vlf, Vlg, Vlh. -/
import Derived.RangeFuncBox
import Derived.RangeFuncLeaves
import Derived.RangeFuncFrom
import Derived.Shelf.Abstract
import Derived.WalkKit
import Derived.OwnWalkIn
import Derived.TacticsInMore
import Derived.LoopNIn
import Derived.LoopIn
import Derived.Maps.AppendAt
import Derived.Test.YtmdeoikpiiambaaProg
import Derived.Attr
import Derived.ProofKit
import Derived.OpenShut
import Derived.DataElems
import Derived.Test.YtmdeoikpiiambaaIndexGetsZ2
section
/- The engine, part 34: bytes that lie somewhere: what a call answers, what it is lent, what is appended to. Own work. -/
set_option linter.unusedVariables false
set_option linter.unusedSimpArgs false
namespace Go.Eng
open Go
/-- memory that only grew -/
structure Gr (m : Mem) (nx : Nat) (m' : Mem) (nx' : Nat) : Prop where
  le : nx ≤ nx'
  nd : (m'.map fun p => p.1).Nodup
  lt : ∀ p ∈ m', p.1 < nx'
  kp : ∀ k X, look m k = some X → look m' k = some X
theorem Gr.rdm {wr : Nat → Bool} {m m' : Mem} {nx nx' : Nat} (g : Gr m nx m' nx') (D : Rdm wr m nx) : Rdm wr m' nx' :=
  ⟨g.nd, fun n hn => by obtain ⟨o, ho⟩ := D.kp n hn; exact ⟨o, g.kp _ _ ho⟩, fun n hn => D.wn n (Nat.le_trans g.le hn)⟩
theorem Gr.trans {m m' m2 : Mem} {nx nx' nx2 : Nat} (g : Gr m nx m' nx') (h : Gr m' nx' m2 nx2) : Gr m nx m2 nx2 :=
  ⟨Nat.le_trans g.le h.le, h.nd, h.lt, fun k X e => h.kp _ _ (g.kp _ _ e)⟩
theorem Gr.refl {m : Mem} {nx : Nat} (nd : (m.map fun p => p.1).Nodup) (lt : ∀ p ∈ m, p.1 < nx) : Gr m nx m nx := ⟨Nat.le_refl _, nd, lt, fun _ _ h => h⟩
theorem Gr.of_ren {m m0 : Mem} {nx k : Nat} (nd : (m.map fun p => p.1).Nodup) (lt : ∀ p ∈ m, p.1 < nx) (h : Gr [] 0 m0 k) : Gr m nx (renM (fun n => n + nx) m0 ++ m) (nx + k) :=
  ⟨Nat.le_add_right _ _, ren_nodup h.nd nd lt, ren_lt h.lt lt, fun n X e => by
    obtain ⟨p, hp, e2⟩ := look_lt e
    have := lt p hp
    rw [look_ren_low _ _ _ _ (by omega)]; exact e⟩
theorem Gr.cons {m : Mem} {nx : Nat} (nd : (m.map fun p => p.1).Nodup) (lt : ∀ p ∈ m, p.1 < nx) (o : AObj) : Gr m nx ((nx, o) :: m) (nx + 1) := by
  have D := (rdmT nd (nx := nx)).cons lt o
  refine ⟨Nat.le_succ _, D.nd, cons_lt lt o, fun k X e => ?_⟩
  obtain ⟨p, hp, e2⟩ := look_lt e
  have := lt p hp
  rw [look_cons, if_neg (by omega)]; exact e
/-- plain: no names in it, nothing read only -/
def pln : AV → Bool
  | .val _ => true
  | x => flat x
theorem pln_ren {a : AV} (h : pln a = true) (f : Nat → Nat) : renA f a = a := by
  unfold pln at h
  split at h
  · rfl
  · exact flat_ren h f
theorem pln_noRo {a : AV} (h : pln a = true) : noRo a = true := by
  unfold pln at h
  split at h
  · rfl
  · exact flat_noRo h
theorem plnL_ren : ∀ {l : List AV}, l.all pln = true → ∀ f, renL f l = l
  | [], _, _ => rfl
  | x :: r, h, f => by
    simp only [List.all_cons, Bool.and_eq_true] at h
    show renA f x :: renL f r = _
    rw [pln_ren h.1, plnL_ren h.2]
theorem plnL_noRo : ∀ {l : List AV}, l.all pln = true → noRoL l = true
  | [], _ => rfl
  | x :: r, h => by
    simp only [List.all_cons, Bool.and_eq_true] at h
    show (noRo x && noRoL r) = true
    rw [pln_noRo h.1, plnL_noRo h.2]; rfl
theorem bvs_pln (k : IntKind) {w : Nat} (X : List (BitVec w)) : (bvs k X).all pln = true := by
  induction X with
  | nil => rfl
  | cons q r ih => rw [bvs_cons, List.all_cons, ih]; rfl
theorem val_pln : ∀ l : List Value, (l.map AV.val).all pln = true
  | [] => rfl
  | x :: r => by rw [List.map_cons, List.all_cons, val_pln r]; rfl
theorem pln_drop {l : List AV} (h : l.all pln = true) (n : Nat) : (l.drop n).all pln = true := List.all_eq_true.2 fun x hx => List.all_eq_true.1 h x (List.mem_of_mem_drop hx)
/-- bytes somewhere: none, read only, or a slice of a row -/
def ByAt (ty : TypeId) (m : Mem) (v : AV) (X : List (BitVec 8)) (ns : List Nat) : Prop :=
  (v = .nils ∧ X = [] ∧ ns = []) ∨ (v = .ro X.length (bvs .u8 X) ∧ ns = []) ∨ ∃ (n off cap : Nat) (pre sp : List AV), v = .sl n off X.length cap ∧ ns = [n] ∧ look m n = some (.cells (pre ++ (bvs .u8 X ++ sp)) ty) ∧ pre.length = off ∧ X.length ≤ cap ∧ cap ≤ X.length + sp.length ∧ cap ≤ maxI ∧ pre.all pln = true ∧ sp.all pln = true
theorem ByAt.ro {ty : TypeId} (m : Mem) (X : List (BitVec 8)) : ByAt ty m (.ro X.length (bvs .u8 X)) X [] := .inr (.inl ⟨rfl, rfl⟩)
theorem ByAt.nil {ty : TypeId} (m : Mem) : ByAt ty m .nils [] [] := .inl ⟨rfl, rfl, rfl⟩
theorem ByAt.row {ty : TypeId} {m : Mem} {n cap len : Nat} {X : List (BitVec 8)} {sp : List AV} (hl : len = X.length) (h : look m n = some (.cells (bvs .u8 X ++ sp) ty)) (h1 : X.length + sp.length = cap) (h2 : cap ≤ maxI) (h3 : sp.all pln = true) : ByAt ty m (.sl n 0 len cap) X [n] := by
  subst hl
  exact .inr (.inr ⟨n, 0, cap, [], sp, rfl, rfl, h, rfl, by omega, by omega, h2, rfl, h3⟩)
theorem ByAt.ext {ty : TypeId} {m m' : Mem} {v : AV} {X : List (BitVec 8)} {ns : List Nat} (h : ByAt ty m v X ns) (hk : ∀ k ∈ ns, ∀ o, look m k = some o → look m' k = some o) : ByAt ty m' v X ns := by
  rcases h with h | h | ⟨n, off, cap, pre, sp, h1, rfl, h3, h4⟩
  · exact .inl h
  · exact .inr (.inl h)
  · exact .inr (.inr ⟨n, off, cap, pre, sp, h1, rfl, hk n (.head _) _ h3, h4⟩)
theorem ByAt.grow {ty : TypeId} {m m' : Mem} {nx nx' : Nat} {v : AV} {X : List (BitVec 8)} {ns : List Nat} (h : ByAt ty m v X ns) (g : Gr m nx m' nx') : ByAt ty m' v X ns := h.ext fun k _ => g.kp k
theorem ByAt.live {ty : TypeId} {m : Mem} {v : AV} {X : List (BitVec 8)} {ns : List Nat} (h : ByAt ty m v X ns) : ∀ k ∈ ns, ∃ o, look m k = some o := by
  rcases h with ⟨_, _, rfl⟩ | ⟨_, rfl⟩ | ⟨n, off, cap, pre, sp, h1, rfl, h3, h4⟩
  · intro k hk; cases hk
  · intro k hk; cases hk
  · intro k hk; cases List.mem_singleton.1 hk; exact ⟨_, h3⟩
theorem ByAt.lt {ty : TypeId} {m : Mem} {nx : Nat} {v : AV} {X : List (BitVec 8)} {ns : List Nat} (h : ByAt ty m v X ns) (lt : ∀ p ∈ m, p.1 < nx) : ∀ k ∈ ns, k < nx := fun k hk => by
  obtain ⟨o, ho⟩ := h.live k hk
  obtain ⟨p, hp, rfl⟩ := look_lt ho
  exact lt p hp
theorem ByAt.argx {ty : TypeId} {m : Mem} {v : AV} {X : List (BitVec 8)} {ns own : List Nat} {f : Nat → Nat} (h : ByAt ty m v X ns) (ho : ∀ k ∈ ns, own.contains k = false) : argx m own f v (.ro X.length (bvs .u8 X)) := by
  rcases h with ⟨rfl, rfl, rfl⟩ | ⟨rfl, rfl⟩ | ⟨n, off, cap, pre, sp, rfl, rfl, h3, rfl, h5, h6, h7, h8, h9⟩
  · exact ⟨rfl, rfl⟩
  · show AV.ro _ _ = renA f (AV.ro _ _)
    simp only [renA, bvs_ren]
  · refine ⟨rfl, ho n (.head _), ?_⟩
    rw [h3]
    refine ⟨bvs_flat .u8 X, fun h0 => by rw [bvs_length]; exact h0, by rw [List.length_append, List.length_append]; omega, ?_⟩
    rw [List.drop_left, bvs_length, List.take_append_of_le_length (by rw [bvs_length]; exact Nat.le_refl _), List.take_of_length_le (by rw [bvs_length]; exact Nat.le_refl _)]
theorem ByAt.arg {ty : TypeId} {m : Mem} {v : AV} {X : List (BitVec 8)} {ns : List Nat} {f : Nat → Nat} (h : ByAt ty m v X ns) : Eng.argx m [] f v (.ro X.length (bvs .u8 X)) := h.argx fun _ _ => rfl
theorem ByAt.facts {ty : TypeId} {m : Mem} {v : AV} {X : List (BitVec 8)} {ns : List Nat} (h : ByAt ty m v X ns) : mapOf [v] = none ∧ one1 v = true ∧ isTup v = false ∧ acells v = [v] ∧ ∀ l off, stor l off v = l.set off v := by
  rcases h with ⟨rfl, _⟩ | ⟨rfl, _⟩ | ⟨n, off, cap, pre, sp, rfl, _⟩ <;> exact ⟨rfl, rfl, rfl, rfl, fun _ _ => rfl⟩
theorem ByAt.len {ty : TypeId} {m : Mem} {v : AV} {X : List (BitVec 8)} {ns : List Nat} (h : ByAt ty m v X ns) (P : Program) (t : TypeId) (k : AV → Prop) : lenx P t v k = ((elemT P t).isSome = true ∧ k (.int .i64 (X.length : Nat))) := by
  rcases h with ⟨rfl, rfl, _⟩ | ⟨rfl, _⟩ | ⟨n, off, cap, pre, sp, rfl, _⟩ <;> rfl
/-- a string's bytes -/
def strOf (X : List (BitVec 8)) : ByteArray := ⟨(X.map fun v => UInt8.ofNat v.toNat).toArray⟩
theorem strOf_def (X : List (BitVec 8)) : (⟨(X.map fun v => UInt8.ofNat v.toNat).toArray⟩ : ByteArray) = strOf X := rfl
theorem ByAt.conv {ty : TypeId} {m : Mem} {v : AV} {X : List (BitVec 8)} {ns : List Nat} (h : ByAt ty m v X ns) {P : Program} {rd : Nat → Bool} {s d e : TypeId} {k : AV → Prop} (hr : ∀ n ∈ ns, rd n = true) (he : elemT P s = some e) (hi : intT P e = some .u8) (hd : isStrT P d = true) :
    convx P rd m s d v k = k (.str (strOf X)) := by
  rcases h with ⟨rfl, rfl, _⟩ | ⟨rfl, _⟩ | ⟨n, off, cap, pre, sp, rfl, rfl, h3, rfl, h5, h6, h7, h8, h9⟩
  · simp only [convx, he, Option.some.injEq, exists_eq_left', hi, hd, true_and]; rfl
  · simp only [convx, he, Option.some.injEq, exists_eq_left', hi, hd, true_and, bvs_length, Nat.le_refl]
    rw [List.take_of_length_le (by rw [bvs_length]; exact Nat.le_refl _), u8s_bvs]
    simp only [Option.some.injEq, exists_eq_left']; rfl
  · simp only [convx, h3, hr n (.head _), he, Option.some.injEq, exists_eq_left', hi, hd, true_and]
    rw [List.drop_left, List.take_append_of_le_length (by rw [bvs_length]; exact Nat.le_refl _), List.take_of_length_le (by rw [bvs_length]; exact Nat.le_refl _), u8s_bvs]
    have hle : pre.length + X.length ≤ (pre ++ (bvs .u8 X ++ sp)).length := by rw [List.length_append, List.length_append, bvs_length]; omega
    simp only [Option.some.injEq, exists_eq_left', hle, true_and]; rfl
theorem ByAt.cvx {ty : TypeId} {m : Mem} {v : AV} {X : List (BitVec 8)} {ns : List Nat} (h : ByAt ty m v X ns) {P : Program} {wr : Nat → Bool} {s d e : TypeId} {nx : Nat} {K : Kv} (he : elemT P s = some e) (hi : intT P e = some .u8) (hd : isStrT P d = true) :
    cvx P wr s d v m nx K = K (.str (strOf X)) m nx := by
  have hc : convx P (fun _ => true) m s d v (KvAt K m nx) = K (.str (strOf X)) m nx := h.conv (fun _ _ => rfl) he hi hd
  rcases h with ⟨rfl, rfl, _⟩ | ⟨rfl, _⟩ | ⟨n, off, cap, pre, sp, rfl, _⟩
  · exact hc
  · exact hc
  · show cvs (isStrT P d) P wr s d n off X.length cap m nx K = _
    rw [hd]
    exact hc
theorem ByAt.src {ty : TypeId} {m : Mem} {v : AV} {X : List (BitVec 8)} {ns : List Nat} (h : ByAt ty m v X ns) : srcx m 1 v = some (X.length, bvs .u8 X) := by
  rcases h with ⟨rfl, rfl, _⟩ | ⟨rfl, _⟩ | ⟨n, off, cap, pre, sp, rfl, rfl, h3, rfl, h5, h6, h7, h8, h9⟩
  · rfl
  · show some (X.length, (bvs .u8 X).take (X.length * 1)) = _
    rw [Nat.mul_one, List.take_of_length_le (by rw [bvs_length]; exact Nat.le_refl _)]
  · simp only [srcx, h3]
    rw [List.drop_left, Nat.mul_one, List.take_append_of_le_length (by rw [bvs_length]; exact Nat.le_refl _), List.take_of_length_le (by rw [bvs_length]; exact Nat.le_refl _)]
/-- bytes appended -/
theorem appk_by {wr : Nat → Bool} {m : Mem} {nx : Nat} {K : Kv} {v : AV} {X Y : List (BitVec 8)} {ns : List Nat} (h : ByAt 5 m v X ns) (hv : v ≠ .ro X.length (bvs .u8 X)) (nd : (m.map fun p => p.1).Nodup) (wn : ∀ n, nx ≤ n → wr n = true) (hlt : ∀ p ∈ m, p.1 < nx) (hw : ∀ k ∈ ns, wr k = true) (hl : X.length + Y.length ≤ 100000000)
    (hK : ∀ (v' : AV) (m' : Mem) (nx' : Nat) (ns' : List Nat), ByAt 5 m' v' (X ++ Y) ns' → v' ≠ .ro (X ++ Y).length (bvs .u8 (X ++ Y)) → nx ≤ nx' → (∀ k ∈ ns', k ∈ ns ∨ nx ≤ k) → (m'.map fun p => p.1).Nodup → (∀ p ∈ m', p.1 < nx') → (∀ k o, k ∉ ns → look m k = some o → look m' k = some o) → (∀ k, look m k ≠ none → look m' k ≠ none) → K v' m' nx') :
    appk v m nx wr 5 1 1 (Y.length, bvs .u8 Y) K := by
  have keepc : ∀ (o : AObj) (k : Nat) (X : AObj), look m k = some X → look ((nx, o) :: m) k = some X := fun o k X hk => by
    obtain ⟨y, hy, e⟩ := look_lt hk
    have := hlt y hy
    rw [look_cons, if_neg (by omega)]; exact hk
  have keepn : ∀ (o : AObj) (k : Nat), look m k ≠ none → look ((nx, o) :: m) k ≠ none := fun o k hk => by
    cases e : look m k with
    | none => exact absurd e hk
    | some X => rw [keepc o k X e]; simp
  have D : Rdm (fun _ => true) m nx := rdmT nd
  rcases h with ⟨rfl, rfl, rfl⟩ | ⟨rfl, rfl⟩ | ⟨n, off, cap, pre, sp, rfl, rfl, hn, hp, c1, c2, c3, c4, c5⟩
  · simp only [appk]
    simp only [List.length_nil, Nat.zero_add] at hl
    refine ⟨by omega, by omega, fun h0 => ?_, fun h0 cap' sp' h1 h2 h3 => ?_⟩
    · have : Y = [] := List.eq_nil_of_length_eq_zero h0
      subst this
      exact hK _ _ _ [] (.nil _) (fun e => by cases e) (Nat.le_refl _) (fun k hk => by cases hk) nd hlt (fun k o _ h => h) fun k h => h
    · refine hK _ _ _ [nx] (.row (sp := sp'.map AV.val) rfl (by rw [look_cons, if_pos rfl]; rfl) (by rw [List.nil_append, List.length_map, h3]; omega) h2 (val_pln _)) (fun e => by cases e) (Nat.le_succ _) (fun k hk => .inr (by cases List.mem_singleton.1 hk; exact Nat.le_refl _)) (D.cons hlt _).nd (cons_lt hlt _) (fun k X _ => keepc _ k X) (keepn _)
  · exact absurd rfl hv
  · simp only [appk]
    refine .inr ⟨hw n (.head _), ?_⟩
    rw [hn]
    refine ⟨rfl, ?_, c3, by omega, by omega, fun hr => ?_, fun hr cap' sp' h1 h2 h3 => ?_⟩
    · rw [List.length_append, List.length_append, bvs_length]; omega
    · refine hK _ _ _ [n] (.inr (.inr ⟨n, off, cap, pre, sp.drop Y.length, by rw [List.length_append], rfl, ?_, hp, by rw [List.length_append]; exact hr, by rw [List.length_append, List.length_drop]; omega, c3, c4, pln_drop c5 _⟩)) (fun e => by cases e) (Nat.le_refl _) (fun k hk => .inl hk) (D.upd n _).nd (upd_lt hlt n _) ?_ ?_
      · rw [look_upd_same _ hn]
        have e1 : spl (pre ++ (bvs .u8 X ++ sp)) (off + X.length * 1) (bvs .u8 Y) = pre ++ (bvs .u8 (X ++ Y) ++ sp.drop Y.length) := by
          rw [spl, Nat.mul_one, ← List.append_assoc pre (bvs .u8 X) sp, List.take_append_of_le_length (by rw [List.length_append, bvs_length]; omega), List.take_of_length_le (by rw [List.length_append, bvs_length]; omega), bvs_length,
            show off + X.length + Y.length = (pre ++ bvs .u8 X).length + Y.length by rw [List.length_append, bvs_length]; omega, ← List.drop_drop, List.drop_left, ← bvs_append]
          simp only [List.append_assoc]
        rw [e1]
      · intro k X hk hX
        have hne : n ≠ k := fun e => hk (by rw [← e]; exact .head _)
        rw [look_upd_other _ hne]; exact hX
      · intro k hk
        by_cases e : n = k
        · subst e; rw [look_upd_same _ hn]; simp
        · rw [look_upd_other _ e]; exact hk
    · refine hK _ _ _ [nx] (.row (sp := sp'.map AV.val) (by rw [List.length_append]) ?_ (by rw [List.length_append, List.length_map, h3]; omega) h2 (val_pln _)) (fun e => by cases e) (Nat.le_succ _) (fun k hk => .inr (by cases List.mem_singleton.1 hk; exact Nat.le_refl _)) (D.cons hlt _).nd (cons_lt hlt _) (fun k X _ => keepc _ k X) (keepn _)
      rw [look_cons, if_pos rfl]
      have e1 : List.take (X.length * 1) (List.drop off (pre ++ (bvs .u8 X ++ sp))) = bvs .u8 X := by
        rw [← hp, List.drop_left, Nat.mul_one, List.take_append_of_le_length (by rw [bvs_length]; exact Nat.le_refl _), List.take_of_length_le (by rw [bvs_length]; exact Nat.le_refl _)]
      rw [e1, ← bvs_append]
/-- a call that answers bytes, and only adds to memory -/
def ByK (ty : TypeId) (F : AV → AV) (X : List (BitVec 8)) (m : Mem) (nx : Nat) : Kv := fun v m' nx' => ∃ s ns, v = F s ∧ ByAt ty m' s X ns ∧ s ≠ .ro X.length (bvs .u8 X) ∧ (∀ k ∈ ns, nx ≤ k) ∧ Gr m nx m' nx' ∧ (m = [] → noRoM m' = true)
theorem ByAt.ren {ty : TypeId} {m m0 : Mem} {v : AV} {X : List (BitVec 8)} {ns : List Nat} {nx : Nat} (hl : ∀ p ∈ m, p.1 < nx) (h : ByAt ty m0 v X ns) (hv : v ≠ .ro X.length (bvs .u8 X)) (hn : noRoM m0 = true) : ∃ s, renA (fun n => n + nx) v = s ∧ noRo v = true ∧ s ≠ .ro X.length (bvs .u8 X) ∧ ∃ ns', ByAt ty (renM (fun n => n + nx) m0 ++ m) s X ns' ∧ ∀ k ∈ ns', nx ≤ k := by
  rcases h with ⟨rfl, rfl, rfl⟩ | ⟨rfl, rfl⟩ | ⟨n, off, cap, pre, sp, rfl, rfl, h3, rfl, h5, h6, h7, h8, h9⟩
  · exact ⟨_, rfl, rfl, (fun e => by cases e), [], .nil _, fun k hk => by cases hk⟩
  · exact absurd rfl hv
  · refine ⟨_, rfl, rfl, (fun e => by cases e), [n + nx], .inr (.inr ⟨n + nx, pre.length, cap, pre, sp, by simp only [renA], rfl, ?_, rfl, h5, h6, h7, h8, h9⟩), fun k hk => ?_⟩
    · rw [look_ren_hi _ _ _ _ hl, h3]
      simp only [Option.map_some, renO, renL_append, bvs_ren, plnL_ren h8, plnL_ren h9]
    · cases List.mem_singleton.1 hk; omega
theorem CallOk.by {ty : TypeId} {fz : Bool} {P : Program} {g : FuncId} {args0 args : List AV} {wr : Nat → Bool} {m : Mem} {nx : Nat} {F : AV → AV} {X : List (BitVec 8)} (h : CallOk P g args0 (fun _ => true) [] 0 (ByK ty F X [] 0)) (nd : (m.map fun p => p.1).Nodup) (lt : ∀ p ∈ m, p.1 < nx)
    (ha : argsx m [] (rf [] nx 0) args args0) (hF2 : ∀ f s, renA f (F s) = F (renA f s)) (hF3 : ∀ s, noRo (F s) = noRo s) : CallG fz P g args wr m nx fun v m' nx' => ∃ s ns, v = F s ∧ ByAt ty m' s X ns ∧ s ≠ .ro X.length (bvs .u8 X) ∧ (∀ k ∈ ns, nx ≤ k) ∧ Gr m nx m' nx' := by
  refine h.more ha fun v m' nx' hr => ?_
  obtain ⟨s, ns, rfl, h1, h2, h3, h4, h5⟩ := hr
  have h5 := h5 rfl
  obtain ⟨s', rfl, e1, e2, ns', e3, e4⟩ := h1.ren lt h2 h5
  exact ⟨by rw [hF3]; exact e1, h5, _, ns', hF2 _ _, e3, e2, e4, Gr.of_ren nd lt h4⟩
/-- the end: bytes are answered -/
theorem Fin.by {ty : TypeId} {m : Mem} {nx : Nat} {s : AV} {X : List (BitVec 8)} {ns : List Nat} (h : ByAt ty m s X ns) (hv : s ≠ .ro X.length (bvs .u8 X)) (F : AV → AV) (hF : ∀ f s, renA f (F s) = F (renA f s)) : Fin 0 (fun _ => true) m nx (ByK ty F X [] 0) (F s) := by
  rcases h with ⟨rfl, rfl, rfl⟩ | ⟨rfl, rfl⟩ | ⟨n, off, cap, pre, sp, rfl, rfl, h3, rfl, h5, h6, h7, h8, h9⟩
  · exact Fin.flatv (fun _ => rfl) (fun f => by rw [hF]; rfl) ⟨.nils, [], rfl, .nil _, (fun e => by cases e), (fun k hk => by cases hk), ⟨Nat.le_refl _, List.nodup_nil, (fun p hp => by cases hp), fun _ _ h => by cases h⟩, fun _ => rfl⟩
  · exact absurd rfl hv
  · refine ⟨[(0, n)], F (.sl 0 pre.length X.length cap), [(0, .cells (pre ++ (bvs .u8 X ++ sp)) ty)], 1, ⟨rfl, by decide⟩, by rw [hF]; rfl, ⟨by simp only [renO, renL_append, bvs_ren, plnL_ren h8, plnL_ren h9]; exact h3, rfl, trivial⟩, by simp [injOn], (fun n e => by cases e), ?_⟩
    exact ⟨_, [0], rfl, .inr (.inr ⟨0, pre.length, cap, pre, sp, rfl, rfl, rfl, rfl, h5, h6, h7, h8, h9⟩), (fun e => by cases e), fun k hk => Nat.zero_le _, ⟨Nat.zero_le _, by simp, (fun p hp => by cases List.mem_singleton.1 hp; exact Nat.zero_lt_one), fun _ _ h => by cases h⟩, fun _ => by simp only [noRoM, noRoO, noRoL_append, bvs_noRo, plnL_noRo h8, plnL_noRo h9, Bool.and_self]⟩
theorem nd0 : (([] : Mem).map fun p => p.1).Nodup := List.nodup_nil
theorem lt0 : ∀ p ∈ ([] : Mem), p.1 < 0 := fun p hp => by cases hp
/-- the same, where bytes alone are answered -/
theorem CallG.by1 {ty : TypeId} {fz : Bool} {P : Program} {g : FuncId} {args0 args : List AV} {wr : Nat → Bool} {m : Mem} {nx : Nat} {F : AV → AV} {X : List (BitVec 8)} (h : CallG false P g args0 (fun _ => true) [] 0 (ByK ty F X [] 0)) (hF : F = fun s => s) (nd : (m.map fun p => p.1).Nodup) (lt : ∀ p ∈ m, p.1 < nx)
    (ha : argsx m [] (rf [] nx 0) args args0) : CallG fz P g args wr m nx fun v m' nx' => ∃ ns, ByAt ty m' v X ns ∧ v ≠ .ro X.length (bvs .u8 X) ∧ (∀ k ∈ ns, nx ≤ k) ∧ Gr m nx m' nx' := by
  subst hF
  refine (CallOk.by h.any nd lt ha (fun _ _ => rfl) (fun _ => rfl)).weak ?_
  rintro v m' nx' ⟨s, ns, rfl, h1⟩
  exact ⟨ns, h1⟩
theorem CallG.byK {ty : TypeId} {fz : Bool} {P : Program} {g : FuncId} {args0 args : List AV} {wr : Nat → Bool} {m : Mem} {nx : Nat} {K : Kv} {F : AV → AV} {X : List (BitVec 8)} (h : CallG false P g args0 (fun _ => true) [] 0 (ByK ty F X [] 0)) (hF : F = fun s => s) (nd : (m.map fun p => p.1).Nodup) (lt : ∀ p ∈ m, p.1 < nx)
    (ha : argsx m [] (rf [] nx 0) args args0) (hK : ∀ v m' nx' ns, ByAt ty m' v X ns → v ≠ .ro X.length (bvs .u8 X) → (∀ k ∈ ns, nx ≤ k) → Gr m nx m' nx' → K v m' nx') : CallG fz P g args wr m nx K :=
  (CallG.by1 h hF nd lt ha).weak fun v m' nx' hr => by
    obtain ⟨ns, h1, h2, h3, h4⟩ := hr
    exact hK _ _ _ ns h1 h2 h3 h4
theorem argx_roX {m : Mem} {own : List Nat} {f : Nat → Nat} {n : Nat} {X : List (BitVec 8)} (h : n = X.length) : argx m own f (.ro n (bvs .u8 X)) (.ro X.length (bvs .u8 X)) := by
  show AV.ro _ _ = renA f (AV.ro _ _)
  simp only [renA, bvs_ren, h]
theorem strOf_inj {A B : List (BitVec 8)} (h : (strOf A).toList = (strOf B).toList) : A = B := by
  rw [ByteArray.toList_eq, ByteArray.toList_eq] at h
  have h : A.map (fun v => UInt8.ofNat v.toNat) = B.map (fun v => UInt8.ofNat v.toNat) := h
  refine (List.map_inj_right fun x y e => ?_).1 h
  have e := congrArg UInt8.toNat e
  have hx : (UInt8.ofNat x.toNat).toNat = x.toNat := UInt8.toNat_ofNat_of_lt' x.isLt
  have hy : (UInt8.ofNat y.toNat).toNat = y.toNat := UInt8.toNat_ofNat_of_lt' y.isLt
  rw [hx, hy] at e
  exact BitVec.eq_of_toNat_eq e
theorem strEq (A B : List (BitVec 8)) : ((strOf A).toList == (strOf B).toList) = decide (A = B) := by
  by_cases h : A = B
  · rw [h, decide_eq_true rfl]; exact beq_self_eq_true _
  · rw [decide_eq_false h, beq_eq_false_iff_ne]
    exact fun e => h (strOf_inj e)
end Go.Eng
end
section
/- The engine, part 37: rows of plain elements that lie somewhere: what a call answers, what it is lent, what is appended to. Own work. -/
set_option linter.unusedVariables false
set_option linter.unusedSimpArgs false
namespace Go.Eng
open Go
/-- n elements of s plain cells each, somewhere: none, read only, or a slice of a row -/
def SlA (ty : TypeId) (s : Nat) (m : Mem) (v : AV) (k : Nat) (L : List AV) (ns : List Nat) : Prop :=
  (v = .nils ∧ k = 0 ∧ L = [] ∧ ns = []) ∨ (v = .ro k L ∧ L.length = k * s ∧ L.all flat = true ∧ ns = []) ∨ ∃ (n off cap : Nat) (pre sp : List AV), v = .sl n off k cap ∧ ns = [n] ∧ look m n = some (.cells (pre ++ (L ++ sp)) ty) ∧ pre.length = off ∧ L.length = k * s ∧ L.all flat = true ∧ k ≤ cap ∧ off + cap * s ≤ off + L.length + sp.length ∧ cap ≤ maxI ∧ pre.all pln = true ∧ sp.all pln = true
theorem SlA.nil (ty : TypeId) (s : Nat) (m : Mem) : SlA ty s m .nils 0 [] [] := .inl ⟨rfl, rfl, rfl, rfl⟩
theorem SlA.ro (ty : TypeId) {s : Nat} (m : Mem) {k : Nat} {L : List AV} (h : L.length = k * s) (hf : L.all flat = true) : SlA ty s m (.ro k L) k L [] := .inr (.inl ⟨rfl, h, hf, rfl⟩)
theorem SlA.row {ty : TypeId} {s : Nat} {m : Mem} {n cap k : Nat} {L sp : List AV} (hl : L.length = k * s) (hf : L.all flat = true) (h : look m n = some (.cells (L ++ sp) ty)) (h0 : k ≤ cap) (h1 : cap * s = L.length + sp.length) (h2 : cap ≤ maxI) (h3 : sp.all pln = true) : SlA ty s m (.sl n 0 k cap) k L [n] :=
  .inr (.inr ⟨n, 0, cap, [], sp, rfl, rfl, h, rfl, hl, hf, h0, by omega, h2, rfl, h3⟩)
theorem SlA.ext {ty : TypeId} {s : Nat} {m m' : Mem} {v : AV} {k : Nat} {L : List AV} {ns : List Nat} (h : SlA ty s m v k L ns) (hk : ∀ j ∈ ns, ∀ o, look m j = some o → look m' j = some o) : SlA ty s m' v k L ns := by
  rcases h with h | h | ⟨n, off, cap, pre, sp, h1, rfl, h3, h4⟩
  · exact .inl h
  · exact .inr (.inl h)
  · exact .inr (.inr ⟨n, off, cap, pre, sp, h1, rfl, hk n (.head _) _ h3, h4⟩)
theorem SlA.grow {ty : TypeId} {s : Nat} {m m' : Mem} {nx nx' : Nat} {v : AV} {k : Nat} {L : List AV} {ns : List Nat} (h : SlA ty s m v k L ns) (g : Gr m nx m' nx') : SlA ty s m' v k L ns := h.ext fun j _ => g.kp j
theorem SlA.live {ty : TypeId} {s : Nat} {m : Mem} {v : AV} {k : Nat} {L : List AV} {ns : List Nat} (h : SlA ty s m v k L ns) : ∀ j ∈ ns, ∃ o, look m j = some o := by
  rcases h with ⟨_, _, _, rfl⟩ | ⟨_, _, _, rfl⟩ | ⟨n, off, cap, pre, sp, h1, rfl, h3, h4⟩
  · intro j hj; cases hj
  · intro j hj; cases hj
  · intro j hj; cases List.mem_singleton.1 hj; exact ⟨_, h3⟩
theorem SlA.lt {ty : TypeId} {s : Nat} {m : Mem} {nx : Nat} {v : AV} {k : Nat} {L : List AV} {ns : List Nat} (h : SlA ty s m v k L ns) (lt : ∀ p ∈ m, p.1 < nx) : ∀ j ∈ ns, j < nx := fun j hj => by
  obtain ⟨o, ho⟩ := h.live j hj
  obtain ⟨p, hp, rfl⟩ := look_lt ho
  exact lt p hp
theorem SlA.arg {ty : TypeId} {s : Nat} {m : Mem} {v : AV} {k : Nat} {L : List AV} {ns : List Nat} {f : Nat → Nat} (h : SlA ty s m v k L ns) : Eng.argx m [] f v (.ro k L) := by
  rcases h with ⟨rfl, rfl, rfl, rfl⟩ | ⟨rfl, hl, hf, rfl⟩ | ⟨n, off, cap, pre, sp, rfl, rfl, h3, rfl, hl, hf, h5, h6, h7, h8, h9⟩
  · exact ⟨rfl, rfl⟩
  · show AV.ro _ _ = renA f (AV.ro _ _)
    simp only [renA, flatL_ren hf]
  · refine ⟨rfl, rfl, ?_⟩
    rw [h3]
    refine ⟨hf, fun h0 => by rw [hl, h0, Nat.zero_mul], by rw [List.length_append, List.length_append]; omega, ?_⟩
    rw [List.drop_left, List.take_append_of_le_length (Nat.le_refl _), List.take_of_length_le (Nat.le_refl _)]
theorem SlA.facts {ty : TypeId} {s : Nat} {m : Mem} {v : AV} {k : Nat} {L : List AV} {ns : List Nat} (h : SlA ty s m v k L ns) : mapOf [v] = none ∧ one1 v = true ∧ isTup v = false ∧ acells v = [v] ∧ ∀ l off, stor l off v = l.set off v := by
  rcases h with ⟨rfl, _⟩ | ⟨rfl, _⟩ | ⟨n, off, cap, pre, sp, rfl, _⟩ <;> exact ⟨rfl, rfl, rfl, rfl, fun _ _ => rfl⟩
theorem SlA.len {ty : TypeId} {s : Nat} {m : Mem} {v : AV} {k : Nat} {L : List AV} {ns : List Nat} (h : SlA ty s m v k L ns) (P : Program) (t : TypeId) (K : AV → Prop) : lenx P t v K = ((elemT P t).isSome = true ∧ K (.int .i64 (k : Nat))) := by
  rcases h with ⟨rfl, rfl, _⟩ | ⟨rfl, _⟩ | ⟨n, off, cap, pre, sp, rfl, _⟩ <;> rfl
theorem SlA.src {ty : TypeId} {s : Nat} {m : Mem} {v : AV} {k : Nat} {L : List AV} {ns : List Nat} (h : SlA ty s m v k L ns) : srcx m s v = some (k, L) := by
  rcases h with ⟨rfl, rfl, rfl, _⟩ | ⟨rfl, hl, _⟩ | ⟨n, off, cap, pre, sp, rfl, rfl, h3, rfl, hl, hf, h5, h6, h7, h8, h9⟩
  · rfl
  · show some (k, L.take (k * s)) = _
    rw [List.take_of_length_le (by omega)]
  · simp only [srcx, h3]
    rw [List.drop_left, List.take_append_of_le_length (by omega), List.take_of_length_le (by omega)]
/-- elements appended -/
theorem appk_sl {ty bt s : Nat} {wr : Nat → Bool} {m : Mem} {nx : Nat} {K : Kv} {v : AV} {k j : Nat} {L Y : List AV} {ns : List Nat} (h : SlA ty s m v k L ns) (hv : v ≠ .ro k L) (nd : (m.map fun p => p.1).Nodup) (hlt : ∀ p ∈ m, p.1 < nx) (hw : ∀ i ∈ ns, wr i = true)
    (hY : Y.length = j * s) (hYf : Y.all flat = true) (hb : 0 < bt) (hl : (k + j) * bt ≤ 140737488355328)
    (hK : ∀ (v' : AV) (m' : Mem) (nx' : Nat) (ns' : List Nat), SlA ty s m' v' (k + j) (L ++ Y) ns' → v' ≠ .ro (k + j) (L ++ Y) → nx ≤ nx' → (∀ i ∈ ns', i ∈ ns ∨ nx ≤ i) → (m'.map fun p => p.1).Nodup → (∀ p ∈ m', p.1 < nx') → (∀ i o, i ∉ ns → look m i = some o → look m' i = some o) → (∀ i, look m i ≠ none → look m' i ≠ none) → K v' m' nx') :
    appk v m nx wr ty s bt (j, Y) K := by
  have keepc : ∀ (o : AObj) (i : Nat) (X : AObj), look m i = some X → look ((nx, o) :: m) i = some X := fun o i X hi => by
    obtain ⟨y, hy, e⟩ := look_lt hi
    have := hlt y hy
    rw [look_cons, if_neg (by omega)]; exact hi
  have keepn : ∀ (o : AObj) (i : Nat), look m i ≠ none → look ((nx, o) :: m) i ≠ none := fun o i hi => by
    cases e : look m i with
    | none => exact absurd e hi
    | some X => rw [keepc o i X e]; simp
  have D : Rdm (fun _ => true) m nx := rdmT nd
  have hbk : k + j ≤ (k + j) * bt := Nat.le_mul_of_pos_right _ hb
  rcases h with ⟨rfl, rfl, rfl, rfl⟩ | ⟨rfl, _⟩ | ⟨n, off, cap, pre, sp, rfl, rfl, hn, hp, c0, cf, c1, c2, c3, c4, c5⟩
  · simp only [appk]
    rw [Nat.zero_add] at hl hbk
    refine ⟨hl, by omega, fun h0 => ?_, fun h0 cap' sp' h1 h2 h3 => ?_⟩
    · subst h0
      have : Y = [] := List.eq_nil_of_length_eq_zero (by rw [hY, Nat.zero_mul])
      subst this
      exact hK _ _ _ [] (.nil _ _ _) (fun e => by cases e) (Nat.le_refl _) (fun i hi => by cases hi) nd hlt (fun i o _ h => h) fun i h => h
    · refine hK _ _ _ [nx] ?_ ?_ (Nat.le_succ _) (fun i hi => .inr (by cases List.mem_singleton.1 hi; exact Nat.le_refl _)) (D.cons hlt _).nd (cons_lt hlt _) (fun i X _ => keepc _ i X) (keepn _)
      · rw [Nat.zero_add, List.nil_append]
        exact .row (sp := sp'.map AV.val) hY hYf (by rw [look_cons, if_pos rfl]) h1 (by rw [List.length_map, h3, hY, ← Nat.add_mul]; congr 1; omega) h2 (val_pln _)
      · exact fun e => by cases e
  · exact absurd rfl hv
  · simp only [appk]
    have hcs : k * s ≤ cap * s := Nat.mul_le_mul_right _ c1
    refine .inr ⟨hw n (.head _), ?_⟩
    rw [hn]
    refine ⟨rfl, ?_, c3, hl, by omega, fun hr => ?_, fun hr cap' sp' h1 h2 h3 => ?_⟩
    · rw [List.length_append, List.length_append]; omega
    · have hjs : (k + j) * s ≤ cap * s := Nat.mul_le_mul_right _ hr
      rw [Nat.add_mul] at hjs
      refine hK _ _ _ [n] (.inr (.inr ⟨n, off, cap, pre, sp.drop Y.length, rfl, rfl, ?_, hp, by rw [List.length_append, c0, hY, Nat.add_mul], by rw [List.all_append, cf, hYf]; rfl, hr, by rw [List.length_append, List.length_drop]; omega, c3, c4, pln_drop c5 _⟩)) (fun e => by cases e) (Nat.le_refl _) (fun i hi => .inl hi) (D.upd n _).nd (upd_lt hlt n _) ?_ ?_
      · rw [look_upd_same _ hn]
        have e1 : spl (pre ++ (L ++ sp)) (off + k * s) Y = pre ++ (L ++ Y ++ sp.drop Y.length) := by
          rw [spl, ← c0, ← List.append_assoc pre L sp, List.take_append_of_le_length (by rw [List.length_append]; omega), List.take_of_length_le (by rw [List.length_append]; omega),
            show off + L.length + Y.length = (pre ++ L).length + Y.length by rw [List.length_append]; omega, ← List.drop_drop, List.drop_left]
          simp only [List.append_assoc]
        rw [e1]
      · intro i X hi hX
        have hne : n ≠ i := fun e => hi (by rw [← e]; exact .head _)
        rw [look_upd_other _ hne]; exact hX
      · intro i hi
        by_cases e : n = i
        · subst e; rw [look_upd_same _ hn]; simp
        · rw [look_upd_other _ e]; exact hi
    · refine hK _ _ _ [nx] (.row (sp := sp'.map AV.val) (by rw [List.length_append, c0, hY, Nat.add_mul]) (by rw [List.all_append, cf, hYf]; rfl) ?_ h1 (by rw [List.length_append, List.length_map, h3, c0, hY, ← Nat.add_mul, ← Nat.add_mul]; congr 1; omega) h2 (val_pln _)) (fun e => by cases e) (Nat.le_succ _) (fun i hi => .inr (by cases List.mem_singleton.1 hi; exact Nat.le_refl _)) (D.cons hlt _).nd (cons_lt hlt _) (fun i X _ => keepc _ i X) (keepn _)
      rw [look_cons, if_pos rfl]
      have e1 : List.take (k * s) (List.drop off (pre ++ (L ++ sp))) = L := by
        rw [← hp, List.drop_left, List.take_append_of_le_length (by omega), List.take_of_length_le (by omega)]
      rw [e1]
/-- a call that answers such a row, and only adds to memory -/
def SlK' (ty : TypeId) (s : Nat) (F : AV → AV) (k : Nat) (L : List AV) (m : Mem) (nx : Nat) : Kv := fun v m' nx' => ∃ x ns, v = F x ∧ SlA ty s m' x k L ns ∧ x ≠ .ro k L ∧ (∀ i ∈ ns, nx ≤ i) ∧ Gr m nx m' nx' ∧ (m = [] → noRoM m' = true)
theorem SlA.ren {ty : TypeId} {s : Nat} {m m0 : Mem} {v : AV} {k : Nat} {L : List AV} {ns : List Nat} {nx : Nat} (hl : ∀ p ∈ m, p.1 < nx) (h : SlA ty s m0 v k L ns) (hv : v ≠ .ro k L) : ∃ x, renA (fun n => n + nx) v = x ∧ noRo v = true ∧ x ≠ .ro k L ∧ ∃ ns', SlA ty s (renM (fun n => n + nx) m0 ++ m) x k L ns' ∧ ∀ i ∈ ns', nx ≤ i := by
  rcases h with ⟨rfl, rfl, rfl, rfl⟩ | ⟨rfl, _⟩ | ⟨n, off, cap, pre, sp, rfl, rfl, h3, rfl, h4, hf, h5, h6, h7, h8, h9⟩
  · exact ⟨_, rfl, rfl, (fun e => by cases e), [], .nil _ _ _, fun i hi => by cases hi⟩
  · exact absurd rfl hv
  · refine ⟨_, rfl, rfl, (fun e => by cases e), [n + nx], .inr (.inr ⟨n + nx, pre.length, cap, pre, sp, by simp only [renA], rfl, ?_, rfl, h4, hf, h5, h6, h7, h8, h9⟩), fun i hi => ?_⟩
    · rw [look_ren_hi _ _ _ _ hl, h3]
      simp only [Option.map_some, renO, renL_append, flatL_ren hf, plnL_ren h8, plnL_ren h9]
    · cases List.mem_singleton.1 hi; omega
theorem CallG.bySl {ty : TypeId} {s : Nat} {fz : Bool} {P : Program} {g : FuncId} {args0 args : List AV} {wr : Nat → Bool} {m : Mem} {nx : Nat} {K : Kv} {F : AV → AV} {k : Nat} {L : List AV} (h : CallG false P g args0 (fun _ => true) [] 0 (SlK' ty s F k L [] 0)) (nd : (m.map fun p => p.1).Nodup) (lt : ∀ p ∈ m, p.1 < nx)
    (hF2 : ∀ f s, renA f (F s) = F (renA f s)) (hF3 : ∀ s, noRo (F s) = noRo s) (ha : argsx m [] (rf [] nx 0) args args0) (hK : ∀ x m' nx' ns, SlA ty s m' x k L ns → x ≠ .ro k L → (∀ i ∈ ns, nx ≤ i) → Gr m nx m' nx' → K (F x) m' nx') : CallG fz P g args wr m nx K := by
  refine CallOk.more h.any ha fun v m' nx' hr => ?_
  obtain ⟨x, ns, rfl, h1, h2, h3, h4, h5⟩ := hr
  obtain ⟨x', rfl, e1, e2, ns', e3, e4⟩ := h1.ren lt h2
  refine ⟨by rw [hF3]; exact e1, h5 rfl, ?_⟩
  rw [hF2]
  exact hK _ _ _ ns' e3 e2 e4 (Gr.of_ren nd lt h4)
/-- the end: such a row is answered -/
theorem Fin.bySl {ty : TypeId} {s : Nat} {m : Mem} {nx : Nat} {x : AV} {k : Nat} {L : List AV} {ns : List Nat} (h : SlA ty s m x k L ns) (hv : x ≠ .ro k L) (F : AV → AV) (hF : ∀ f s, renA f (F s) = F (renA f s)) : Fin 0 (fun _ => true) m nx (SlK' ty s F k L [] 0) (F x) := by
  rcases h with ⟨rfl, rfl, rfl, rfl⟩ | ⟨rfl, _⟩ | ⟨n, off, cap, pre, sp, rfl, rfl, h3, rfl, h4, hf, h5, h6, h7, h8, h9⟩
  · exact Fin.flatv (fun _ => rfl) (fun f => by rw [hF]; rfl) ⟨.nils, [], rfl, .nil _ _ _, (fun e => by cases e), (fun i hi => by cases hi), ⟨Nat.le_refl _, List.nodup_nil, (fun p hp => by cases hp), fun _ _ h => by cases h⟩, fun _ => rfl⟩
  · exact absurd rfl hv
  · refine ⟨[(0, n)], F (.sl 0 pre.length k cap), [(0, .cells (pre ++ (L ++ sp)) ty)], 1, ⟨rfl, by decide⟩, by rw [hF]; rfl, ⟨by simp only [renO, renL_append, flatL_ren hf, plnL_ren h8, plnL_ren h9]; exact h3, rfl, trivial⟩, by simp [injOn], (fun n e => by cases e), ?_⟩
    exact ⟨_, [0], rfl, .inr (.inr ⟨0, pre.length, cap, pre, sp, rfl, rfl, rfl, rfl, h4, hf, h5, h6, h7, h8, h9⟩), (fun e => by cases e), fun i hi => Nat.zero_le _, ⟨Nat.zero_le _, by simp, (fun p hp => by cases List.mem_singleton.1 hp; exact Nat.zero_lt_one), fun _ _ h => by cases h⟩, fun _ => by simp only [noRoM, noRoO, noRoL_append, flatL_noRo hf, plnL_noRo h8, plnL_noRo h9, Bool.and_self]⟩
theorem bvs_zeros (k : Nat) : bvs .u8 (List.replicate k (0 : BitVec 8)) = List.replicate k (AV.int .u8 0) := by
  induction k with
  | zero => rfl
  | succ k ih => rw [List.replicate_succ, bvs_cons, ih, List.replicate_succ]; rfl
/-- zeros appended to bytes -/
theorem appz_by {P : Program} {ty tn : TypeId} {q kz : IntKind} {wr : Nat → Bool} {m : Mem} {nx : Nat} {K : Kv} {v : AV} {X : List (BitVec 8)} {ns : List Nat} {k : Nat} (h : ByAt 5 m v X ns) (hv : v ≠ .ro X.length (bvs .u8 X)) (h0 : X ≠ []) (nd : (m.map fun p => p.1).Nodup) (hlt : ∀ p ∈ m, p.1 < nx) (hw : ∀ k ∈ ns, wr k = true) (hl : X.length + k ≤ 1000000)
    (hq : intT P tn = some q) (he : elemT P ty = some 5) (hs : sizeT P 5 = some 1) (hbt : bytesT P 5 = some 1) (hz : zav P 5 = some [.int .u8 0])
    (hK : ∀ (v' : AV) (m' : Mem) (nx' : Nat) (ns' : List Nat), ByAt 5 m' v' (X ++ List.replicate k 0) ns' → v' ≠ .ro (X ++ List.replicate k 0).length (bvs .u8 (X ++ List.replicate k 0)) → nx ≤ nx' → (∀ k ∈ ns', k ∈ ns ∨ nx ≤ k) → (m'.map fun p => p.1).Nodup → (∀ p ∈ m', p.1 < nx') → (∀ k o, k ∉ ns → look m k = some o → look m' k = some o) → (∀ k, look m k ≠ none → look m' k ≠ none) → K v' m' nx') :
    appz P wr #[ty, tn] [v, .int kz (k : Int)] m nx K := by
  have D : Rdm (fun _ => true) m nx := rdmT nd
  have keepc : ∀ (o : AObj) (k : Nat) (X : AObj), look m k = some X → look ((nx, o) :: m) k = some X := fun o k X hk => by
    obtain ⟨y, hy, e⟩ := look_lt hk
    have := hlt y hy
    rw [look_cons, if_neg (by omega)]; exact hk
  have keepn : ∀ (o : AObj) (k : Nat), look m k ≠ none → look ((nx, o) :: m) k ≠ none := fun o k hk => by
    cases e : look m k with
    | none => exact absurd e hk
    | some X => rw [keepc o k X e]; simp
  have hYl : (List.replicate k (0 : BitVec 8)).length = k := List.length_replicate
  rcases h with ⟨rfl, rfl, rfl⟩ | ⟨rfl, rfl⟩ | ⟨n, off, cap, pre, sp, rfl, rfl, hn, hp, c1, c2, c3, c4, c5⟩
  · exact absurd rfl h0
  · exact absurd rfl hv
  · simp only [appz, Int.toNat_natCast]
    refine ⟨⟨q, hq⟩, by omega, by omega, 5, he, hs, 1, hbt, _, hz, rfl, hw n (.head _), ?_⟩
    rw [hn]
    refine ⟨rfl, ?_, c3, by omega, by omega, fun hr => ?_, fun hr cap' sp' h1 h2 h3 => ?_⟩
    · rw [List.length_append, List.length_append, bvs_length]; omega
    · rw [← bvs_zeros k]
      refine hK _ _ _ [n] (.inr (.inr ⟨n, off, cap, pre, sp.drop k, by rw [List.length_append, hYl], rfl, ?_, hp, by rw [List.length_append, hYl]; exact hr, by rw [List.length_append, List.length_drop, hYl]; omega, c3, c4, pln_drop c5 _⟩)) (fun e => by cases e) (Nat.le_refl _) (fun k hk => .inl hk) (D.upd n _).nd (upd_lt hlt n _) ?_ ?_
      · rw [look_upd_same _ hn]
        have e1 : spl (pre ++ (bvs .u8 X ++ sp)) (off + X.length) (bvs .u8 (List.replicate k (0 : BitVec 8))) = pre ++ (bvs .u8 (X ++ List.replicate k 0) ++ sp.drop k) := by
          rw [spl, ← List.append_assoc pre (bvs .u8 X) sp, List.take_append_of_le_length (by rw [List.length_append, bvs_length]; omega), List.take_of_length_le (by rw [List.length_append, bvs_length]; omega), bvs_length, hYl,
            show off + X.length + k = (pre ++ bvs .u8 X).length + k by rw [List.length_append, bvs_length]; omega, ← List.drop_drop, List.drop_left, ← bvs_append]
          simp only [List.append_assoc]
        rw [e1]
      · intro i o hi ho
        have hne : n ≠ i := fun e => hi (by rw [← e]; exact .head _)
        rw [look_upd_other _ hne]; exact ho
      · intro i hi
        by_cases e : n = i
        · subst e; rw [look_upd_same _ hn]; simp
        · rw [look_upd_other _ e]; exact hi
    · rw [← bvs_zeros k]
      refine hK _ _ _ [nx] (.row (sp := sp'.map AV.val) (by rw [List.length_append, hYl]) ?_ (by rw [List.length_append, List.length_map, h3, hYl]; omega) h2 (val_pln _)) (fun e => by cases e) (Nat.le_succ _) (fun k hk => .inr (by cases List.mem_singleton.1 hk; exact Nat.le_refl _)) (D.cons hlt _).nd (cons_lt hlt _) (fun k X _ => keepc _ k X) (keepn _)
      · rw [look_cons, if_pos rfl]
        have e1 : List.take X.length (List.drop off (pre ++ (bvs .u8 X ++ sp))) = bvs .u8 X := by
          rw [← hp, List.drop_left, List.take_append_of_le_length (by rw [bvs_length]; exact Nat.le_refl _), List.take_of_length_le (by rw [bvs_length]; exact Nat.le_refl _)]
        rw [e1, ← bvs_append]
end Go.Eng
end
section
/- Numbers of a variable length: a loop over an iterator that keeps its place in a box of its own. Own work, over the kit's law of the statement. -/
set_option linter.unusedVariables false
set_option maxRecDepth 100000
namespace Go.Proofs.Ytmdeoikpiiambaa
open Go Go.RowKit Go.Shelf

variable {F : Fence} {n : Nat} {P : Program}
/-- an iterator that gives xs, and writes the cell of its own box Bn between two rounds -/
def BoxSeq {α : Type} (F : Fence) (n : Nat) (P : Program) (g : Nat) (lb : Array Value) (encs : α → Array Value) (Bn : Nat) (xs : List α) (w : World) : Prop :=
  ∀ (l : Nat) (J : List α → World → Prop) (W : World), (∀ pre A v, J pre A → J pre (A.setCell ⟨Bn, 0, none⟩ v)) →
    (∀ pre x rest A, xs = pre ++ x :: rest → J pre A → YieldAt F (n - 1) P l (encs x) A fun e A' => e = .returned (.bool true) ∧ J (pre ++ [x]) A' ∧ A'.heap[Bn]? = A.heap[Bn]?) →
    J [] W → W.heap[Bn]? = w.heap[Bn]? → CallsIn F n P g (#[.func (.yield l) #[] #[]] ++ lb) W fun e W' => (∃ v, e = .returned v) ∧ J xs W'
theorem wpIn_rangeBox {α : Type} {g : Operand} {ps : Array Tmp} {assign body : Code} {Q : Exit → Act → World → Prop} {a : Act} {w : World}
    (hro : F.round = none) (h1 : 1 ≤ n) {gf : Nat} {lb : Array Value} (hg : a.eval g = .func (.func gf) #[] lb) (hFg : F.fn gf) (eg : ∀ args w, (callFunc gf args).run P w = .ok (.enter gf args) w)
    {encs : α → Array Value} {Bn : Nat} {xs : List α} (hseq : BoxSeq F (n - 1) P gf lb encs Bn xs w) (hBn : Bn < w.heap.size) (hps : ∀ x, (encs x).size = ps.size)
    (I : List α → World → Prop) (hI : OwnFrom w.heap.size I) (hIb : ∀ pre A v, I pre A → I pre (A.setCell ⟨Bn, 0, none⟩ v)) (h0 : I [] w) (a₁ : α → Act)
    (hassign : ∀ (l : Nat) (x : α) (W : World) (K : Act → World → Prop), K (a₁ x) W →
      assign.wpIn (F.inRound l) (n - 1 - 1) P (Exit.then K (fun _ _ _ => False)) { tmps := (ps.zip (encs x)).foldl (fun t (p, v) => t.setIfInBounds p v) a.tmps, defers := [] } W)
    (hbody : ∀ (l : Nat) (pre : List α) (x : α) (rest : List α) (W : World), xs = pre ++ x :: rest → I pre W → w.heap.size ≤ W.heap.size →
      body.wpIn (F.inRound l) (n - 1 - 1) P (fun e _ W' => e = .normal ∧ KeepsOthers W W' ∧ W'.heap[Bn]? = W.heap[Bn]? ∧ I (pre ++ [x]) W') (a₁ x) W)
    (hdone : ∀ (W : World), I xs W → W.heap[w.heap.size]? = some (.deferred (some [])) → Q .normal { a with defers := { target := .collected w.heap.size, args := #[] } :: a.defers } W) :
    (Code.rangeFunc g ps assign body).wpIn F n P Q a w := by
  refine wpIn_rangeFunc ?_
  intro fn hfn
  rw [hro]
  let r0 : LoopState → Loop := fun st => { state := st, pending := none, fn, tmps := a.tmps, params := ps, assign, body, defers := w.heap.size }
  have hW1 : ∃ W1, (w.alloc (.deferred (some []))).alloc (.loop (r0 .ready)) = W1 := ⟨_, rfl⟩
  obtain ⟨W1, hW1⟩ := hW1
  have hL : W1.heap[w.heap.size + 1]? = some (.loop (r0 .ready)) := by
    rw [← hW1]; have := World.alloc_heap_new (w.alloc (.deferred (some []))) (.loop (r0 .ready)); rwa [World.size_alloc] at this
  have hD : W1.heap[w.heap.size]? = some (.deferred (some [])) := by
    rw [← hW1]; exact (Below.heap_alloc _ _ _ (by simp)).trans (World.alloc_heap_new w _)
  have hI1 : I [] W1 := by rw [← hW1]; exact hI.alloc _ (hI.alloc _ h0)
  have hB1 : W1.heap[Bn]? = w.heap[Bn]? := by
    rw [← hW1]; exact (Below.heap_alloc _ _ _ (by rw [World.size_alloc]; omega)).trans (Below.heap_alloc _ _ _ hBn)
  have hset : ∀ (A : World) (v : Value) (k : Nat), k ≠ Bn → (A.setCell ⟨Bn, 0, none⟩ v).heap[k]? = A.heap[k]? := by
    intro A v k hk
    exact Below.heap_setCell _ _ _ _ hk
  refine ⟨w.heap.size + 1, [{ target := .collected w.heap.size, args := #[] }], W1, { target := .fn (.func gf) lb, args := #[.func (.yield (w.heap.size + 1)) #[] #[]] }, W1, gf,
    #[.func (.yield (w.heap.size + 1)) #[] #[]] ++ lb, W1, ?_, ?_, ?_, ?_, fun _ => h1, ?_⟩
  · rw [← hW1]; exact run_enterLoop_outer _ _ _ _ _
  · simp only [resolve, hg]
    simp [go_sem]
  · intro f' hf'; simp [Target.leads] at hf'; subst hf'; exact hFg
  · simp [invoke, go_sem, eg]
  refine (hseq (w.heap.size + 1) (fun pre W => I pre W ∧ w.heap.size + 1 < W.heap.size ∧ W.heap[w.heap.size + 1]? = some (.loop (r0 .ready)) ∧ W.heap[w.heap.size]? = some (.deferred (some []))) W1 ?_ ?_ ⟨hI1, (Array.getElem?_eq_some_iff.1 hL).1, hL, hD⟩ hB1).mono ?_
  · rintro pre A v ⟨i1, i2, i3, i4⟩
    refine ⟨hIb _ _ _ i1, ?_, (hset _ _ _ (by omega)).trans i3, (hset _ _ _ (by omega)).trans i4⟩
    exact (Array.getElem?_eq_some_iff.1 ((hset _ _ _ (by omega)).trans i3)).1
  · rintro pre x rest W hx ⟨i1, i2, i3, i4⟩
    have hy := run_yield (P := P) (args := encs x) i3 (hps x)
    refine ⟨fn, _, assign, body, hy, roundIn_of_wpIn hfn (hassign _ x W _ ⟨_, run_beginRound i3 rfl, ?_⟩)⟩
    have j3 : (W.putObj (w.heap.size + 1) (.loop (r0 .busy))).heap[w.heap.size + 1]? = some (.loop (r0 .busy)) := World.putObj_heap_same i2
    have j4 : (W.putObj (w.heap.size + 1) (.loop (r0 .busy))).heap[w.heap.size]? = some (.deferred (some [])) := (World.putObj_heap_other (by omega)).trans i4
    have jb : (W.putObj (w.heap.size + 1) (.loop (r0 .busy))).heap[Bn]? = W.heap[Bn]? := World.putObj_heap_other (by omega)
    refine wpIn_mono (hbody _ pre x rest _ hx (hI.putObj _ i1 (by omega) i3 rfl) (by simp; omega)) ?_
    rintro e a3 W3 ⟨rfl, k1, k2, k3⟩
    have l3 := (k1.same _ _ j3 rfl)
    have l4 := (k1.same _ _ j4 rfl)
    have hr := run_endRound (P := P) none l3
    refine ⟨_, _, hr, rfl, ⟨hI.putObj _ k3 (by omega) l3 rfl, ?_, World.putObj_heap_same (Array.getElem?_eq_some_iff.1 l3).1, (World.putObj_heap_other (by omega)).trans l4⟩, ?_⟩
    · have := (Array.getElem?_eq_some_iff.1 l3).1; simpa using this
    · exact (World.putObj_heap_other (by omega)).trans (k2.trans jb)
  · rintro e W2 ⟨⟨v, rfl⟩, i1, i2, i3, i4⟩
    refine ⟨none, _, run_endLoop (P := P) i3 (by simp [r0]), hdone _ (hI.putObj _ i1 (by omega) i3 rfl) ((World.putObj_heap_other (by omega)).trans i4)⟩
end Go.Proofs.Ytmdeoikpiiambaa
end
section
/- Numbers of a variable length: the digits, one by one. -/
set_option linter.unusedVariables false
set_option maxRecDepth 100000
namespace Go.Proofs.Ytmdeoikpiiambaa
open Go Go.RowKit Go.Shelf

attribute [local go_sem] Oper.semAt_some
/-- the digits, the lowest first, and whether more come -/
def digs : Nat → BitVec 64 → List (BitVec 8 × Bool)
  | 0, m => []
  | f + 1, m => if 128 ≤ m.toNat then ((m % 128#64).setWidth 8, true) :: digs f (m >>> 7) else [(m.setWidth 8, false)]
def encD (x : BitVec 8 × Bool) : Array Value := #[.int .u8 (x.1.toNat : Int), .bool x.2]
set_option maxHeartbeats 2000000 in
theorem digits_in (F : Fence) (n : Nat) (h : F.fn 141) (hro : F.round = none) (m : BitVec 64) (w : World) :
    CallsIn F n Try.prog 141 #[.int .u64 (m.toNat : Int)] w fun e w' => e = .returned (.func (.func 183) #[] #[.pointer (some ⟨w.heap.size, 0, none⟩)]) ∧ w' = w.alloc (.cells #[.int .u64 (m.toNat : Int)] 116) := by
  refine callsIn_of_wp Try.func141 rfl h ?_ hro
  simp only [Try.ntmps141, List.size_toArray, List.length_cons, List.length_nil, Nat.reduceAdd, Nat.reduceSub, Array.replicate_succ, Array.replicate_zero, List.push_toArray, List.append_toArray, List.nil_append, List.cons_append]
  gi_wp2
  go_ret
  exact ⟨rfl, rfl⟩
set_option maxHeartbeats 2000000 in
theorem digs_in (F : Fence) (n : Nat) (hF : F.fn 183) (hro : F.round = none) (hn : 1 ≤ n) (f : Nat) (m : BitVec 64) (hf1 : 1 ≤ f) (hm : m.toNat < 128 ^ f) (Bn : Nat) (w : World) (hb : Boxed w Bn 116 (.int .u64 (m.toNat : Int))) :
    BoxSeq F n Try.prog 183 #[.pointer (some ⟨Bn, 0, none⟩)] encD Bn (digs f m) w := by
  intro l J W hJ hY h0 hW
  have hb0 : Boxed W Bn 116 (.int .u64 (m.toNat : Int)) := hW.trans hb
  refine callsIn_of_wp Try.func183 rfl hF ?_ hro
  simp only [Try.ntmps183, List.size_toArray, List.length_cons, List.length_nil, Nat.reduceAdd, Nat.reduceSub, Array.replicate_succ, Array.replicate_zero, List.push_toArray, List.append_toArray, List.nil_append, List.cons_append]
  gi_wp2
  gi_loopw [] (fun wr => ∃ (pre : List (BitVec 8 × Bool)) (g : Nat) (u : BitVec 64), digs f m = pre ++ digs g u ∧ 1 ≤ g ∧ u.toNat < 128 ^ g ∧ Boxed wr Bn 116 (.int .u64 (u.toNat : Int)) ∧ J pre wr)
    (fun wr => match wr.cell? ⟨Bn, 0, none⟩ with | some (.int _ v) => v.toNat | _ => 0)
  case atStart => exact ⟨[], f, m, rfl, hf1, hm, hb0, h0⟩
  case round =>
    obtain ⟨pre, g, u, hx, hg, hu, hbx, hJs⟩ := hrel
    have hc := hbx.cell
    have hfz := hbx.frozen
    obtain ⟨g, rfl⟩ : ∃ g', g = g' + 1 := ⟨g - 1, by omega⟩
    rcases Nat.lt_or_ge u.toNat 128 with h | h
    · have hlt : ¬ (128 : Int) ≤ (u.toNat : Int) := by omega
      have hx2 : digs f m = pre ++ (u.setWidth 8, false) :: [] := by rw [hx, digs, if_neg (by omega)]
      obtain ⟨fn, tmps, assign, body, hy, hR⟩ := hY pre _ _ wr hx2 hJs
      have e1 : (((u.setWidth 8).toNat : Nat) : Int) = (u.toNat : Int) := by rw [BitVec.toNat_setWidth]; omega
      rw [encD, e1] at hy
      gi_wp2
      refine ⟨fun _ h => (by cases h), ?_⟩
      gi_wp2
      refine hR.mono ?_
      rintro e W3 ⟨rfl, hJ3, hk3⟩
      gi_wp2
      go_end0
      exact ⟨⟨_, rfl⟩, by rw [hx2]; exact hJ3⟩
    · have hge : (128 : Int) ≤ (u.toNat : Int) := by omega
      have hx2 : digs f m = pre ++ ((u % 128#64).setWidth 8, true) :: digs g (u >>> 7) := by rw [hx, digs, if_pos (by omega)]
      obtain ⟨fn, tmps, assign, body, hy, hR⟩ := hY pre _ _ wr hx2 hJs
      have e1 : ((((u % 128#64).setWidth 8).toNat : Nat) : Int) = (u.toNat : Int) % 128 := by rw [BitVec.toNat_setWidth, BitVec.toNat_umod]; show (((u.toNat % 128) % 256 : Nat) : Int) = _; omega
      rw [encD, e1] at hy
      gi_wp2
      refine hR.mono ?_
      rintro e W3 ⟨rfl, hJ3, hk3⟩
      have hb3 : Boxed W3 Bn 116 (.int .u64 (u.toNat : Int)) := hk3.trans hbx
      have hc3 := hb3.cell
      have hf3 := hb3.frozen
      gi_wp2
      have e2 : (((u >>> 7).toNat : Nat) : Int) = (u.toNat : Int) / 128 := by rw [BitVec.toNat_ushiftRight, Nat.shiftRight_eq_div_pow]; omega
      have hg1 : 1 ≤ g := by
        rcases Nat.eq_zero_or_pos g with h0 | h0
        · subst h0; omega
        · exact h0
      refine ⟨⟨pre ++ [((u % 128#64).setWidth 8, true)], g, u >>> 7, by rw [hx2, List.append_assoc]; rfl, hg1, ?_, by rw [e2]; exact hb3.set _, hJ _ _ _ hJ3⟩, ?_⟩
      · rw [BitVec.toNat_ushiftRight, Nat.shiftRight_eq_div_pow]
        rw [Nat.pow_succ] at hu
        exact Nat.div_lt_of_lt_mul (by rw [Nat.mul_comm]; exact hu)
      · rw [(hb3.set _).cell, hc]
        show ((u.toNat : Int) / 128).toNat < (u.toNat : Int).toNat
        omega
end Go.Proofs.Ytmdeoikpiiambaa
end
section
/- Numbers of a variable length: Put. -/
set_option linter.unusedVariables false
set_option maxRecDepth 100000
namespace Go.Proofs.Ytmdeoikpiiambaa
open Go Go.RowKit Go.Shelf

attribute [local go_sem] Oper.semAt_some
/-- a digit's byte -/
def byD (x : BitVec 8 × Bool) : BitVec 8 := if x.2 then x.1 ||| 128#8 else x.1
def valB (q : BitVec 8) : Value := .int .u8 (q.toNat : Int)
theorem or128 (d : BitVec 8) : valB (byD (d, true)) = .int .u8 (bits BinOp.or IntKind.u8 (d.toNat : Int) 128) := by
  have h := Go.Eng.bor8 (d.toNat : Int) 128
  have e : BitVec.ofInt 8 (d.toNat : Int) = d := by simp
  rw [e] at h
  show Value.int .u8 ((d ||| 128#8).toNat : Int) = _
  exact congrArg (Value.int .u8) h.symm
theorem digs_len : ∀ (f : Nat) (m : BitVec 64), (digs f m).length ≤ f
  | 0, m => Nat.le_refl _
  | f + 1, m => by
    rw [digs]
    split
    · have := digs_len f (m >>> 7); simp only [List.length_cons]; omega
    · simp
theorem info5 : (Try.prog.info? 5).map (fun i => (i.zero, i.size, i.bytes)) = some (some (.int .u8 0), 1, 1) := by kernel_rfl
set_option maxHeartbeats 4000000 in
theorem put_in (F : Fence) (n : Nat) (h15 : F.fn 86) (h67 : F.fn 141) (h90 : F.fn 183) (hro : F.round = none) (hn : 3 ≤ n) (m : BitVec 64) (hm : m.toNat < 9223372036854775808) (w : World) :
    CallsIn F n Try.prog 86 #[.int .u64 (m.toNat : Int)] w fun e W' => ∃ v, e = .returned (.tuple #[v, .int .i64 0]) ∧ W'.ownsRow w.heap.size 5 1 v (digs 10 m).length ((digs 10 m).map fun x => valB (byD x)) ∧ (v = .slice none 0 0 ↔ digs 10 m = []) ∧ Below w.heap.size w W' := by
  have h1 : 1 ≤ n := by omega
  obtain ⟨i0, hi, hz0, hz1, hz2⟩ := info_parts info5
  refine callsIn_of_wp_marks Try.func86 rfl h15 ?_ hro
  simp only [Try.ntmps86, List.size_toArray, List.length_cons, List.length_nil, Nat.reduceAdd, Nat.reduceSub, Array.replicate_succ, Array.replicate_zero, List.push_toArray, List.append_toArray, List.nil_append, List.cons_append]
  have hle : ¬ ((9223372036854775807 : Int) < (m.toNat : Int)) := by omega
  gi_wp2_with (gi_at_call 141; refine (digits_in F (n - 1) h67 hro m _).mono ?_; rintro e w' ⟨rfl, rfl⟩)
  have bO := Boxed.new w 22 (.slice none 0 0)
  have bN := Boxed.new (w.alloc (.cells #[.slice none 0 0] 22)) 116 (.int .u64 (m.toNat : Int))
  rw [World.size_alloc] at bN
  have hB0 : Below w.heap.size w ((w.alloc (.cells #[.slice none 0 0] 22)).alloc (.cells #[.int .u64 (m.toNat : Int)] 116)) := ((Below.refl _ w).alloc (Nat.le_refl _) _).alloc (by simp) _
  have hdl := digs_len 10 m
  have h128 : m.toNat < 128 ^ 10 := Nat.lt_of_lt_of_le m.isLt (by decide)
  refine wpIn_rangeBox hro h1 (gf := 183) (lb := #[.pointer (some ⟨w.heap.size + 1, 0, none⟩)]) rfl h90 (enters_of Try.func183 (by kernel_rfl) rfl)
    (digs_in F (n - 1) h90 hro (by omega) 10 m (by decide) h128 (w.heap.size + 1) _ bN) (by simp) (fun _ => rfl)
    (fun pre W => (∃ v, Boxed W w.heap.size 22 v ∧ W.ownsRow w.heap.size 5 1 v pre.length (pre.map fun x => valB (byD x)) ∧ (v = .slice none 0 0 ↔ pre = [])) ∧ (∃ u, Boxed W (w.heap.size + 1) 116 u) ∧ Below w.heap.size w W)
    (OwnFrom.and (Own.from (holdsRow_own w.heap.size w.heap.size 22 5 1 (fun pre : List (BitVec 8 × Bool) => pre.length) (fun pre => pre.map fun x => valB (byD x)) (fun pre v => v = .slice none 0 0 ↔ pre = [])) _)
      (OwnFrom.and (Own.from (fun s A B row ⟨u, hu⟩ hg hr => ⟨u, hu.kept hg (fun e => by obtain ⟨o, ho, hc⟩ := hr _ e.symm; rw [show A.heap[w.heap.size + 1]? = _ from hu] at ho; cases ho; cases hc)⟩) _) (ownFrom_below (Nat.le_refl _) (by simp; omega))))
    ?bx ⟨⟨_, bO.alloc _, World.ownsRow_nil _ _ _ _, by simp⟩, ⟨_, bN⟩, hB0⟩
    (fun x => { tmps := #[.int .u64 (m.toNat : Int), undef, .slice none 0 0, .int .i64 0, .pointer (some ⟨w.heap.size, 0, none⟩), .int .u8 (x.1.toNat : Int), .bool x.2, .int .u64 (m.toNat : Int), .bool false, .int .u64 (m.toNat : Int),
      .func (.func 183) #[] #[.pointer (some ⟨w.heap.size + 1, 0, none⟩)], .int .u8 (x.1.toNat : Int), .bool x.2, undef, undef, undef, undef, undef, undef, undef, undef], defers := [] }) ?assign ?body ?done
  case bx =>
    rintro pre A v0 ⟨⟨v, hv, hrow, hnil⟩, ⟨u, hu⟩, hB⟩
    refine ⟨⟨v, hv.kept (grownBy_setCell' A (w.heap.size + 1) v0) (by simp), hrow.kept (grownBy_setCell' A (w.heap.size + 1) v0) (.inr (hu.not_row (by decide) hrow).symm), hnil⟩, ⟨_, hu.set v0⟩, hB.setCell (p := ⟨w.heap.size + 1, 0, none⟩) (by simp) v0⟩
  case assign =>
    intro l x W K hK
    dsimp only [encD]
    gi_wp2
    exact hK
  case body =>
    rintro l pre ⟨d, go⟩ rest W hx ⟨⟨v, hv, hrow, hnil⟩, ⟨u, hu⟩, hB⟩ hsz
    have hc := hv.cell
    have hml : 20 ≤ maxLen := by decide
    have hpl : pre.length < 10 := by rw [hx] at hdl; simp at hdl; omega
    cases go
    · gi_wp2_with (gi_at_builtin; refine wpListIn_append_own _ rfl _ _ 22 rfl w.heap.size 5 i0 (.int .u8 0) 1 1 Try.underlying22 hi hz0 hz1 hz2 rfl (by decide) _ _ _ rfl (hrow.alloc _) ⟨W.heap.size, 0, none⟩ 1 1 [.int .u8 (d.toNat : Int)] rfl rfl (cell_one_new _ _ _) (by simp [Value.oneCell']) (by omega) (by omega) (by have := hB.size; simp; omega) ?_; intro v' w1 hown' hgrow _; obtain ⟨g', cap', rfl⟩ := ownsRow_succ hown'; obtain ⟨hv1, hv2, hr2, hk2, hb2⟩ := hv.appended (by decide) hrow hB.size (Nat.le_refl _) hown' hgrow; have hc1 := hv1.cell; have hf1 := hv1.frozen)
      have e9 := (Below.heap_setCell w1 ⟨w.heap.size, 0, none⟩ (.slice (some ⟨g', 0, none⟩) (pre.length + 1) cap') (w.heap.size + 1) (by simp)).trans ((hgrow.block _ (by simp; have := hu.lt; omega) (hu.not_row (by decide) hrow)).trans (Below.heap_alloc W _ _ hu.lt))
      refine ⟨e9, ⟨_, hv2, hr2, by simp⟩, ⟨u, e9.trans hu⟩, hB.trans hb2⟩
    · gi_wp2_with (gi_at_builtin; refine wpListIn_append_own _ rfl _ _ 22 rfl w.heap.size 5 i0 (.int .u8 0) 1 1 Try.underlying22 hi hz0 hz1 hz2 rfl (by decide) _ _ _ rfl (hrow.alloc _) ⟨W.heap.size, 0, none⟩ 1 1 [.int .u8 (bits BinOp.or IntKind.u8 (d.toNat : Int) 128)] rfl rfl (cell_one_new _ _ _) (by simp [Value.oneCell']) (by omega) (by omega) (by have := hB.size; simp; omega) ?_; intro v' w1 hown' hgrow _; obtain ⟨g', cap', rfl⟩ := ownsRow_succ hown'; obtain ⟨hv1, hv2, hr2, hk2, hb2⟩ := hv.appended (by decide) hrow hB.size (Nat.le_refl _) hown' hgrow; have hc1 := hv1.cell; have hf1 := hv1.frozen)
      have e9 := (Below.heap_setCell w1 ⟨w.heap.size, 0, none⟩ (.slice (some ⟨g', 0, none⟩) (pre.length + 1) cap') (w.heap.size + 1) (by simp)).trans ((hgrow.block _ (by simp; have := hu.lt; omega) (hu.not_row (by decide) hrow)).trans (Below.heap_alloc W _ _ hu.lt))
      refine ⟨e9, ⟨_, hv2, by rw [or128]; exact hr2, by simp⟩, ⟨u, e9.trans hu⟩, hB.trans hb2⟩
  case done =>
    rintro W ⟨⟨v, hv, hrow, hnil⟩, _, hB⟩ hK
    have hc := hv.cell
    gi_wp2
    refine ⟨by simp, .inl ⟨_, _, rfl, run_takeDeferred hK, ?_⟩⟩
    exact ⟨_, results_tmp2 rfl _ _ _, v, rfl, ownsRow_putObj hrow _ hK rfl, hnil, hB.trans (belowK_b (w := w) (Nat.le_refl _) W _ _ _ (by simp; omega) hK rfl rfl)⟩
end Go.Proofs.Ytmdeoikpiiambaa
end
section
/- Facts on the types and functions of the translation, written by a program of our own. -/
set_option maxRecDepth 100000
namespace Go.Proofs.Ytmdeoikpiiambaa.Fx
open Go Go.Eng Go.Proofs.Try
theorem t1 : known prog 1 = true ∧ aggT prog 1 = false ∧ isIfaceT prog 1 = false ∧ isFuncT prog 1 = true ∧ sizeT prog 1 = some 1 ∧ bytesT prog 1 = some 8 ∧ zav prog 1 = some [.nilf] ∧ dflt prog 1 = .nilf ∧ zval prog 1 = some (.nilf) := by and_intros <;> kernel_rfl
theorem t2 : known prog 2 = true ∧ aggT prog 2 = false ∧ isIfaceT prog 2 = false ∧ intT prog 2 = some .i64 ∧ sizeT prog 2 = some 1 ∧ bytesT prog 2 = some 8 ∧ zav prog 2 = some [.int .i64 0] ∧ dflt prog 2 = .int .i64 0 ∧ zval prog 2 = some (.int .i64 0) := by and_intros <;> kernel_rfl
theorem t3 : known prog 3 = true ∧ aggT prog 3 = false ∧ isIfaceT prog 3 = false ∧ intT prog 3 = some .i64 ∧ sizeT prog 3 = some 1 ∧ bytesT prog 3 = some 8 ∧ zav prog 3 = some [.int .i64 0] ∧ dflt prog 3 = .int .i64 0 ∧ zval prog 3 = some (.int .i64 0) := by and_intros <;> kernel_rfl
theorem t4 : known prog 4 = true ∧ aggT prog 4 = false ∧ isIfaceT prog 4 = false ∧ isBoolT prog 4 = true ∧ sizeT prog 4 = some 1 ∧ bytesT prog 4 = some 1 ∧ zav prog 4 = some [.bool false] ∧ dflt prog 4 = .bool false ∧ zval prog 4 = some (.bool false) := by and_intros <;> kernel_rfl
theorem t5 : known prog 5 = true ∧ aggT prog 5 = false ∧ isIfaceT prog 5 = false ∧ intT prog 5 = some .u8 ∧ sizeT prog 5 = some 1 ∧ bytesT prog 5 = some 1 ∧ zav prog 5 = some [.int .u8 0] ∧ dflt prog 5 = .int .u8 0 ∧ zval prog 5 = some (.int .u8 0) := by and_intros <;> kernel_rfl
theorem t6 : known prog 6 = true ∧ aggT prog 6 = false ∧ isIfaceT prog 6 = false ∧ intT prog 6 = some .u8 ∧ sizeT prog 6 = some 1 ∧ bytesT prog 6 = some 1 ∧ zav prog 6 = some [.int .u8 0] ∧ dflt prog 6 = .int .u8 0 ∧ zval prog 6 = some (.int .u8 0) := by and_intros <;> kernel_rfl
theorem t7 : known prog 7 = true ∧ aggT prog 7 = true ∧ isIfaceT prog 7 = false ∧ sizeT prog 7 = some 4 ∧ zav prog 7 = some [.int .i64 0, .int .i64 0, .bool false, .int .u8 0] ∧ zval prog 7 = some (.agg [.int .i64 0, .int .i64 0, .bool false, .int .u8 0]) ∧ fieldT prog 7 0 = some (0, 2) ∧ fieldT prog 7 1 = some (1, 3) ∧ fieldT prog 7 2 = some (2, 4) ∧ fieldT prog 7 3 = some (3, 6) ∧ placesT prog 7 = some [(0, 1), (1, 1), (2, 1), (3, 1)] := by and_intros <;> kernel_rfl
theorem t8 : known prog 8 = true ∧ aggT prog 8 = true ∧ isIfaceT prog 8 = false ∧ sizeT prog 8 = some 4 ∧ zav prog 8 = some [.int .i64 0, .int .i64 0, .bool false, .int .u8 0] ∧ zval prog 8 = some (.agg [.int .i64 0, .int .i64 0, .bool false, .int .u8 0]) ∧ fieldT prog 8 0 = some (0, 2) ∧ fieldT prog 8 1 = some (1, 3) ∧ fieldT prog 8 2 = some (2, 4) ∧ fieldT prog 8 3 = some (3, 6) ∧ placesT prog 8 = some [(0, 1), (1, 1), (2, 1), (3, 1)] := by and_intros <;> kernel_rfl
theorem t9 : known prog 9 = true ∧ aggT prog 9 = false ∧ isIfaceT prog 9 = false ∧ isStrT prog 9 = true ∧ sizeT prog 9 = some 1 ∧ bytesT prog 9 = some 16 ∧ zav prog 9 = some [.str ⟨#[]⟩] ∧ dflt prog 9 = .str ⟨#[]⟩ ∧ zval prog 9 = some (.str ⟨#[]⟩) := by and_intros <;> kernel_rfl
theorem t10 : known prog 10 = true ∧ aggT prog 10 = false ∧ isIfaceT prog 10 = false ∧ isStrT prog 10 = true ∧ sizeT prog 10 = some 1 ∧ bytesT prog 10 = some 16 ∧ zav prog 10 = some [.str ⟨#[]⟩] ∧ dflt prog 10 = .str ⟨#[]⟩ ∧ zval prog 10 = some (.str ⟨#[]⟩) := by and_intros <;> kernel_rfl
theorem t11 : known prog 11 = true ∧ aggT prog 11 = false ∧ isIfaceT prog 11 = false ∧ isStrT prog 11 = true ∧ sizeT prog 11 = some 1 ∧ bytesT prog 11 = some 16 ∧ zav prog 11 = some [.str ⟨#[]⟩] ∧ dflt prog 11 = .str ⟨#[]⟩ ∧ zval prog 11 = some (.str ⟨#[]⟩) := by and_intros <;> kernel_rfl
theorem t12 : known prog 12 = true ∧ aggT prog 12 = false ∧ isIfaceT prog 12 = false ∧ intT prog 12 = some .u64 ∧ sizeT prog 12 = some 1 ∧ bytesT prog 12 = some 8 ∧ zav prog 12 = some [.int .u64 0] ∧ dflt prog 12 = .int .u64 0 ∧ zval prog 12 = some (.int .u64 0) := by and_intros <;> kernel_rfl
theorem t13 : known prog 13 = true ∧ aggT prog 13 = true ∧ isIfaceT prog 13 = false ∧ sizeT prog 13 = some 2 ∧ zav prog 13 = some [.str ⟨#[]⟩, .int .u64 0] ∧ zval prog 13 = some (.agg [.str ⟨#[]⟩, .int .u64 0]) ∧ fieldT prog 13 0 = some (0, 9) ∧ fieldT prog 13 1 = some (1, 12) ∧ placesT prog 13 = some [(0, 1), (1, 1)] := by and_intros <;> kernel_rfl
theorem t14 : known prog 14 = true ∧ aggT prog 14 = true ∧ isIfaceT prog 14 = false ∧ sizeT prog 14 = some 2 ∧ zav prog 14 = some [.str ⟨#[]⟩, .int .u64 0] ∧ zval prog 14 = some (.agg [.str ⟨#[]⟩, .int .u64 0]) ∧ fieldT prog 14 0 = some (0, 9) ∧ fieldT prog 14 1 = some (1, 12) ∧ placesT prog 14 = some [(0, 1), (1, 1)] := by and_intros <;> kernel_rfl
theorem t15 : known prog 15 = true ∧ aggT prog 15 = false ∧ isIfaceT prog 15 = false ∧ isPtrT prog 15 = true ∧ sizeT prog 15 = some 1 ∧ bytesT prog 15 = some 8 ∧ zav prog 15 = some [.nilp] ∧ dflt prog 15 = .nilp ∧ zval prog 15 = some (.nilp) := by and_intros <;> kernel_rfl
theorem t16 : known prog 16 = true ∧ aggT prog 16 = false ∧ isIfaceT prog 16 = false ∧ isPtrT prog 16 = true ∧ sizeT prog 16 = some 1 ∧ bytesT prog 16 = some 8 ∧ zav prog 16 = some [.nilp] ∧ dflt prog 16 = .nilp ∧ zval prog 16 = some (.nilp) := by and_intros <;> kernel_rfl
theorem t17 : known prog 17 = true ∧ aggT prog 17 = false ∧ isIfaceT prog 17 = false ∧ isPtrT prog 17 = true ∧ sizeT prog 17 = some 1 ∧ bytesT prog 17 = some 8 ∧ zav prog 17 = some [.nilp] ∧ dflt prog 17 = .nilp ∧ zval prog 17 = some (.nilp) := by and_intros <;> kernel_rfl
theorem t20 : known prog 20 = true ∧ aggT prog 20 = false ∧ isIfaceT prog 20 = true ∧ sizeT prog 20 = some 1 ∧ bytesT prog 20 = some 16 ∧ zav prog 20 = some [.nili] ∧ dflt prog 20 = .nili ∧ zval prog 20 = some (.nili) := by and_intros <;> kernel_rfl
theorem t21 : known prog 21 = true ∧ aggT prog 21 = false ∧ isIfaceT prog 21 = false ∧ intT prog 21 = some .i32 ∧ sizeT prog 21 = some 1 ∧ bytesT prog 21 = some 4 ∧ zav prog 21 = some [.int .i32 0] ∧ dflt prog 21 = .int .i32 0 ∧ zval prog 21 = some (.int .i32 0) := by and_intros <;> kernel_rfl
theorem t22 : known prog 22 = true ∧ aggT prog 22 = false ∧ isIfaceT prog 22 = false ∧ elemT prog 22 = some 5 ∧ isStrT prog 22 = false ∧ intT prog 22 = none ∧ sizeT prog 22 = some 1 ∧ bytesT prog 22 = some 24 ∧ zav prog 22 = some [.nils] ∧ dflt prog 22 = .nils ∧ zval prog 22 = some (.nils) := by and_intros <;> kernel_rfl
theorem t23 : known prog 23 = true ∧ aggT prog 23 = false ∧ isIfaceT prog 23 = false ∧ isFuncT prog 23 = true ∧ sizeT prog 23 = some 1 ∧ bytesT prog 23 = some 8 ∧ zav prog 23 = some [.nilf] ∧ dflt prog 23 = .nilf ∧ zval prog 23 = some (.nilf) := by and_intros <;> kernel_rfl
theorem t25 : known prog 25 = true ∧ aggT prog 25 = false ∧ isIfaceT prog 25 = false ∧ intT prog 25 = some .i64 ∧ sizeT prog 25 = some 1 ∧ bytesT prog 25 = some 8 ∧ zav prog 25 = some [.int .i64 0] ∧ dflt prog 25 = .int .i64 0 ∧ zval prog 25 = some (.int .i64 0) := by and_intros <;> kernel_rfl
theorem t42 : known prog 42 = true ∧ aggT prog 42 = false ∧ isIfaceT prog 42 = false ∧ isFuncT prog 42 = true ∧ sizeT prog 42 = some 1 ∧ bytesT prog 42 = some 8 ∧ zav prog 42 = some [.nilf] ∧ dflt prog 42 = .nilf ∧ zval prog 42 = some (.nilf) := by and_intros <;> kernel_rfl
theorem t44 : known prog 44 = true ∧ aggT prog 44 = false ∧ isIfaceT prog 44 = false ∧ elemT prog 44 = some 126 ∧ isStrT prog 44 = false ∧ intT prog 44 = none ∧ sizeT prog 44 = some 1 ∧ bytesT prog 44 = some 24 ∧ zav prog 44 = some [.nils] ∧ dflt prog 44 = .nils ∧ zval prog 44 = some (.nils) := by and_intros <;> kernel_rfl
theorem t46 : known prog 46 = true ∧ aggT prog 46 = false ∧ isIfaceT prog 46 = false ∧ elemT prog 46 = some 50 ∧ isStrT prog 46 = false ∧ intT prog 46 = none ∧ sizeT prog 46 = some 1 ∧ bytesT prog 46 = some 24 ∧ zav prog 46 = some [.nils] ∧ dflt prog 46 = .nils ∧ zval prog 46 = some (.nils) := by and_intros <;> kernel_rfl
theorem t49 : known prog 49 = true ∧ aggT prog 49 = true ∧ isIfaceT prog 49 = false ∧ eqAggT prog 49 = true ∧ sizeT prog 49 = some 2 ∧ zav prog 49 = some [.int .i64 0, .int .i64 0] ∧ zval prog 49 = some (.agg [.int .i64 0, .int .i64 0]) ∧ fieldT prog 49 0 = some (0, 2) ∧ fieldT prog 49 1 = some (1, 2) ∧ placesT prog 49 = some [(0, 1), (1, 1)] := by and_intros <;> kernel_rfl
theorem t50 : known prog 50 = true ∧ aggT prog 50 = true ∧ isIfaceT prog 50 = false ∧ eqAggT prog 50 = true ∧ sizeT prog 50 = some 2 ∧ zav prog 50 = some [.int .i64 0, .int .i64 0] ∧ zval prog 50 = some (.agg [.int .i64 0, .int .i64 0]) ∧ fieldT prog 50 0 = some (0, 2) ∧ fieldT prog 50 1 = some (1, 2) ∧ placesT prog 50 = some [(0, 1), (1, 1)] := by and_intros <;> kernel_rfl
theorem t58 : known prog 58 = true ∧ aggT prog 58 = false ∧ isIfaceT prog 58 = false ∧ elemT prog 58 = some 71 ∧ isStrT prog 58 = false ∧ intT prog 58 = none ∧ sizeT prog 58 = some 1 ∧ bytesT prog 58 = some 24 ∧ zav prog 58 = some [.nils] ∧ dflt prog 58 = .nils ∧ zval prog 58 = some (.nils) := by and_intros <;> kernel_rfl
theorem t59 : known prog 59 = true ∧ aggT prog 59 = false ∧ isIfaceT prog 59 = false ∧ isPtrT prog 59 = true ∧ sizeT prog 59 = some 1 ∧ bytesT prog 59 = some 8 ∧ zav prog 59 = some [.nilp] ∧ dflt prog 59 = .nilp ∧ zval prog 59 = some (.nilp) := by and_intros <;> kernel_rfl
theorem t63 : known prog 63 = true ∧ aggT prog 63 = false ∧ isIfaceT prog 63 = false ∧ isPtrT prog 63 = true ∧ sizeT prog 63 = some 1 ∧ bytesT prog 63 = some 8 ∧ zav prog 63 = some [.nilp] ∧ dflt prog 63 = .nilp ∧ zval prog 63 = some (.nilp) := by and_intros <;> kernel_rfl
theorem t65 : known prog 65 = true ∧ aggT prog 65 = false ∧ isIfaceT prog 65 = false ∧ isPtrT prog 65 = true ∧ sizeT prog 65 = some 1 ∧ bytesT prog 65 = some 8 ∧ zav prog 65 = some [.nilp] ∧ dflt prog 65 = .nilp ∧ zval prog 65 = some (.nilp) := by and_intros <;> kernel_rfl
theorem t67 : known prog 67 = true ∧ aggT prog 67 = false ∧ isIfaceT prog 67 = false ∧ isPtrT prog 67 = true ∧ sizeT prog 67 = some 1 ∧ bytesT prog 67 = some 8 ∧ zav prog 67 = some [.nilp] ∧ dflt prog 67 = .nilp ∧ zval prog 67 = some (.nilp) := by and_intros <;> kernel_rfl
theorem t70 : known prog 70 = true ∧ aggT prog 70 = true ∧ isIfaceT prog 70 = false ∧ eqAggT prog 70 = true ∧ sizeT prog 70 = some 5 ∧ zav prog 70 = some [.int .i64 0, .int .u8 0, .int .i64 0, .int .i64 0, .int .i64 0] ∧ zval prog 70 = some (.agg [.int .i64 0, .int .u8 0, .int .i64 0, .int .i64 0, .int .i64 0]) ∧ fieldT prog 70 0 = some (0, 3) ∧ fieldT prog 70 1 = some (1, 5) ∧ fieldT prog 70 2 = some (2, 3) ∧ fieldT prog 70 3 = some (3, 3) ∧ fieldT prog 70 4 = some (4, 3) ∧ placesT prog 70 = some [(0, 1), (1, 1), (2, 1), (3, 1), (4, 1)] := by and_intros <;> kernel_rfl
theorem t71 : known prog 71 = true ∧ aggT prog 71 = true ∧ isIfaceT prog 71 = false ∧ eqAggT prog 71 = true ∧ sizeT prog 71 = some 5 ∧ zav prog 71 = some [.int .i64 0, .int .u8 0, .int .i64 0, .int .i64 0, .int .i64 0] ∧ zval prog 71 = some (.agg [.int .i64 0, .int .u8 0, .int .i64 0, .int .i64 0, .int .i64 0]) ∧ fieldT prog 71 0 = some (0, 3) ∧ fieldT prog 71 1 = some (1, 5) ∧ fieldT prog 71 2 = some (2, 3) ∧ fieldT prog 71 3 = some (3, 3) ∧ fieldT prog 71 4 = some (4, 3) ∧ placesT prog 71 = some [(0, 1), (1, 1), (2, 1), (3, 1), (4, 1)] := by and_intros <;> kernel_rfl
theorem t77 : known prog 77 = true ∧ aggT prog 77 = false ∧ isIfaceT prog 77 = false ∧ elemT prog 77 = some 3 ∧ isStrT prog 77 = false ∧ intT prog 77 = none ∧ sizeT prog 77 = some 1 ∧ bytesT prog 77 = some 24 ∧ zav prog 77 = some [.nils] ∧ dflt prog 77 = .nils ∧ zval prog 77 = some (.nils) := by and_intros <;> kernel_rfl
theorem t78 : known prog 78 = true ∧ aggT prog 78 = false ∧ isIfaceT prog 78 = false ∧ elemT prog 78 = some 136 ∧ isStrT prog 78 = false ∧ intT prog 78 = none ∧ sizeT prog 78 = some 1 ∧ bytesT prog 78 = some 24 ∧ zav prog 78 = some [.nils] ∧ dflt prog 78 = .nils ∧ zval prog 78 = some (.nils) := by and_intros <;> kernel_rfl
theorem t79 : known prog 79 = true ∧ aggT prog 79 = true ∧ isIfaceT prog 79 = false ∧ sizeT prog 79 = some 6 ∧ zav prog 79 = some [.int .i64 0, .int .i64 0, .int .i64 0, .int .i64 0, .nils, .nils] ∧ zval prog 79 = some (.agg [.int .i64 0, .int .i64 0, .int .i64 0, .int .i64 0, .nils, .nils]) ∧ fieldT prog 79 0 = some (0, 3) ∧ fieldT prog 79 1 = some (1, 3) ∧ fieldT prog 79 2 = some (2, 3) ∧ fieldT prog 79 3 = some (3, 3) ∧ fieldT prog 79 4 = some (4, 77) ∧ fieldT prog 79 5 = some (5, 78) ∧ placesT prog 79 = some [(0, 1), (1, 1), (2, 1), (3, 1), (4, 1), (5, 1)] := by and_intros <;> kernel_rfl
theorem t80 : known prog 80 = true ∧ aggT prog 80 = true ∧ isIfaceT prog 80 = false ∧ sizeT prog 80 = some 6 ∧ zav prog 80 = some [.int .i64 0, .int .i64 0, .int .i64 0, .int .i64 0, .nils, .nils] ∧ zval prog 80 = some (.agg [.int .i64 0, .int .i64 0, .int .i64 0, .int .i64 0, .nils, .nils]) ∧ fieldT prog 80 0 = some (0, 3) ∧ fieldT prog 80 1 = some (1, 3) ∧ fieldT prog 80 2 = some (2, 3) ∧ fieldT prog 80 3 = some (3, 3) ∧ fieldT prog 80 4 = some (4, 77) ∧ fieldT prog 80 5 = some (5, 78) ∧ placesT prog 80 = some [(0, 1), (1, 1), (2, 1), (3, 1), (4, 1), (5, 1)] := by and_intros <;> kernel_rfl
theorem t82 : known prog 82 = true ∧ aggT prog 82 = true ∧ isIfaceT prog 82 = false ∧ eqAggT prog 82 = true ∧ arrT prog 82 = some (4, 3) ∧ placesT prog 82 = none ∧ sizeT prog 82 = some 4 ∧ bytesT prog 82 = some 32 ∧ zav prog 82 = some (List.replicate 4 (.int .i64 0)) ∧ zval prog 82 = some (.agg (List.replicate 4 (.int .i64 0))) := by and_intros <;> kernel_rfl
theorem t85 : known prog 85 = true ∧ aggT prog 85 = false ∧ isIfaceT prog 85 = false ∧ isFuncT prog 85 = true ∧ sizeT prog 85 = some 1 ∧ bytesT prog 85 = some 8 ∧ zav prog 85 = some [.nilf] ∧ dflt prog 85 = .nilf ∧ zval prog 85 = some (.nilf) := by and_intros <;> kernel_rfl
theorem t88 : known prog 88 = true ∧ aggT prog 88 = false ∧ isIfaceT prog 88 = false ∧ isPtrT prog 88 = true ∧ sizeT prog 88 = some 1 ∧ bytesT prog 88 = some 8 ∧ zav prog 88 = some [.nilp] ∧ dflt prog 88 = .nilp ∧ zval prog 88 = some (.nilp) := by and_intros <;> kernel_rfl
theorem t93 : known prog 93 = true ∧ aggT prog 93 = false ∧ isIfaceT prog 93 = false ∧ isPtrT prog 93 = true ∧ sizeT prog 93 = some 1 ∧ bytesT prog 93 = some 8 ∧ zav prog 93 = some [.nilp] ∧ dflt prog 93 = .nilp ∧ zval prog 93 = some (.nilp) := by and_intros <;> kernel_rfl
theorem t96 : known prog 96 = true ∧ aggT prog 96 = false ∧ isIfaceT prog 96 = false ∧ isPtrT prog 96 = true ∧ sizeT prog 96 = some 1 ∧ bytesT prog 96 = some 8 ∧ zav prog 96 = some [.nilp] ∧ dflt prog 96 = .nilp ∧ zval prog 96 = some (.nilp) := by and_intros <;> kernel_rfl
theorem t97 : known prog 97 = true ∧ aggT prog 97 = true ∧ isIfaceT prog 97 = false ∧ sizeT prog 97 = some 2 ∧ zav prog 97 = some [.nilp, .nilp] ∧ zval prog 97 = some (.agg [.nilp, .nilp]) ∧ fieldT prog 97 0 = some (0, 93) ∧ fieldT prog 97 1 = some (1, 65) ∧ placesT prog 97 = some [(0, 1), (1, 1)] := by and_intros <;> kernel_rfl
theorem t98 : known prog 98 = true ∧ aggT prog 98 = true ∧ isIfaceT prog 98 = false ∧ sizeT prog 98 = some 2 ∧ zav prog 98 = some [.nilp, .nilp] ∧ zval prog 98 = some (.agg [.nilp, .nilp]) ∧ fieldT prog 98 0 = some (0, 93) ∧ fieldT prog 98 1 = some (1, 65) ∧ placesT prog 98 = some [(0, 1), (1, 1)] := by and_intros <;> kernel_rfl
theorem t107 : known prog 107 = true ∧ aggT prog 107 = false ∧ isIfaceT prog 107 = false ∧ elemT prog 107 = some 294 ∧ isStrT prog 107 = false ∧ intT prog 107 = none ∧ sizeT prog 107 = some 1 ∧ bytesT prog 107 = some 24 ∧ zav prog 107 = some [.nils] ∧ dflt prog 107 = .nils ∧ zval prog 107 = some (.nils) := by and_intros <;> kernel_rfl
theorem t108 : known prog 108 = true ∧ aggT prog 108 = false ∧ isIfaceT prog 108 = false ∧ intT prog 108 = some .u32 ∧ sizeT prog 108 = some 1 ∧ bytesT prog 108 = some 4 ∧ zav prog 108 = some [.int .u32 0] ∧ dflt prog 108 = .int .u32 0 ∧ zval prog 108 = some (.int .u32 0) := by and_intros <;> kernel_rfl
theorem t109 : known prog 109 = true ∧ aggT prog 109 = true ∧ isIfaceT prog 109 = false ∧ sizeT prog 109 = some 9 ∧ zav prog 109 = some [.int .i64 0, .int .i64 0, .int .i64 0, .int .i64 0, .int .i64 0, .int .i64 0, .int .i64 0, .nils, .int .u32 0] ∧ zval prog 109 = some (.agg [.int .i64 0, .int .i64 0, .int .i64 0, .int .i64 0, .int .i64 0, .int .i64 0, .int .i64 0, .nils, .int .u32 0]) ∧ fieldT prog 109 0 = some (0, 3) ∧ fieldT prog 109 1 = some (1, 3) ∧ fieldT prog 109 2 = some (2, 3) ∧ fieldT prog 109 3 = some (3, 3) ∧ fieldT prog 109 4 = some (4, 3) ∧ fieldT prog 109 5 = some (5, 3) ∧ fieldT prog 109 6 = some (6, 3) ∧ fieldT prog 109 7 = some (7, 107) ∧ fieldT prog 109 8 = some (8, 108) ∧ placesT prog 109 = some [(0, 1), (1, 1), (2, 1), (3, 1), (4, 1), (5, 1), (6, 1), (7, 1), (8, 1)] := by and_intros <;> kernel_rfl
theorem t110 : known prog 110 = true ∧ aggT prog 110 = true ∧ isIfaceT prog 110 = false ∧ sizeT prog 110 = some 9 ∧ zav prog 110 = some [.int .i64 0, .int .i64 0, .int .i64 0, .int .i64 0, .int .i64 0, .int .i64 0, .int .i64 0, .nils, .int .u32 0] ∧ zval prog 110 = some (.agg [.int .i64 0, .int .i64 0, .int .i64 0, .int .i64 0, .int .i64 0, .int .i64 0, .int .i64 0, .nils, .int .u32 0]) ∧ fieldT prog 110 0 = some (0, 3) ∧ fieldT prog 110 1 = some (1, 3) ∧ fieldT prog 110 2 = some (2, 3) ∧ fieldT prog 110 3 = some (3, 3) ∧ fieldT prog 110 4 = some (4, 3) ∧ fieldT prog 110 5 = some (5, 3) ∧ fieldT prog 110 6 = some (6, 3) ∧ fieldT prog 110 7 = some (7, 107) ∧ fieldT prog 110 8 = some (8, 108) ∧ placesT prog 110 = some [(0, 1), (1, 1), (2, 1), (3, 1), (4, 1), (5, 1), (6, 1), (7, 1), (8, 1)] := by and_intros <;> kernel_rfl
theorem t116 : known prog 116 = true ∧ aggT prog 116 = false ∧ isIfaceT prog 116 = false ∧ intT prog 116 = some .u64 ∧ sizeT prog 116 = some 1 ∧ bytesT prog 116 = some 8 ∧ zav prog 116 = some [.int .u64 0] ∧ dflt prog 116 = .int .u64 0 ∧ zval prog 116 = some (.int .u64 0) := by and_intros <;> kernel_rfl
theorem t117 : known prog 117 = true ∧ aggT prog 117 = false ∧ isIfaceT prog 117 = false ∧ isFuncT prog 117 = true ∧ sizeT prog 117 = some 1 ∧ bytesT prog 117 = some 8 ∧ zav prog 117 = some [.nilf] ∧ dflt prog 117 = .nilf ∧ zval prog 117 = some (.nilf) := by and_intros <;> kernel_rfl
theorem t118 : known prog 118 = true ∧ aggT prog 118 = false ∧ isIfaceT prog 118 = false ∧ mapT prog 118 = some (.i64, 117) ∧ mxT prog 118 = none ∧ sizeT prog 118 = some 1 ∧ bytesT prog 118 = some 8 ∧ zav prog 118 = some [.nilm] ∧ dflt prog 118 = .nilm ∧ zval prog 118 = some (.nilm) := by and_intros <;> kernel_rfl
theorem t123 : known prog 123 = true ∧ aggT prog 123 = false ∧ isIfaceT prog 123 = false ∧ intT prog 123 = some .u64 ∧ sizeT prog 123 = some 1 ∧ bytesT prog 123 = some 8 ∧ zav prog 123 = some [.int .u64 0] ∧ dflt prog 123 = .int .u64 0 ∧ zval prog 123 = some (.int .u64 0) := by and_intros <;> kernel_rfl
theorem t125 : known prog 125 = true ∧ aggT prog 125 = false ∧ isIfaceT prog 125 = false ∧ isFuncT prog 125 = true ∧ sizeT prog 125 = some 1 ∧ bytesT prog 125 = some 8 ∧ zav prog 125 = some [.nilf] ∧ dflt prog 125 = .nilf ∧ zval prog 125 = some (.nilf) := by and_intros <;> kernel_rfl
theorem t126 : known prog 126 = true ∧ aggT prog 126 = true ∧ isIfaceT prog 126 = false ∧ eqAggT prog 126 = true ∧ sizeT prog 126 = some 2 ∧ zav prog 126 = some [.int .i64 0, .int .i64 0] ∧ zval prog 126 = some (.agg [.int .i64 0, .int .i64 0]) ∧ fieldT prog 126 0 = some (0, 2) ∧ fieldT prog 126 1 = some (1, 2) ∧ placesT prog 126 = some [(0, 1), (1, 1)] := by and_intros <;> kernel_rfl
theorem t127 : known prog 127 = true ∧ aggT prog 127 = false ∧ isIfaceT prog 127 = false ∧ isPtrT prog 127 = true ∧ sizeT prog 127 = some 1 ∧ bytesT prog 127 = some 8 ∧ zav prog 127 = some [.nilp] ∧ dflt prog 127 = .nilp ∧ zval prog 127 = some (.nilp) := by and_intros <;> kernel_rfl
theorem t128 : known prog 128 = true ∧ aggT prog 128 = true ∧ isIfaceT prog 128 = false ∧ sizeT prog 128 = some 3 ∧ zav prog 128 = some [.nils, .int .i64 0, .int .i64 0] ∧ zval prog 128 = some (.agg [.nils, .int .i64 0, .int .i64 0]) ∧ fieldT prog 128 0 = some (0, 22) ∧ fieldT prog 128 1 = some (1, 3) ∧ fieldT prog 128 2 = some (2, 25) ∧ placesT prog 128 = some [(0, 1), (1, 1), (2, 1)] := by and_intros <;> kernel_rfl
theorem t129 : known prog 129 = true ∧ aggT prog 129 = true ∧ isIfaceT prog 129 = false ∧ sizeT prog 129 = some 3 ∧ zav prog 129 = some [.nils, .int .i64 0, .int .i64 0] ∧ zval prog 129 = some (.agg [.nils, .int .i64 0, .int .i64 0]) ∧ fieldT prog 129 0 = some (0, 22) ∧ fieldT prog 129 1 = some (1, 3) ∧ fieldT prog 129 2 = some (2, 25) ∧ placesT prog 129 = some [(0, 1), (1, 1), (2, 1)] := by and_intros <;> kernel_rfl
theorem t135 : known prog 135 = true ∧ aggT prog 135 = false ∧ isIfaceT prog 135 = false ∧ elemT prog 135 = some 153 ∧ isStrT prog 135 = false ∧ intT prog 135 = none ∧ sizeT prog 135 = some 1 ∧ bytesT prog 135 = some 24 ∧ zav prog 135 = some [.nils] ∧ dflt prog 135 = .nils ∧ zval prog 135 = some (.nils) := by and_intros <;> kernel_rfl
theorem t136 : known prog 136 = true ∧ aggT prog 136 = false ∧ isIfaceT prog 136 = false ∧ intT prog 136 = some .u16 ∧ sizeT prog 136 = some 1 ∧ bytesT prog 136 = some 2 ∧ zav prog 136 = some [.int .u16 0] ∧ dflt prog 136 = .int .u16 0 ∧ zval prog 136 = some (.int .u16 0) := by and_intros <;> kernel_rfl
theorem t137 : known prog 137 = true ∧ aggT prog 137 = true ∧ isIfaceT prog 137 = false ∧ eqAggT prog 137 = true ∧ arrT prog 137 = some (16, 136) ∧ placesT prog 137 = none ∧ sizeT prog 137 = some 16 ∧ bytesT prog 137 = some 32 ∧ zav prog 137 = some (List.replicate 16 (.int .u16 0)) ∧ zval prog 137 = some (.agg (List.replicate 16 (.int .u16 0))) := by and_intros <;> kernel_rfl
theorem t138 : known prog 138 = true ∧ aggT prog 138 = true ∧ isIfaceT prog 138 = false ∧ eqAggT prog 138 = true ∧ arrT prog 138 = some (12, 137) ∧ placesT prog 138 = none ∧ sizeT prog 138 = some 192 ∧ bytesT prog 138 = some 384 ∧ zav prog 138 = some ((List.replicate 12 (List.replicate 16 (.int .u16 0))).flatten) ∧ zval prog 138 = some (.agg ((List.replicate 12 (List.replicate 16 (.int .u16 0))).flatten)) := by and_intros <;> kernel_rfl
theorem t139 : known prog 139 = true ∧ aggT prog 139 = true ∧ isIfaceT prog 139 = false ∧ eqAggT prog 139 = true ∧ arrT prog 139 = some (12, 136) ∧ placesT prog 139 = none ∧ sizeT prog 139 = some 12 ∧ bytesT prog 139 = some 24 ∧ zav prog 139 = some (List.replicate 12 (.int .u16 0)) ∧ zval prog 139 = some (.agg (List.replicate 12 (.int .u16 0))) := by and_intros <;> kernel_rfl
theorem t140 : known prog 140 = true ∧ aggT prog 140 = true ∧ isIfaceT prog 140 = false ∧ eqAggT prog 140 = true ∧ arrT prog 140 = some (1, 136) ∧ placesT prog 140 = none ∧ sizeT prog 140 = some 1 ∧ bytesT prog 140 = some 2 ∧ zav prog 140 = some (List.replicate 1 (.int .u16 0)) ∧ zval prog 140 = some (.agg (List.replicate 1 (.int .u16 0))) := by and_intros <;> kernel_rfl
theorem t141 : known prog 141 = true ∧ aggT prog 141 = true ∧ isIfaceT prog 141 = false ∧ eqAggT prog 141 = true ∧ arrT prog 141 = some (8, 136) ∧ placesT prog 141 = none ∧ sizeT prog 141 = some 8 ∧ bytesT prog 141 = some 16 ∧ zav prog 141 = some (List.replicate 8 (.int .u16 0)) ∧ zval prog 141 = some (.agg (List.replicate 8 (.int .u16 0))) := by and_intros <;> kernel_rfl
theorem t142 : known prog 142 = true ∧ aggT prog 142 = true ∧ isIfaceT prog 142 = false ∧ eqAggT prog 142 = true ∧ arrT prog 142 = some (16, 141) ∧ placesT prog 142 = none ∧ sizeT prog 142 = some 128 ∧ bytesT prog 142 = some 256 ∧ zav prog 142 = some ((List.replicate 16 (List.replicate 8 (.int .u16 0))).flatten) ∧ zval prog 142 = some (.agg ((List.replicate 16 (List.replicate 8 (.int .u16 0))).flatten)) := by and_intros <;> kernel_rfl
theorem t143 : known prog 143 = true ∧ aggT prog 143 = true ∧ isIfaceT prog 143 = false ∧ eqAggT prog 143 = true ∧ arrT prog 143 = some (256, 136) ∧ placesT prog 143 = none ∧ sizeT prog 143 = some 256 ∧ bytesT prog 143 = some 512 ∧ zav prog 143 = some (List.replicate 256 (.int .u16 0)) ∧ zval prog 143 = some (.agg (List.replicate 256 (.int .u16 0))) := by and_intros <;> kernel_rfl
theorem t144 : known prog 144 = true ∧ aggT prog 144 = true ∧ isIfaceT prog 144 = false ∧ eqAggT prog 144 = true ∧ sizeT prog 144 = some 514 ∧ zav prog 144 = some ((List.replicate 1 (.int .u16 0)) ++ (List.replicate 1 (.int .u16 0)) ++ ((List.replicate 16 (List.replicate 8 (.int .u16 0))).flatten) ++ ((List.replicate 16 (List.replicate 8 (.int .u16 0))).flatten) ++ (List.replicate 256 (.int .u16 0))) ∧ zval prog 144 = some (.agg ((List.replicate 1 (.int .u16 0)) ++ (List.replicate 1 (.int .u16 0)) ++ ((List.replicate 16 (List.replicate 8 (.int .u16 0))).flatten) ++ ((List.replicate 16 (List.replicate 8 (.int .u16 0))).flatten) ++ (List.replicate 256 (.int .u16 0)))) ∧ fieldT prog 144 0 = some (0, 140) ∧ fieldT prog 144 1 = some (1, 140) ∧ fieldT prog 144 2 = some (2, 142) ∧ fieldT prog 144 3 = some (130, 142) ∧ fieldT prog 144 4 = some (258, 143) ∧ placesT prog 144 = some [(0, 1), (1, 1), (2, 128), (130, 128), (258, 256)] := by and_intros <;> kernel_rfl
theorem t145 : known prog 145 = true ∧ aggT prog 145 = true ∧ isIfaceT prog 145 = false ∧ eqAggT prog 145 = true ∧ sizeT prog 145 = some 514 ∧ zav prog 145 = some ((List.replicate 1 (.int .u16 0)) ++ (List.replicate 1 (.int .u16 0)) ++ ((List.replicate 16 (List.replicate 8 (.int .u16 0))).flatten) ++ ((List.replicate 16 (List.replicate 8 (.int .u16 0))).flatten) ++ (List.replicate 256 (.int .u16 0))) ∧ zval prog 145 = some (.agg ((List.replicate 1 (.int .u16 0)) ++ (List.replicate 1 (.int .u16 0)) ++ ((List.replicate 16 (List.replicate 8 (.int .u16 0))).flatten) ++ ((List.replicate 16 (List.replicate 8 (.int .u16 0))).flatten) ++ (List.replicate 256 (.int .u16 0)))) ∧ fieldT prog 145 0 = some (0, 140) ∧ fieldT prog 145 1 = some (1, 140) ∧ fieldT prog 145 2 = some (2, 142) ∧ fieldT prog 145 3 = some (130, 142) ∧ fieldT prog 145 4 = some (258, 143) ∧ placesT prog 145 = some [(0, 1), (1, 1), (2, 128), (130, 128), (258, 256)] := by and_intros <;> kernel_rfl
theorem t146 : known prog 146 = true ∧ aggT prog 146 = true ∧ isIfaceT prog 146 = false ∧ eqAggT prog 146 = true ∧ arrT prog 146 = some (64, 136) ∧ placesT prog 146 = none ∧ sizeT prog 146 = some 64 ∧ bytesT prog 146 = some 128 ∧ zav prog 146 = some (List.replicate 64 (.int .u16 0)) ∧ zval prog 146 = some (.agg (List.replicate 64 (.int .u16 0))) := by and_intros <;> kernel_rfl
theorem t147 : known prog 147 = true ∧ aggT prog 147 = true ∧ isIfaceT prog 147 = false ∧ eqAggT prog 147 = true ∧ arrT prog 147 = some (4, 146) ∧ placesT prog 147 = none ∧ sizeT prog 147 = some 256 ∧ bytesT prog 147 = some 512 ∧ zav prog 147 = some ((List.replicate 4 (List.replicate 64 (.int .u16 0))).flatten) ∧ zval prog 147 = some (.agg ((List.replicate 4 (List.replicate 64 (.int .u16 0))).flatten)) := by and_intros <;> kernel_rfl
theorem t148 : known prog 148 = true ∧ aggT prog 148 = true ∧ isIfaceT prog 148 = false ∧ eqAggT prog 148 = true ∧ arrT prog 148 = some (32, 136) ∧ placesT prog 148 = none ∧ sizeT prog 148 = some 32 ∧ bytesT prog 148 = some 64 ∧ zav prog 148 = some (List.replicate 32 (.int .u16 0)) ∧ zval prog 148 = some (.agg (List.replicate 32 (.int .u16 0))) := by and_intros <;> kernel_rfl
theorem t149 : known prog 149 = true ∧ aggT prog 149 = true ∧ isIfaceT prog 149 = false ∧ eqAggT prog 149 = true ∧ arrT prog 149 = some (14, 148) ∧ placesT prog 149 = none ∧ sizeT prog 149 = some 448 ∧ bytesT prog 149 = some 896 ∧ zav prog 149 = some ((List.replicate 14 (List.replicate 32 (.int .u16 0))).flatten) ∧ zval prog 149 = some (.agg ((List.replicate 14 (List.replicate 32 (.int .u16 0))).flatten)) := by and_intros <;> kernel_rfl
theorem t150 : known prog 150 = true ∧ aggT prog 150 = true ∧ isIfaceT prog 150 = false ∧ sizeT prog 150 = some 2189 ∧ zav prog 150 = some ([.int .i64 0] ++ [.int .i64 0] ++ [.int .i64 0] ++ [.int .i64 0] ++ (List.replicate 4 (.int .i64 0)) ++ ((List.replicate 12 (List.replicate 16 (.int .u16 0))).flatten) ++ ((List.replicate 12 (List.replicate 16 (.int .u16 0))).flatten) ++ (List.replicate 12 (.int .u16 0)) ++ (List.replicate 12 (.int .u16 0)) ++ (List.replicate 12 (.int .u16 0)) ++ (List.replicate 12 (.int .u16 0)) ++ ((List.replicate 1 (.int .u16 0)) ++ (List.replicate 1 (.int .u16 0)) ++ ((List.replicate 16 (List.replicate 8 (.int .u16 0))).flatten) ++ ((List.replicate 16 (List.replicate 8 (.int .u16 0))).flatten) ++ (List.replicate 256 (.int .u16 0))) ++ ((List.replicate 1 (.int .u16 0)) ++ (List.replicate 1 (.int .u16 0)) ++ ((List.replicate 16 (List.replicate 8 (.int .u16 0))).flatten) ++ ((List.replicate 16 (List.replicate 8 (.int .u16 0))).flatten) ++ (List.replicate 256 (.int .u16 0))) ++ ((List.replicate 4 (List.replicate 64 (.int .u16 0))).flatten) ++ ((List.replicate 14 (List.replicate 32 (.int .u16 0))).flatten) ++ (List.replicate 16 (.int .u16 0)) ++ [.nils]) ∧ zval prog 150 = some (.agg ([.int .i64 0] ++ [.int .i64 0] ++ [.int .i64 0] ++ [.int .i64 0] ++ (List.replicate 4 (.int .i64 0)) ++ ((List.replicate 12 (List.replicate 16 (.int .u16 0))).flatten) ++ ((List.replicate 12 (List.replicate 16 (.int .u16 0))).flatten) ++ (List.replicate 12 (.int .u16 0)) ++ (List.replicate 12 (.int .u16 0)) ++ (List.replicate 12 (.int .u16 0)) ++ (List.replicate 12 (.int .u16 0)) ++ ((List.replicate 1 (.int .u16 0)) ++ (List.replicate 1 (.int .u16 0)) ++ ((List.replicate 16 (List.replicate 8 (.int .u16 0))).flatten) ++ ((List.replicate 16 (List.replicate 8 (.int .u16 0))).flatten) ++ (List.replicate 256 (.int .u16 0))) ++ ((List.replicate 1 (.int .u16 0)) ++ (List.replicate 1 (.int .u16 0)) ++ ((List.replicate 16 (List.replicate 8 (.int .u16 0))).flatten) ++ ((List.replicate 16 (List.replicate 8 (.int .u16 0))).flatten) ++ (List.replicate 256 (.int .u16 0))) ++ ((List.replicate 4 (List.replicate 64 (.int .u16 0))).flatten) ++ ((List.replicate 14 (List.replicate 32 (.int .u16 0))).flatten) ++ (List.replicate 16 (.int .u16 0)) ++ [.nils])) ∧ fieldT prog 150 0 = some (0, 3) ∧ fieldT prog 150 1 = some (1, 3) ∧ fieldT prog 150 2 = some (2, 3) ∧ fieldT prog 150 3 = some (3, 3) ∧ fieldT prog 150 4 = some (4, 82) ∧ fieldT prog 150 5 = some (8, 138) ∧ fieldT prog 150 6 = some (200, 138) ∧ fieldT prog 150 7 = some (392, 139) ∧ fieldT prog 150 8 = some (404, 139) ∧ fieldT prog 150 9 = some (416, 139) ∧ fieldT prog 150 10 = some (428, 139) ∧ fieldT prog 150 11 = some (440, 145) ∧ fieldT prog 150 12 = some (954, 145) ∧ fieldT prog 150 13 = some (1468, 147) ∧ fieldT prog 150 14 = some (1724, 149) ∧ fieldT prog 150 15 = some (2172, 137) ∧ fieldT prog 150 16 = some (2188, 135) ∧ placesT prog 150 = some [(0, 1), (1, 1), (2, 1), (3, 1), (4, 4), (8, 192), (200, 192), (392, 12), (404, 12), (416, 12), (428, 12), (440, 514), (954, 514), (1468, 256), (1724, 448), (2172, 16), (2188, 1)] := by and_intros <;> kernel_rfl
theorem t151 : known prog 151 = true ∧ aggT prog 151 = true ∧ isIfaceT prog 151 = false ∧ sizeT prog 151 = some 2189 ∧ zav prog 151 = some ([.int .i64 0] ++ [.int .i64 0] ++ [.int .i64 0] ++ [.int .i64 0] ++ (List.replicate 4 (.int .i64 0)) ++ ((List.replicate 12 (List.replicate 16 (.int .u16 0))).flatten) ++ ((List.replicate 12 (List.replicate 16 (.int .u16 0))).flatten) ++ (List.replicate 12 (.int .u16 0)) ++ (List.replicate 12 (.int .u16 0)) ++ (List.replicate 12 (.int .u16 0)) ++ (List.replicate 12 (.int .u16 0)) ++ ((List.replicate 1 (.int .u16 0)) ++ (List.replicate 1 (.int .u16 0)) ++ ((List.replicate 16 (List.replicate 8 (.int .u16 0))).flatten) ++ ((List.replicate 16 (List.replicate 8 (.int .u16 0))).flatten) ++ (List.replicate 256 (.int .u16 0))) ++ ((List.replicate 1 (.int .u16 0)) ++ (List.replicate 1 (.int .u16 0)) ++ ((List.replicate 16 (List.replicate 8 (.int .u16 0))).flatten) ++ ((List.replicate 16 (List.replicate 8 (.int .u16 0))).flatten) ++ (List.replicate 256 (.int .u16 0))) ++ ((List.replicate 4 (List.replicate 64 (.int .u16 0))).flatten) ++ ((List.replicate 14 (List.replicate 32 (.int .u16 0))).flatten) ++ (List.replicate 16 (.int .u16 0)) ++ [.nils]) ∧ zval prog 151 = some (.agg ([.int .i64 0] ++ [.int .i64 0] ++ [.int .i64 0] ++ [.int .i64 0] ++ (List.replicate 4 (.int .i64 0)) ++ ((List.replicate 12 (List.replicate 16 (.int .u16 0))).flatten) ++ ((List.replicate 12 (List.replicate 16 (.int .u16 0))).flatten) ++ (List.replicate 12 (.int .u16 0)) ++ (List.replicate 12 (.int .u16 0)) ++ (List.replicate 12 (.int .u16 0)) ++ (List.replicate 12 (.int .u16 0)) ++ ((List.replicate 1 (.int .u16 0)) ++ (List.replicate 1 (.int .u16 0)) ++ ((List.replicate 16 (List.replicate 8 (.int .u16 0))).flatten) ++ ((List.replicate 16 (List.replicate 8 (.int .u16 0))).flatten) ++ (List.replicate 256 (.int .u16 0))) ++ ((List.replicate 1 (.int .u16 0)) ++ (List.replicate 1 (.int .u16 0)) ++ ((List.replicate 16 (List.replicate 8 (.int .u16 0))).flatten) ++ ((List.replicate 16 (List.replicate 8 (.int .u16 0))).flatten) ++ (List.replicate 256 (.int .u16 0))) ++ ((List.replicate 4 (List.replicate 64 (.int .u16 0))).flatten) ++ ((List.replicate 14 (List.replicate 32 (.int .u16 0))).flatten) ++ (List.replicate 16 (.int .u16 0)) ++ [.nils])) ∧ fieldT prog 151 0 = some (0, 3) ∧ fieldT prog 151 1 = some (1, 3) ∧ fieldT prog 151 2 = some (2, 3) ∧ fieldT prog 151 3 = some (3, 3) ∧ fieldT prog 151 4 = some (4, 82) ∧ fieldT prog 151 5 = some (8, 138) ∧ fieldT prog 151 6 = some (200, 138) ∧ fieldT prog 151 7 = some (392, 139) ∧ fieldT prog 151 8 = some (404, 139) ∧ fieldT prog 151 9 = some (416, 139) ∧ fieldT prog 151 10 = some (428, 139) ∧ fieldT prog 151 11 = some (440, 145) ∧ fieldT prog 151 12 = some (954, 145) ∧ fieldT prog 151 13 = some (1468, 147) ∧ fieldT prog 151 14 = some (1724, 149) ∧ fieldT prog 151 15 = some (2172, 137) ∧ fieldT prog 151 16 = some (2188, 135) ∧ placesT prog 151 = some [(0, 1), (1, 1), (2, 1), (3, 1), (4, 4), (8, 192), (200, 192), (392, 12), (404, 12), (416, 12), (428, 12), (440, 514), (954, 514), (1468, 256), (1724, 448), (2172, 16), (2188, 1)] := by and_intros <;> kernel_rfl
theorem t153 : known prog 153 = true ∧ aggT prog 153 = true ∧ isIfaceT prog 153 = false ∧ eqAggT prog 153 = true ∧ arrT prog 153 = some (768, 136) ∧ placesT prog 153 = none ∧ sizeT prog 153 = some 768 ∧ bytesT prog 153 = some 1536 ∧ zav prog 153 = some (List.replicate 768 (.int .u16 0)) ∧ zval prog 153 = some (.agg (List.replicate 768 (.int .u16 0))) := by and_intros <;> kernel_rfl
theorem t154 : known prog 154 = true ∧ aggT prog 154 = false ∧ isIfaceT prog 154 = false ∧ elemT prog 154 = some 78 ∧ isStrT prog 154 = false ∧ intT prog 154 = none ∧ sizeT prog 154 = some 1 ∧ bytesT prog 154 = some 24 ∧ zav prog 154 = some [.nils] ∧ dflt prog 154 = .nils ∧ zval prog 154 = some (.nils) := by and_intros <;> kernel_rfl
theorem t155 : known prog 155 = true ∧ aggT prog 155 = true ∧ isIfaceT prog 155 = false ∧ sizeT prog 155 = some 5 ∧ zav prog 155 = some [.int .u64 0, .int .u32 0, .int .u8 0, .int .i64 0, .nils] ∧ zval prog 155 = some (.agg [.int .u64 0, .int .u32 0, .int .u8 0, .int .i64 0, .nils]) ∧ fieldT prog 155 0 = some (0, 116) ∧ fieldT prog 155 1 = some (1, 108) ∧ fieldT prog 155 2 = some (2, 5) ∧ fieldT prog 155 3 = some (3, 3) ∧ fieldT prog 155 4 = some (4, 22) ∧ placesT prog 155 = some [(0, 1), (1, 1), (2, 1), (3, 1), (4, 1)] := by and_intros <;> kernel_rfl
theorem t156 : known prog 156 = true ∧ aggT prog 156 = true ∧ isIfaceT prog 156 = false ∧ sizeT prog 156 = some 5 ∧ zav prog 156 = some [.int .u64 0, .int .u32 0, .int .u8 0, .int .i64 0, .nils] ∧ zval prog 156 = some (.agg [.int .u64 0, .int .u32 0, .int .u8 0, .int .i64 0, .nils]) ∧ fieldT prog 156 0 = some (0, 116) ∧ fieldT prog 156 1 = some (1, 108) ∧ fieldT prog 156 2 = some (2, 5) ∧ fieldT prog 156 3 = some (3, 3) ∧ fieldT prog 156 4 = some (4, 22) ∧ placesT prog 156 = some [(0, 1), (1, 1), (2, 1), (3, 1), (4, 1)] := by and_intros <;> kernel_rfl
theorem t157 : known prog 157 = true ∧ aggT prog 157 = true ∧ isIfaceT prog 157 = false ∧ sizeT prog 157 = some 2 ∧ zav prog 157 = some [.nils, .int .u64 0] ∧ zval prog 157 = some (.agg [.nils, .int .u64 0]) ∧ fieldT prog 157 0 = some (0, 22) ∧ fieldT prog 157 1 = some (1, 116) ∧ placesT prog 157 = some [(0, 1), (1, 1)] := by and_intros <;> kernel_rfl
theorem t158 : known prog 158 = true ∧ aggT prog 158 = true ∧ isIfaceT prog 158 = false ∧ sizeT prog 158 = some 2 ∧ zav prog 158 = some [.nils, .int .u64 0] ∧ zval prog 158 = some (.agg [.nils, .int .u64 0]) ∧ fieldT prog 158 0 = some (0, 22) ∧ fieldT prog 158 1 = some (1, 116) ∧ placesT prog 158 = some [(0, 1), (1, 1)] := by and_intros <;> kernel_rfl
theorem t163 : known prog 163 = true ∧ aggT prog 163 = true ∧ isIfaceT prog 163 = false ∧ sizeT prog 163 = some 4 ∧ zav prog 163 = some [.nils, .int .u32 0, .int .u32 0, .bool false] ∧ zval prog 163 = some (.agg [.nils, .int .u32 0, .int .u32 0, .bool false]) ∧ fieldT prog 163 0 = some (0, 22) ∧ fieldT prog 163 1 = some (1, 108) ∧ fieldT prog 163 2 = some (2, 108) ∧ fieldT prog 163 3 = some (3, 4) ∧ placesT prog 163 = some [(0, 1), (1, 1), (2, 1), (3, 1)] := by and_intros <;> kernel_rfl
theorem t164 : known prog 164 = true ∧ aggT prog 164 = true ∧ isIfaceT prog 164 = false ∧ sizeT prog 164 = some 4 ∧ zav prog 164 = some [.nils, .int .u32 0, .int .u32 0, .bool false] ∧ zval prog 164 = some (.agg [.nils, .int .u32 0, .int .u32 0, .bool false]) ∧ fieldT prog 164 0 = some (0, 22) ∧ fieldT prog 164 1 = some (1, 108) ∧ fieldT prog 164 2 = some (2, 108) ∧ fieldT prog 164 3 = some (3, 4) ∧ placesT prog 164 = some [(0, 1), (1, 1), (2, 1), (3, 1)] := by and_intros <;> kernel_rfl
theorem t165 : known prog 165 = true ∧ aggT prog 165 = false ∧ isIfaceT prog 165 = true ∧ sizeT prog 165 = some 1 ∧ bytesT prog 165 = some 16 ∧ zav prog 165 = some [.nili] ∧ dflt prog 165 = .nili ∧ zval prog 165 = some (.nili) := by and_intros <;> kernel_rfl
theorem t166 : known prog 166 = true ∧ aggT prog 166 = false ∧ isIfaceT prog 166 = true ∧ sizeT prog 166 = some 1 ∧ bytesT prog 166 = some 16 ∧ zav prog 166 = some [.nili] ∧ dflt prog 166 = .nili ∧ zval prog 166 = some (.nili) := by and_intros <;> kernel_rfl
theorem t167 : known prog 167 = true ∧ aggT prog 167 = true ∧ isIfaceT prog 167 = false ∧ sizeT prog 167 = some 4 ∧ zav prog 167 = some [.nilp, .nili, .nils, .int .i64 0] ∧ zval prog 167 = some (.agg [.nilp, .nili, .nils, .int .i64 0]) ∧ fieldT prog 167 0 = some (0, 59) ∧ fieldT prog 167 1 = some (1, 166) ∧ fieldT prog 167 2 = some (2, 22) ∧ fieldT prog 167 3 = some (3, 3) ∧ placesT prog 167 = some [(0, 1), (1, 1), (2, 1), (3, 1)] := by and_intros <;> kernel_rfl
theorem t168 : known prog 168 = true ∧ aggT prog 168 = true ∧ isIfaceT prog 168 = false ∧ sizeT prog 168 = some 4 ∧ zav prog 168 = some [.nilp, .nili, .nils, .int .i64 0] ∧ zval prog 168 = some (.agg [.nilp, .nili, .nils, .int .i64 0]) ∧ fieldT prog 168 0 = some (0, 59) ∧ fieldT prog 168 1 = some (1, 166) ∧ fieldT prog 168 2 = some (2, 22) ∧ fieldT prog 168 3 = some (3, 3) ∧ placesT prog 168 = some [(0, 1), (1, 1), (2, 1), (3, 1)] := by and_intros <;> kernel_rfl
theorem t170 : known prog 170 = true ∧ aggT prog 170 = false ∧ isIfaceT prog 170 = false ∧ isPtrT prog 170 = true ∧ sizeT prog 170 = some 1 ∧ bytesT prog 170 = some 8 ∧ zav prog 170 = some [.nilp] ∧ dflt prog 170 = .nilp ∧ zval prog 170 = some (.nilp) := by and_intros <;> kernel_rfl
theorem t172 : known prog 172 = true ∧ aggT prog 172 = false ∧ isIfaceT prog 172 = false ∧ isPtrT prog 172 = true ∧ sizeT prog 172 = some 1 ∧ bytesT prog 172 = some 8 ∧ zav prog 172 = some [.nilp] ∧ dflt prog 172 = .nilp ∧ zval prog 172 = some (.nilp) := by and_intros <;> kernel_rfl
theorem t174 : known prog 174 = true ∧ aggT prog 174 = false ∧ isIfaceT prog 174 = false ∧ isFuncT prog 174 = true ∧ sizeT prog 174 = some 1 ∧ bytesT prog 174 = some 8 ∧ zav prog 174 = some [.nilf] ∧ dflt prog 174 = .nilf ∧ zval prog 174 = some (.nilf) := by and_intros <;> kernel_rfl
theorem t177 : known prog 177 = true ∧ aggT prog 177 = true ∧ isIfaceT prog 177 = false ∧ sizeT prog 177 = some 5 ∧ zav prog 177 = some [.nils, .int .i64 0, .int .u64 0, .int .u64 0, .bool false] ∧ zval prog 177 = some (.agg [.nils, .int .i64 0, .int .u64 0, .int .u64 0, .bool false]) ∧ fieldT prog 177 0 = some (0, 22) ∧ fieldT prog 177 1 = some (1, 3) ∧ fieldT prog 177 2 = some (2, 116) ∧ fieldT prog 177 3 = some (3, 116) ∧ fieldT prog 177 4 = some (4, 4) ∧ placesT prog 177 = some [(0, 1), (1, 1), (2, 1), (3, 1), (4, 1)] := by and_intros <;> kernel_rfl
theorem t178 : known prog 178 = true ∧ aggT prog 178 = true ∧ isIfaceT prog 178 = false ∧ sizeT prog 178 = some 5 ∧ zav prog 178 = some [.nils, .int .i64 0, .int .u64 0, .int .u64 0, .bool false] ∧ zval prog 178 = some (.agg [.nils, .int .i64 0, .int .u64 0, .int .u64 0, .bool false]) ∧ fieldT prog 178 0 = some (0, 22) ∧ fieldT prog 178 1 = some (1, 3) ∧ fieldT prog 178 2 = some (2, 116) ∧ fieldT prog 178 3 = some (3, 116) ∧ fieldT prog 178 4 = some (4, 4) ∧ placesT prog 178 = some [(0, 1), (1, 1), (2, 1), (3, 1), (4, 1)] := by and_intros <;> kernel_rfl
theorem t180 : known prog 180 = true ∧ aggT prog 180 = false ∧ isIfaceT prog 180 = false ∧ isPtrT prog 180 = true ∧ sizeT prog 180 = some 1 ∧ bytesT prog 180 = some 8 ∧ zav prog 180 = some [.nilp] ∧ dflt prog 180 = .nilp ∧ zval prog 180 = some (.nilp) := by and_intros <;> kernel_rfl
theorem t181 : known prog 181 = true ∧ aggT prog 181 = true ∧ isIfaceT prog 181 = false ∧ eqAggT prog 181 = true ∧ arrT prog 181 = some (3, 3) ∧ placesT prog 181 = none ∧ sizeT prog 181 = some 3 ∧ bytesT prog 181 = some 24 ∧ zav prog 181 = some (List.replicate 3 (.int .i64 0)) ∧ zval prog 181 = some (.agg (List.replicate 3 (.int .i64 0))) := by and_intros <;> kernel_rfl
theorem t182 : known prog 182 = true ∧ aggT prog 182 = true ∧ isIfaceT prog 182 = false ∧ sizeT prog 182 = some 12 ∧ zav prog 182 = some ([.nils] ++ [.int .i64 0] ++ [.int .i64 0] ++ [.nils] ++ [.int .i64 0] ++ [.bool false] ++ [.bool false] ++ (List.replicate 3 (.int .i64 0)) ++ [.nilp] ++ [.int .i64 0]) ∧ zval prog 182 = some (.agg ([.nils] ++ [.int .i64 0] ++ [.int .i64 0] ++ [.nils] ++ [.int .i64 0] ++ [.bool false] ++ [.bool false] ++ (List.replicate 3 (.int .i64 0)) ++ [.nilp] ++ [.int .i64 0])) ∧ fieldT prog 182 0 = some (0, 22) ∧ fieldT prog 182 1 = some (1, 3) ∧ fieldT prog 182 2 = some (2, 3) ∧ fieldT prog 182 3 = some (3, 22) ∧ fieldT prog 182 4 = some (4, 3) ∧ fieldT prog 182 5 = some (5, 4) ∧ fieldT prog 182 6 = some (6, 4) ∧ fieldT prog 182 7 = some (7, 181) ∧ fieldT prog 182 8 = some (10, 59) ∧ fieldT prog 182 9 = some (11, 25) ∧ placesT prog 182 = some [(0, 1), (1, 1), (2, 1), (3, 1), (4, 1), (5, 1), (6, 1), (7, 3), (10, 1), (11, 1)] := by and_intros <;> kernel_rfl
theorem t183 : known prog 183 = true ∧ aggT prog 183 = true ∧ isIfaceT prog 183 = false ∧ sizeT prog 183 = some 12 ∧ zav prog 183 = some ([.nils] ++ [.int .i64 0] ++ [.int .i64 0] ++ [.nils] ++ [.int .i64 0] ++ [.bool false] ++ [.bool false] ++ (List.replicate 3 (.int .i64 0)) ++ [.nilp] ++ [.int .i64 0]) ∧ zval prog 183 = some (.agg ([.nils] ++ [.int .i64 0] ++ [.int .i64 0] ++ [.nils] ++ [.int .i64 0] ++ [.bool false] ++ [.bool false] ++ (List.replicate 3 (.int .i64 0)) ++ [.nilp] ++ [.int .i64 0])) ∧ fieldT prog 183 0 = some (0, 22) ∧ fieldT prog 183 1 = some (1, 3) ∧ fieldT prog 183 2 = some (2, 3) ∧ fieldT prog 183 3 = some (3, 22) ∧ fieldT prog 183 4 = some (4, 3) ∧ fieldT prog 183 5 = some (5, 4) ∧ fieldT prog 183 6 = some (6, 4) ∧ fieldT prog 183 7 = some (7, 181) ∧ fieldT prog 183 8 = some (10, 59) ∧ fieldT prog 183 9 = some (11, 25) ∧ placesT prog 183 = some [(0, 1), (1, 1), (2, 1), (3, 1), (4, 1), (5, 1), (6, 1), (7, 3), (10, 1), (11, 1)] := by and_intros <;> kernel_rfl
theorem t184 : known prog 184 = true ∧ aggT prog 184 = false ∧ isIfaceT prog 184 = false ∧ isPtrT prog 184 = true ∧ sizeT prog 184 = some 1 ∧ bytesT prog 184 = some 8 ∧ zav prog 184 = some [.nilp] ∧ dflt prog 184 = .nilp ∧ zval prog 184 = some (.nilp) := by and_intros <;> kernel_rfl
theorem t185 : known prog 185 = true ∧ aggT prog 185 = true ∧ isIfaceT prog 185 = false ∧ sizeT prog 185 = some 11 ∧ zav prog 185 = some [.nils, .int .i64 0, .int .i64 0, .nils, .int .i64 0, .bool false, .bool false, .int .i64 0, .int .i64 0, .int .i64 0, .nilp] ∧ zval prog 185 = some (.agg [.nils, .int .i64 0, .int .i64 0, .nils, .int .i64 0, .bool false, .bool false, .int .i64 0, .int .i64 0, .int .i64 0, .nilp]) ∧ fieldT prog 185 0 = some (0, 22) ∧ fieldT prog 185 1 = some (1, 3) ∧ fieldT prog 185 2 = some (2, 3) ∧ fieldT prog 185 3 = some (3, 22) ∧ fieldT prog 185 4 = some (4, 3) ∧ fieldT prog 185 5 = some (5, 4) ∧ fieldT prog 185 6 = some (6, 4) ∧ fieldT prog 185 7 = some (7, 3) ∧ fieldT prog 185 8 = some (8, 3) ∧ fieldT prog 185 9 = some (9, 3) ∧ fieldT prog 185 10 = some (10, 65) ∧ placesT prog 185 = some [(0, 1), (1, 1), (2, 1), (3, 1), (4, 1), (5, 1), (6, 1), (7, 1), (8, 1), (9, 1), (10, 1)] := by and_intros <;> kernel_rfl
theorem t186 : known prog 186 = true ∧ aggT prog 186 = true ∧ isIfaceT prog 186 = false ∧ sizeT prog 186 = some 11 ∧ zav prog 186 = some [.nils, .int .i64 0, .int .i64 0, .nils, .int .i64 0, .bool false, .bool false, .int .i64 0, .int .i64 0, .int .i64 0, .nilp] ∧ zval prog 186 = some (.agg [.nils, .int .i64 0, .int .i64 0, .nils, .int .i64 0, .bool false, .bool false, .int .i64 0, .int .i64 0, .int .i64 0, .nilp]) ∧ fieldT prog 186 0 = some (0, 22) ∧ fieldT prog 186 1 = some (1, 3) ∧ fieldT prog 186 2 = some (2, 3) ∧ fieldT prog 186 3 = some (3, 22) ∧ fieldT prog 186 4 = some (4, 3) ∧ fieldT prog 186 5 = some (5, 4) ∧ fieldT prog 186 6 = some (6, 4) ∧ fieldT prog 186 7 = some (7, 3) ∧ fieldT prog 186 8 = some (8, 3) ∧ fieldT prog 186 9 = some (9, 3) ∧ fieldT prog 186 10 = some (10, 65) ∧ placesT prog 186 = some [(0, 1), (1, 1), (2, 1), (3, 1), (4, 1), (5, 1), (6, 1), (7, 1), (8, 1), (9, 1), (10, 1)] := by and_intros <;> kernel_rfl
theorem t188 : known prog 188 = true ∧ aggT prog 188 = false ∧ isIfaceT prog 188 = false ∧ isPtrT prog 188 = true ∧ sizeT prog 188 = some 1 ∧ bytesT prog 188 = some 8 ∧ zav prog 188 = some [.nilp] ∧ dflt prog 188 = .nilp ∧ zval prog 188 = some (.nilp) := by and_intros <;> kernel_rfl
theorem t191 : known prog 191 = true ∧ aggT prog 191 = false ∧ isIfaceT prog 191 = false ∧ isPtrT prog 191 = true ∧ sizeT prog 191 = some 1 ∧ bytesT prog 191 = some 8 ∧ zav prog 191 = some [.nilp] ∧ dflt prog 191 = .nilp ∧ zval prog 191 = some (.nilp) := by and_intros <;> kernel_rfl
theorem t192 : known prog 192 = true ∧ aggT prog 192 = true ∧ isIfaceT prog 192 = false ∧ sizeT prog 192 = some 14 ∧ zav prog 192 = some [.int .i64 0, .int .i64 0, .int .i64 0, .int .i64 0, .int .i64 0, .int .i64 0, .int .i64 0, .nils, .int .u32 0, .nils, .nilp, .nilp, .bool false, .nils] ∧ zval prog 192 = some (.agg [.int .i64 0, .int .i64 0, .int .i64 0, .int .i64 0, .int .i64 0, .int .i64 0, .int .i64 0, .nils, .int .u32 0, .nils, .nilp, .nilp, .bool false, .nils]) ∧ fieldT prog 192 0 = some (0, 110) ∧ fieldT prog 192 1 = some (9, 22) ∧ fieldT prog 192 2 = some (10, 188) ∧ fieldT prog 192 3 = some (11, 59) ∧ fieldT prog 192 4 = some (12, 4) ∧ fieldT prog 192 5 = some (13, 22) ∧ placesT prog 192 = some [(0, 9), (9, 1), (10, 1), (11, 1), (12, 1), (13, 1)] := by and_intros <;> kernel_rfl
theorem t193 : known prog 193 = true ∧ aggT prog 193 = true ∧ isIfaceT prog 193 = false ∧ sizeT prog 193 = some 14 ∧ zav prog 193 = some [.int .i64 0, .int .i64 0, .int .i64 0, .int .i64 0, .int .i64 0, .int .i64 0, .int .i64 0, .nils, .int .u32 0, .nils, .nilp, .nilp, .bool false, .nils] ∧ zval prog 193 = some (.agg [.int .i64 0, .int .i64 0, .int .i64 0, .int .i64 0, .int .i64 0, .int .i64 0, .int .i64 0, .nils, .int .u32 0, .nils, .nilp, .nilp, .bool false, .nils]) ∧ fieldT prog 193 0 = some (0, 110) ∧ fieldT prog 193 1 = some (9, 22) ∧ fieldT prog 193 2 = some (10, 188) ∧ fieldT prog 193 3 = some (11, 59) ∧ fieldT prog 193 4 = some (12, 4) ∧ fieldT prog 193 5 = some (13, 22) ∧ placesT prog 193 = some [(0, 9), (9, 1), (10, 1), (11, 1), (12, 1), (13, 1)] := by and_intros <;> kernel_rfl
theorem t194 : known prog 194 = true ∧ aggT prog 194 = false ∧ isIfaceT prog 194 = false ∧ isFuncT prog 194 = true ∧ sizeT prog 194 = some 1 ∧ bytesT prog 194 = some 8 ∧ zav prog 194 = some [.nilf] ∧ dflt prog 194 = .nilf ∧ zval prog 194 = some (.nilf) := by and_intros <;> kernel_rfl
theorem t195 : known prog 195 = true ∧ aggT prog 195 = false ∧ isIfaceT prog 195 = false ∧ isFuncT prog 195 = true ∧ sizeT prog 195 = some 1 ∧ bytesT prog 195 = some 8 ∧ zav prog 195 = some [.nilf] ∧ dflt prog 195 = .nilf ∧ zval prog 195 = some (.nilf) := by and_intros <;> kernel_rfl
theorem t199 : known prog 199 = true ∧ aggT prog 199 = true ∧ isIfaceT prog 199 = false ∧ eqAggT prog 199 = true ∧ arrT prog 199 = some (32, 5) ∧ placesT prog 199 = none ∧ sizeT prog 199 = some 32 ∧ bytesT prog 199 = some 32 ∧ zav prog 199 = some (List.replicate 32 (.int .u8 0)) ∧ zval prog 199 = some (.agg (List.replicate 32 (.int .u8 0))) := by and_intros <;> kernel_rfl
theorem t203 : known prog 203 = true ∧ aggT prog 203 = false ∧ isIfaceT prog 203 = false ∧ elemT prog 203 = some 108 ∧ isStrT prog 203 = false ∧ intT prog 203 = none ∧ sizeT prog 203 = some 1 ∧ bytesT prog 203 = some 24 ∧ zav prog 203 = some [.nils] ∧ dflt prog 203 = .nils ∧ zval prog 203 = some (.nils) := by and_intros <;> kernel_rfl
theorem t208 : known prog 208 = true ∧ aggT prog 208 = false ∧ isIfaceT prog 208 = false ∧ isFuncT prog 208 = true ∧ sizeT prog 208 = some 1 ∧ bytesT prog 208 = some 8 ∧ zav prog 208 = some [.nilf] ∧ dflt prog 208 = .nilf ∧ zval prog 208 = some (.nilf) := by and_intros <;> kernel_rfl
theorem t209 : known prog 209 = true ∧ aggT prog 209 = false ∧ isIfaceT prog 209 = false ∧ isFuncT prog 209 = true ∧ sizeT prog 209 = some 1 ∧ bytesT prog 209 = some 8 ∧ zav prog 209 = some [.nilf] ∧ dflt prog 209 = .nilf ∧ zval prog 209 = some (.nilf) := by and_intros <;> kernel_rfl
theorem t220 : known prog 220 = true ∧ aggT prog 220 = false ∧ isIfaceT prog 220 = false ∧ isFuncT prog 220 = true ∧ sizeT prog 220 = some 1 ∧ bytesT prog 220 = some 8 ∧ zav prog 220 = some [.nilf] ∧ dflt prog 220 = .nilf ∧ zval prog 220 = some (.nilf) := by and_intros <;> kernel_rfl
theorem t228 : known prog 228 = true ∧ aggT prog 228 = false ∧ isIfaceT prog 228 = false ∧ mxT prog 228 = some (.b, 77) ∧ sizeT prog 228 = some 1 ∧ bytesT prog 228 = some 8 ∧ zav prog 228 = some [.nilm] ∧ dflt prog 228 = .nilm ∧ zval prog 228 = some (.nilm) := by and_intros <;> kernel_rfl
theorem t229 : known prog 229 = true ∧ aggT prog 229 = true ∧ isIfaceT prog 229 = false ∧ sizeT prog 229 = some 4 ∧ zav prog 229 = some [.nils, .int .i64 0, .int .i64 0, .nilm] ∧ zval prog 229 = some (.agg [.nils, .int .i64 0, .int .i64 0, .nilm]) ∧ fieldT prog 229 0 = some (0, 22) ∧ fieldT prog 229 1 = some (1, 3) ∧ fieldT prog 229 2 = some (2, 3) ∧ fieldT prog 229 3 = some (3, 228) ∧ placesT prog 229 = some [(0, 1), (1, 1), (2, 1), (3, 1)] := by and_intros <;> kernel_rfl
theorem t230 : known prog 230 = true ∧ aggT prog 230 = true ∧ isIfaceT prog 230 = false ∧ sizeT prog 230 = some 4 ∧ zav prog 230 = some [.nils, .int .i64 0, .int .i64 0, .nilm] ∧ zval prog 230 = some (.agg [.nils, .int .i64 0, .int .i64 0, .nilm]) ∧ fieldT prog 230 0 = some (0, 22) ∧ fieldT prog 230 1 = some (1, 3) ∧ fieldT prog 230 2 = some (2, 3) ∧ fieldT prog 230 3 = some (3, 228) ∧ placesT prog 230 = some [(0, 1), (1, 1), (2, 1), (3, 1)] := by and_intros <;> kernel_rfl
theorem t231 : known prog 231 = true ∧ aggT prog 231 = true ∧ isIfaceT prog 231 = false ∧ eqAggT prog 231 = true ∧ arrT prog 231 = some (2, 5) ∧ placesT prog 231 = none ∧ sizeT prog 231 = some 2 ∧ bytesT prog 231 = some 2 ∧ zav prog 231 = some (List.replicate 2 (.int .u8 0)) ∧ zval prog 231 = some (.agg (List.replicate 2 (.int .u8 0))) := by and_intros <;> kernel_rfl
theorem t232 : known prog 232 = true ∧ aggT prog 232 = true ∧ isIfaceT prog 232 = false ∧ eqAggT prog 232 = true ∧ arrT prog 232 = some (2, 5) ∧ placesT prog 232 = none ∧ sizeT prog 232 = some 2 ∧ bytesT prog 232 = some 2 ∧ zav prog 232 = some (List.replicate 2 (.int .u8 0)) ∧ zval prog 232 = some (.agg (List.replicate 2 (.int .u8 0))) := by and_intros <;> kernel_rfl
theorem t236 : known prog 236 = true ∧ aggT prog 236 = false ∧ isIfaceT prog 236 = false ∧ isPtrT prog 236 = true ∧ sizeT prog 236 = some 1 ∧ bytesT prog 236 = some 8 ∧ zav prog 236 = some [.nilp] ∧ dflt prog 236 = .nilp ∧ zval prog 236 = some (.nilp) := by and_intros <;> kernel_rfl
theorem t240 : known prog 240 = true ∧ aggT prog 240 = false ∧ isIfaceT prog 240 = false ∧ elemT prog 240 = some 116 ∧ isStrT prog 240 = false ∧ intT prog 240 = none ∧ sizeT prog 240 = some 1 ∧ bytesT prog 240 = some 24 ∧ zav prog 240 = some [.nils] ∧ dflt prog 240 = .nils ∧ zval prog 240 = some (.nils) := by and_intros <;> kernel_rfl
theorem t241 : known prog 241 = true ∧ aggT prog 241 = false ∧ isIfaceT prog 241 = false ∧ isFuncT prog 241 = true ∧ sizeT prog 241 = some 1 ∧ bytesT prog 241 = some 8 ∧ zav prog 241 = some [.nilf] ∧ dflt prog 241 = .nilf ∧ zval prog 241 = some (.nilf) := by and_intros <;> kernel_rfl
theorem t243 : known prog 243 = true ∧ aggT prog 243 = false ∧ isIfaceT prog 243 = false ∧ isFuncT prog 243 = true ∧ sizeT prog 243 = some 1 ∧ bytesT prog 243 = some 8 ∧ zav prog 243 = some [.nilf] ∧ dflt prog 243 = .nilf ∧ zval prog 243 = some (.nilf) := by and_intros <;> kernel_rfl
theorem t254 : known prog 254 = true ∧ aggT prog 254 = true ∧ isIfaceT prog 254 = false ∧ eqAggT prog 254 = true ∧ arrT prog 254 = some (256, 108) ∧ placesT prog 254 = none ∧ sizeT prog 254 = some 256 ∧ bytesT prog 254 = some 1024 ∧ zav prog 254 = some (List.replicate 256 (.int .u32 0)) ∧ zval prog 254 = some (.agg (List.replicate 256 (.int .u32 0))) := by and_intros <;> kernel_rfl
theorem t255 : known prog 255 = true ∧ aggT prog 255 = true ∧ isIfaceT prog 255 = false ∧ eqAggT prog 255 = true ∧ arrT prog 255 = some (4, 254) ∧ placesT prog 255 = none ∧ sizeT prog 255 = some 1024 ∧ bytesT prog 255 = some 4096 ∧ zav prog 255 = some ((List.replicate 4 (List.replicate 256 (.int .u32 0))).flatten) ∧ zval prog 255 = some (.agg ((List.replicate 4 (List.replicate 256 (.int .u32 0))).flatten)) := by and_intros <;> kernel_rfl
theorem t257 : known prog 257 = true ∧ aggT prog 257 = true ∧ isIfaceT prog 257 = false ∧ eqAggT prog 257 = true ∧ arrT prog 257 = some (256, 116) ∧ placesT prog 257 = none ∧ sizeT prog 257 = some 256 ∧ bytesT prog 257 = some 2048 ∧ zav prog 257 = some (List.replicate 256 (.int .u64 0)) ∧ zval prog 257 = some (.agg (List.replicate 256 (.int .u64 0))) := by and_intros <;> kernel_rfl
theorem t259 : known prog 259 = true ∧ aggT prog 259 = true ∧ isIfaceT prog 259 = false ∧ eqAggT prog 259 = true ∧ arrT prog 259 = some (8, 108) ∧ placesT prog 259 = none ∧ sizeT prog 259 = some 8 ∧ bytesT prog 259 = some 32 ∧ zav prog 259 = some (List.replicate 8 (.int .u32 0)) ∧ zval prog 259 = some (.agg (List.replicate 8 (.int .u32 0))) := by and_intros <;> kernel_rfl
theorem t261 : known prog 261 = true ∧ aggT prog 261 = true ∧ isIfaceT prog 261 = false ∧ sizeT prog 261 = some 10 ∧ zav prog 261 = some ((List.replicate 8 (.int .u32 0)) ++ [.nils] ++ [.int .u64 0]) ∧ zval prog 261 = some (.agg ((List.replicate 8 (.int .u32 0)) ++ [.nils] ++ [.int .u64 0])) ∧ fieldT prog 261 0 = some (0, 259) ∧ fieldT prog 261 1 = some (8, 22) ∧ fieldT prog 261 2 = some (9, 116) ∧ placesT prog 261 = some [(0, 8), (8, 1), (9, 1)] := by and_intros <;> kernel_rfl
theorem t262 : known prog 262 = true ∧ aggT prog 262 = true ∧ isIfaceT prog 262 = false ∧ sizeT prog 262 = some 10 ∧ zav prog 262 = some ((List.replicate 8 (.int .u32 0)) ++ [.nils] ++ [.int .u64 0]) ∧ zval prog 262 = some (.agg ((List.replicate 8 (.int .u32 0)) ++ [.nils] ++ [.int .u64 0])) ∧ fieldT prog 262 0 = some (0, 259) ∧ fieldT prog 262 1 = some (8, 22) ∧ fieldT prog 262 2 = some (9, 116) ∧ placesT prog 262 = some [(0, 8), (8, 1), (9, 1)] := by and_intros <;> kernel_rfl
theorem t265 : known prog 265 = true ∧ aggT prog 265 = false ∧ isIfaceT prog 265 = false ∧ isPtrT prog 265 = true ∧ sizeT prog 265 = some 1 ∧ bytesT prog 265 = some 8 ∧ zav prog 265 = some [.nilp] ∧ dflt prog 265 = .nilp ∧ zval prog 265 = some (.nilp) := by and_intros <;> kernel_rfl
theorem t266 : known prog 266 = true ∧ aggT prog 266 = true ∧ isIfaceT prog 266 = false ∧ sizeT prog 266 = some 5 ∧ zav prog 266 = some ([.nilp] ++ (List.replicate 4 (.int .i64 0))) ∧ zval prog 266 = some (.agg ([.nilp] ++ (List.replicate 4 (.int .i64 0)))) ∧ fieldT prog 266 0 = some (0, 188) ∧ fieldT prog 266 1 = some (1, 82) ∧ placesT prog 266 = some [(0, 1), (1, 4)] := by and_intros <;> kernel_rfl
theorem t267 : known prog 267 = true ∧ aggT prog 267 = true ∧ isIfaceT prog 267 = false ∧ sizeT prog 267 = some 5 ∧ zav prog 267 = some ([.nilp] ++ (List.replicate 4 (.int .i64 0))) ∧ zval prog 267 = some (.agg ([.nilp] ++ (List.replicate 4 (.int .i64 0)))) ∧ fieldT prog 267 0 = some (0, 188) ∧ fieldT prog 267 1 = some (1, 82) ∧ placesT prog 267 = some [(0, 1), (1, 4)] := by and_intros <;> kernel_rfl
theorem t271 : known prog 271 = true ∧ aggT prog 271 = true ∧ isIfaceT prog 271 = false ∧ eqAggT prog 271 = true ∧ arrT prog 271 = some (64, 108) ∧ placesT prog 271 = none ∧ sizeT prog 271 = some 64 ∧ bytesT prog 271 = some 256 ∧ zav prog 271 = some (List.replicate 64 (.int .u32 0)) ∧ zval prog 271 = some (.agg (List.replicate 64 (.int .u32 0))) := by and_intros <;> kernel_rfl
theorem t279 : known prog 279 = true ∧ aggT prog 279 = true ∧ isIfaceT prog 279 = false ∧ sizeT prog 279 = some 4 ∧ zav prog 279 = some [.nilp, .nilp, .nilp, .str ⟨#[]⟩] ∧ zval prog 279 = some (.agg [.nilp, .nilp, .nilp, .str ⟨#[]⟩]) ∧ fieldT prog 279 0 = some (0, 17) ∧ fieldT prog 279 1 = some (1, 17) ∧ fieldT prog 279 2 = some (2, 17) ∧ fieldT prog 279 3 = some (3, 9) ∧ placesT prog 279 = some [(0, 1), (1, 1), (2, 1), (3, 1)] := by and_intros <;> kernel_rfl
theorem t280 : known prog 280 = true ∧ aggT prog 280 = true ∧ isIfaceT prog 280 = false ∧ sizeT prog 280 = some 4 ∧ zav prog 280 = some [.nilp, .nilp, .nilp, .str ⟨#[]⟩] ∧ zval prog 280 = some (.agg [.nilp, .nilp, .nilp, .str ⟨#[]⟩]) ∧ fieldT prog 280 0 = some (0, 17) ∧ fieldT prog 280 1 = some (1, 17) ∧ fieldT prog 280 2 = some (2, 17) ∧ fieldT prog 280 3 = some (3, 9) ∧ placesT prog 280 = some [(0, 1), (1, 1), (2, 1), (3, 1)] := by and_intros <;> kernel_rfl
theorem t281 : known prog 281 = true ∧ aggT prog 281 = true ∧ isIfaceT prog 281 = false ∧ arrT prog 281 = some (0, 16) ∧ placesT prog 281 = none ∧ sizeT prog 281 = some 0 ∧ bytesT prog 281 = some 0 ∧ zav prog 281 = some (List.replicate 0 (.nilp)) ∧ zval prog 281 = some (.agg (List.replicate 0 (.nilp))) := by and_intros <;> kernel_rfl
theorem t282 : known prog 282 = true ∧ aggT prog 282 = true ∧ isIfaceT prog 282 = false ∧ sizeT prog 282 = some 0 ∧ zav prog 282 = some ((List.replicate 0 (.nilp))) ∧ zval prog 282 = some (.agg ((List.replicate 0 (.nilp)))) ∧ fieldT prog 282 0 = some (0, 281) ∧ placesT prog 282 = some [(0, 0)] := by and_intros <;> kernel_rfl
theorem t283 : known prog 283 = true ∧ aggT prog 283 = true ∧ isIfaceT prog 283 = false ∧ sizeT prog 283 = some 0 ∧ zav prog 283 = some ((List.replicate 0 (.nilp))) ∧ zval prog 283 = some (.agg ((List.replicate 0 (.nilp)))) ∧ fieldT prog 283 0 = some (0, 281) ∧ placesT prog 283 = some [(0, 0)] := by and_intros <;> kernel_rfl
theorem t284 : known prog 284 = true ∧ aggT prog 284 = false ∧ isIfaceT prog 284 = false ∧ intT prog 284 = some .u8 ∧ sizeT prog 284 = some 1 ∧ bytesT prog 284 = some 1 ∧ zav prog 284 = some [.int .u8 0] ∧ dflt prog 284 = .int .u8 0 ∧ zval prog 284 = some (.int .u8 0) := by and_intros <;> kernel_rfl
theorem t285 : known prog 285 = true ∧ aggT prog 285 = false ∧ isIfaceT prog 285 = false ∧ intT prog 285 = some .u8 ∧ sizeT prog 285 = some 1 ∧ bytesT prog 285 = some 1 ∧ zav prog 285 = some [.int .u8 0] ∧ dflt prog 285 = .int .u8 0 ∧ zval prog 285 = some (.int .u8 0) := by and_intros <;> kernel_rfl
theorem t286 : known prog 286 = true ∧ aggT prog 286 = false ∧ isIfaceT prog 286 = false ∧ isFuncT prog 286 = true ∧ sizeT prog 286 = some 1 ∧ bytesT prog 286 = some 8 ∧ zav prog 286 = some [.nilf] ∧ dflt prog 286 = .nilf ∧ zval prog 286 = some (.nilf) := by and_intros <;> kernel_rfl
theorem t287 : known prog 287 = true ∧ aggT prog 287 = false ∧ isIfaceT prog 287 = false ∧ isPtrT prog 287 = true ∧ sizeT prog 287 = some 1 ∧ bytesT prog 287 = some 8 ∧ zav prog 287 = some [.nilp] ∧ dflt prog 287 = .nilp ∧ zval prog 287 = some (.nilp) := by and_intros <;> kernel_rfl
theorem t288 : known prog 288 = true ∧ aggT prog 288 = false ∧ isIfaceT prog 288 = false ∧ intT prog 288 = some .i32 ∧ sizeT prog 288 = some 1 ∧ bytesT prog 288 = some 4 ∧ zav prog 288 = some [.int .i32 0] ∧ dflt prog 288 = .int .i32 0 ∧ zval prog 288 = some (.int .i32 0) := by and_intros <;> kernel_rfl
theorem t289 : known prog 289 = true ∧ aggT prog 289 = false ∧ isIfaceT prog 289 = false ∧ intT prog 289 = some .i32 ∧ sizeT prog 289 = some 1 ∧ bytesT prog 289 = some 4 ∧ zav prog 289 = some [.int .i32 0] ∧ dflt prog 289 = .int .i32 0 ∧ zval prog 289 = some (.int .i32 0) := by and_intros <;> kernel_rfl
theorem t290 : known prog 290 = true ∧ aggT prog 290 = true ∧ isIfaceT prog 290 = false ∧ sizeT prog 290 = some 11 ∧ zav prog 290 = some [.int .u64 0, .int .u64 0, .int .u32 0, .int .u8 0, .int .u8 0, .int .u8 0, .int .u8 0, .nilf, .nilp, .int .i32 0, .int .i32 0] ∧ zval prog 290 = some (.agg [.int .u64 0, .int .u64 0, .int .u32 0, .int .u8 0, .int .u8 0, .int .u8 0, .int .u8 0, .nilf, .nilp, .int .i32 0, .int .i32 0]) ∧ fieldT prog 290 0 = some (0, 12) ∧ fieldT prog 290 1 = some (1, 12) ∧ fieldT prog 290 2 = some (2, 108) ∧ fieldT prog 290 3 = some (3, 284) ∧ fieldT prog 290 4 = some (4, 5) ∧ fieldT prog 290 5 = some (5, 5) ∧ fieldT prog 290 6 = some (6, 285) ∧ fieldT prog 290 7 = some (7, 286) ∧ fieldT prog 290 8 = some (8, 287) ∧ fieldT prog 290 9 = some (9, 288) ∧ fieldT prog 290 10 = some (10, 289) ∧ placesT prog 290 = some [(0, 1), (1, 1), (2, 1), (3, 1), (4, 1), (5, 1), (6, 1), (7, 1), (8, 1), (9, 1), (10, 1)] := by and_intros <;> kernel_rfl
theorem t291 : known prog 291 = true ∧ aggT prog 291 = true ∧ isIfaceT prog 291 = false ∧ sizeT prog 291 = some 11 ∧ zav prog 291 = some [.int .u64 0, .int .u64 0, .int .u32 0, .int .u8 0, .int .u8 0, .int .u8 0, .int .u8 0, .nilf, .nilp, .int .i32 0, .int .i32 0] ∧ zval prog 291 = some (.agg [.int .u64 0, .int .u64 0, .int .u32 0, .int .u8 0, .int .u8 0, .int .u8 0, .int .u8 0, .nilf, .nilp, .int .i32 0, .int .i32 0]) ∧ fieldT prog 291 0 = some (0, 12) ∧ fieldT prog 291 1 = some (1, 12) ∧ fieldT prog 291 2 = some (2, 108) ∧ fieldT prog 291 3 = some (3, 284) ∧ fieldT prog 291 4 = some (4, 5) ∧ fieldT prog 291 5 = some (5, 5) ∧ fieldT prog 291 6 = some (6, 285) ∧ fieldT prog 291 7 = some (7, 286) ∧ fieldT prog 291 8 = some (8, 287) ∧ fieldT prog 291 9 = some (9, 288) ∧ fieldT prog 291 10 = some (10, 289) ∧ placesT prog 291 = some [(0, 1), (1, 1), (2, 1), (3, 1), (4, 1), (5, 1), (6, 1), (7, 1), (8, 1), (9, 1), (10, 1)] := by and_intros <;> kernel_rfl
theorem t293 : known prog 293 = true ∧ aggT prog 293 = true ∧ isIfaceT prog 293 = false ∧ eqAggT prog 293 = true ∧ sizeT prog 293 = some 2 ∧ zav prog 293 = some [.int .i64 0, .int .u32 0] ∧ zval prog 293 = some (.agg [.int .i64 0, .int .u32 0]) ∧ fieldT prog 293 0 = some (0, 3) ∧ fieldT prog 293 1 = some (1, 108) ∧ placesT prog 293 = some [(0, 1), (1, 1)] := by and_intros <;> kernel_rfl
theorem t294 : known prog 294 = true ∧ aggT prog 294 = true ∧ isIfaceT prog 294 = false ∧ eqAggT prog 294 = true ∧ sizeT prog 294 = some 2 ∧ zav prog 294 = some [.int .i64 0, .int .u32 0] ∧ zval prog 294 = some (.agg [.int .i64 0, .int .u32 0]) ∧ fieldT prog 294 0 = some (0, 3) ∧ fieldT prog 294 1 = some (1, 108) ∧ placesT prog 294 = some [(0, 1), (1, 1)] := by and_intros <;> kernel_rfl
theorem en3 : enters prog 3 = true := by kernel_rfl
theorem en4 : enters prog 4 = true := by kernel_rfl
theorem en5 : enters prog 5 = true := by kernel_rfl
theorem en6 : enters prog 6 = true := by kernel_rfl
theorem en7 : enters prog 7 = true := by kernel_rfl
theorem en8 : enters prog 8 = true := by kernel_rfl
theorem en9 : enters prog 9 = true := by kernel_rfl
theorem en10 : enters prog 10 = true := by kernel_rfl
theorem en11 : enters prog 11 = true := by kernel_rfl
theorem en12 : enters prog 12 = true := by kernel_rfl
theorem en13 : enters prog 13 = true := by kernel_rfl
theorem en14 : enters prog 14 = true := by kernel_rfl
theorem en15 : enters prog 15 = true := by kernel_rfl
theorem en16 : enters prog 16 = true := by kernel_rfl
theorem en17 : enters prog 17 = true := by kernel_rfl
theorem en18 : enters prog 18 = true := by kernel_rfl
theorem en19 : enters prog 19 = true := by kernel_rfl
theorem en20 : enters prog 20 = true := by kernel_rfl
theorem en21 : enters prog 21 = true := by kernel_rfl
theorem en22 : enters prog 22 = true := by kernel_rfl
theorem en23 : enters prog 23 = true := by kernel_rfl
theorem en24 : enters prog 24 = true := by kernel_rfl
theorem en25 : enters prog 25 = true := by kernel_rfl
theorem en26 : enters prog 26 = true := by kernel_rfl
theorem en27 : enters prog 27 = true := by kernel_rfl
theorem en28 : enters prog 28 = true := by kernel_rfl
theorem en29 : enters prog 29 = true := by kernel_rfl
theorem en30 : enters prog 30 = true := by kernel_rfl
theorem en31 : enters prog 31 = true := by kernel_rfl
theorem en32 : enters prog 32 = true := by kernel_rfl
theorem en33 : enters prog 33 = true := by kernel_rfl
theorem en34 : enters prog 34 = true := by kernel_rfl
theorem en35 : enters prog 35 = true := by kernel_rfl
theorem en36 : enters prog 36 = true := by kernel_rfl
theorem en37 : enters prog 37 = true := by kernel_rfl
theorem en38 : enters prog 38 = true := by kernel_rfl
theorem en39 : enters prog 39 = true := by kernel_rfl
theorem en40 : enters prog 40 = true := by kernel_rfl
theorem en41 : enters prog 41 = true := by kernel_rfl
theorem en42 : enters prog 42 = true := by kernel_rfl
theorem en43 : enters prog 43 = true := by kernel_rfl
theorem en44 : enters prog 44 = true := by kernel_rfl
theorem en45 : enters prog 45 = true := by kernel_rfl
theorem en46 : enters prog 46 = true := by kernel_rfl
theorem en47 : enters prog 47 = true := by kernel_rfl
theorem en48 : enters prog 48 = true := by kernel_rfl
theorem en49 : enters prog 49 = true := by kernel_rfl
theorem en50 : enters prog 50 = true := by kernel_rfl
theorem en51 : enters prog 51 = true := by kernel_rfl
theorem en52 : enters prog 52 = true := by kernel_rfl
theorem en53 : enters prog 53 = true := by kernel_rfl
theorem en54 : enters prog 54 = true := by kernel_rfl
theorem en55 : enters prog 55 = true := by kernel_rfl
theorem en56 : enters prog 56 = true := by kernel_rfl
theorem en57 : enters prog 57 = true := by kernel_rfl
theorem en58 : enters prog 58 = true := by kernel_rfl
theorem en59 : enters prog 59 = true := by kernel_rfl
theorem en60 : enters prog 60 = true := by kernel_rfl
theorem en61 : enters prog 61 = true := by kernel_rfl
theorem en62 : enters prog 62 = true := by kernel_rfl
theorem en63 : enters prog 63 = true := by kernel_rfl
theorem en64 : enters prog 64 = true := by kernel_rfl
theorem en65 : enters prog 65 = true := by kernel_rfl
theorem en66 : enters prog 66 = true := by kernel_rfl
theorem en67 : enters prog 67 = true := by kernel_rfl
theorem en68 : enters prog 68 = true := by kernel_rfl
theorem en69 : enters prog 69 = true := by kernel_rfl
theorem en70 : enters prog 70 = true := by kernel_rfl
theorem en71 : enters prog 71 = true := by kernel_rfl
theorem en72 : enters prog 72 = true := by kernel_rfl
theorem en73 : enters prog 73 = true := by kernel_rfl
theorem en74 : enters prog 74 = true := by kernel_rfl
theorem en75 : enters prog 75 = true := by kernel_rfl
theorem en76 : enters prog 76 = true := by kernel_rfl
theorem en77 : enters prog 77 = true := by kernel_rfl
theorem en78 : enters prog 78 = true := by kernel_rfl
theorem en79 : enters prog 79 = true := by kernel_rfl
theorem en80 : enters prog 80 = true := by kernel_rfl
theorem en81 : enters prog 81 = true := by kernel_rfl
theorem en82 : enters prog 82 = true := by kernel_rfl
theorem en83 : enters prog 83 = true := by kernel_rfl
theorem en84 : enters prog 84 = true := by kernel_rfl
theorem en85 : enters prog 85 = true := by kernel_rfl
theorem en86 : enters prog 86 = true := by kernel_rfl
theorem en87 : enters prog 87 = true := by kernel_rfl
theorem en88 : enters prog 88 = true := by kernel_rfl
theorem en89 : enters prog 89 = true := by kernel_rfl
theorem en90 : enters prog 90 = true := by kernel_rfl
theorem en91 : enters prog 91 = true := by kernel_rfl
theorem en92 : enters prog 92 = true := by kernel_rfl
theorem en93 : enters prog 93 = true := by kernel_rfl
theorem en94 : enters prog 94 = true := by kernel_rfl
theorem en95 : enters prog 95 = true := by kernel_rfl
theorem en96 : enters prog 96 = true := by kernel_rfl
theorem en97 : enters prog 97 = true := by kernel_rfl
theorem en98 : enters prog 98 = true := by kernel_rfl
theorem en99 : enters prog 99 = true := by kernel_rfl
theorem en100 : enters prog 100 = true := by kernel_rfl
theorem en101 : enters prog 101 = true := by kernel_rfl
theorem en102 : enters prog 102 = true := by kernel_rfl
theorem en103 : enters prog 103 = true := by kernel_rfl
theorem en104 : enters prog 104 = true := by kernel_rfl
theorem en105 : enters prog 105 = true := by kernel_rfl
theorem en106 : enters prog 106 = true := by kernel_rfl
theorem en107 : enters prog 107 = true := by kernel_rfl
theorem en108 : enters prog 108 = true := by kernel_rfl
theorem en109 : enters prog 109 = true := by kernel_rfl
theorem en110 : enters prog 110 = true := by kernel_rfl
theorem en111 : enters prog 111 = true := by kernel_rfl
theorem en112 : enters prog 112 = true := by kernel_rfl
theorem en113 : enters prog 113 = true := by kernel_rfl
theorem en114 : enters prog 114 = true := by kernel_rfl
theorem en115 : enters prog 115 = true := by kernel_rfl
theorem en116 : enters prog 116 = true := by kernel_rfl
theorem en117 : enters prog 117 = true := by kernel_rfl
theorem en118 : enters prog 118 = true := by kernel_rfl
theorem en119 : enters prog 119 = true := by kernel_rfl
theorem en120 : enters prog 120 = true := by kernel_rfl
theorem en121 : enters prog 121 = true := by kernel_rfl
theorem en122 : enters prog 122 = true := by kernel_rfl
theorem en123 : enters prog 123 = true := by kernel_rfl
theorem en124 : enters prog 124 = true := by kernel_rfl
theorem en125 : enters prog 125 = true := by kernel_rfl
theorem en126 : enters prog 126 = true := by kernel_rfl
theorem en127 : enters prog 127 = true := by kernel_rfl
theorem en128 : enters prog 128 = true := by kernel_rfl
theorem en129 : enters prog 129 = true := by kernel_rfl
theorem en130 : enters prog 130 = true := by kernel_rfl
theorem en131 : enters prog 131 = true := by kernel_rfl
theorem en132 : enters prog 132 = true := by kernel_rfl
theorem en133 : enters prog 133 = true := by kernel_rfl
theorem en134 : enters prog 134 = true := by kernel_rfl
theorem en135 : enters prog 135 = true := by kernel_rfl
theorem en136 : enters prog 136 = true := by kernel_rfl
theorem en137 : enters prog 137 = true := by kernel_rfl
theorem en138 : enters prog 138 = true := by kernel_rfl
theorem en139 : enters prog 139 = true := by kernel_rfl
theorem en140 : enters prog 140 = true := by kernel_rfl
theorem en141 : enters prog 141 = true := by kernel_rfl
theorem en142 : enters prog 142 = true := by kernel_rfl
theorem en143 : enters prog 143 = true := by kernel_rfl
theorem en144 : enters prog 144 = true := by kernel_rfl
theorem en145 : enters prog 145 = true := by kernel_rfl
theorem en146 : enters prog 146 = true := by kernel_rfl
theorem en147 : enters prog 147 = true := by kernel_rfl
theorem en148 : enters prog 148 = true := by kernel_rfl
theorem en149 : enters prog 149 = true := by kernel_rfl
theorem en150 : enters prog 150 = true := by kernel_rfl
theorem en151 : enters prog 151 = true := by kernel_rfl
theorem en152 : enters prog 152 = true := by kernel_rfl
theorem en153 : enters prog 153 = true := by kernel_rfl
theorem en154 : enters prog 154 = true := by kernel_rfl
theorem en155 : enters prog 155 = true := by kernel_rfl
theorem en156 : enters prog 156 = true := by kernel_rfl
theorem en157 : enters prog 157 = true := by kernel_rfl
theorem en158 : enters prog 158 = true := by kernel_rfl
theorem en159 : enters prog 159 = true := by kernel_rfl
theorem en160 : enters prog 160 = true := by kernel_rfl
theorem en161 : enters prog 161 = true := by kernel_rfl
theorem en162 : enters prog 162 = true := by kernel_rfl
theorem en163 : enters prog 163 = true := by kernel_rfl
theorem en164 : enters prog 164 = true := by kernel_rfl
theorem en165 : enters prog 165 = true := by kernel_rfl
theorem en166 : enters prog 166 = true := by kernel_rfl
theorem en167 : enters prog 167 = true := by kernel_rfl
theorem en168 : enters prog 168 = true := by kernel_rfl
theorem en169 : enters prog 169 = true := by kernel_rfl
theorem en170 : enters prog 170 = true := by kernel_rfl
theorem en171 : enters prog 171 = true := by kernel_rfl
theorem en172 : enters prog 172 = true := by kernel_rfl
theorem en173 : enters prog 173 = true := by kernel_rfl
theorem en174 : enters prog 174 = true := by kernel_rfl
theorem en175 : enters prog 175 = true := by kernel_rfl
theorem en176 : enters prog 176 = true := by kernel_rfl
theorem en177 : enters prog 177 = true := by kernel_rfl
theorem en178 : enters prog 178 = true := by kernel_rfl
theorem en179 : enters prog 179 = true := by kernel_rfl
theorem en180 : enters prog 180 = true := by kernel_rfl
theorem en181 : enters prog 181 = true := by kernel_rfl
theorem en182 : enters prog 182 = true := by kernel_rfl
theorem en183 : enters prog 183 = true := by kernel_rfl
theorem en184 : enters prog 184 = true := by kernel_rfl
theorem en185 : enters prog 185 = true := by kernel_rfl
theorem en186 : enters prog 186 = true := by kernel_rfl
theorem en187 : enters prog 187 = true := by kernel_rfl
theorem en188 : enters prog 188 = true := by kernel_rfl
theorem en189 : enters prog 189 = true := by kernel_rfl
theorem en190 : enters prog 190 = true := by kernel_rfl
theorem en191 : enters prog 191 = true := by kernel_rfl
theorem en192 : enters prog 192 = true := by kernel_rfl
theorem en193 : enters prog 193 = true := by kernel_rfl
theorem en194 : enters prog 194 = true := by kernel_rfl
theorem en195 : enters prog 195 = true := by kernel_rfl
theorem en196 : enters prog 196 = true := by kernel_rfl
theorem en197 : enters prog 197 = true := by kernel_rfl
theorem en198 : enters prog 198 = true := by kernel_rfl
theorem en199 : enters prog 199 = true := by kernel_rfl
theorem en200 : enters prog 200 = true := by kernel_rfl
theorem en201 : enters prog 201 = true := by kernel_rfl
theorem en202 : enters prog 202 = true := by kernel_rfl
theorem en203 : enters prog 203 = true := by kernel_rfl
theorem en204 : enters prog 204 = true := by kernel_rfl
theorem en205 : enters prog 205 = true := by kernel_rfl
theorem en206 : enters prog 206 = true := by kernel_rfl
theorem en207 : enters prog 207 = true := by kernel_rfl
theorem en208 : enters prog 208 = true := by kernel_rfl
theorem en209 : enters prog 209 = true := by kernel_rfl
theorem en210 : enters prog 210 = true := by kernel_rfl
theorem en211 : enters prog 211 = true := by kernel_rfl
theorem en212 : enters prog 212 = true := by kernel_rfl
theorem en213 : enters prog 213 = true := by kernel_rfl
theorem en214 : enters prog 214 = true := by kernel_rfl
theorem en215 : enters prog 215 = true := by kernel_rfl
theorem en216 : enters prog 216 = true := by kernel_rfl
theorem en217 : enters prog 217 = true := by kernel_rfl
theorem en218 : enters prog 218 = true := by kernel_rfl
theorem en219 : enters prog 219 = true := by kernel_rfl
theorem en235 : enters prog 235 = true := by kernel_rfl
theorem en236 : enters prog 236 = true := by kernel_rfl
theorem en237 : enters prog 237 = true := by kernel_rfl
theorem en238 : enters prog 238 = true := by kernel_rfl
theorem en239 : enters prog 239 = true := by kernel_rfl
theorem en240 : enters prog 240 = true := by kernel_rfl
theorem en241 : enters prog 241 = true := by kernel_rfl
theorem en242 : enters prog 242 = true := by kernel_rfl
theorem mixed : prog.follows .mixedOrders = true := by kernel_rfl
attribute [go_sem] t1 t2 t3 t4 t5 t6 t7 t8 t9 t10 t11 t12 t13 t14 t15 t16 t17 t20 t21 t22 t23 t25 t42 t44 t46 t49 t50 t58 t59 t63 t65 t67 t70 t71 t77 t78 t79 t80 t82 t85 t88 t93 t96 t97 t98 t107 t108 t109 t110 t116 t117 t118 t123 t125 t126 t127 t128 t129 t135 t136 t137 t138 t139 t140 t141 t142 t143 t144 t145 t146 t147 t148 t149 t150 t151 t153 t154 t155 t156 t157 t158 t163 t164 t165 t166 t167 t168 t170 t172 t174 t177 t178 t180 t181 t182 t183 t184 t185 t186 t188 t191 t192 t193 t194 t195 t199 t203 t208 t209 t220 t228 t229 t230 t231 t232 t236 t240 t241 t243 t254 t255 t257 t259 t261 t262 t265 t266 t267 t271 t279 t280 t281 t282 t283 t284 t285 t286 t287 t288 t289 t290 t291 t293 t294 en3 en4 en5 en6 en7 en8 en9 en10 en11 en12 en13 en14 en15 en16 en17 en18 en19 en20 en21 en22 en23 en24 en25 en26 en27 en28 en29 en30 en31 en32 en33 en34 en35 en36 en37 en38 en39 en40 en41 en42 en43 en44 en45 en46 en47 en48 en49 en50 en51 en52 en53 en54 en55 en56 en57 en58 en59 en60 en61 en62 en63 en64 en65 en66 en67 en68 en69 en70 en71 en72 en73 en74 en75 en76 en77 en78 en79 en80 en81 en82 en83 en84 en85 en86 en87 en88 en89 en90 en91 en92 en93 en94 en95 en96 en97 en98 en99 en100 en101 en102 en103 en104 en105 en106 en107 en108 en109 en110 en111 en112 en113 en114 en115 en116 en117 en118 en119 en120 en121 en122 en123 en124 en125 en126 en127 en128 en129 en130 en131 en132 en133 en134 en135 en136 en137 en138 en139 en140 en141 en142 en143 en144 en145 en146 en147 en148 en149 en150 en151 en152 en153 en154 en155 en156 en157 en158 en159 en160 en161 en162 en163 en164 en165 en166 en167 en168 en169 en170 en171 en172 en173 en174 en175 en176 en177 en178 en179 en180 en181 en182 en183 en184 en185 en186 en187 en188 en189 en190 en191 en192 en193 en194 en195 en196 en197 en198 en199 en200 en201 en202 en203 en204 en205 en206 en207 en208 en209 en210 en211 en212 en213 en214 en215 en216 en217 en218 en219 en235 en236 en237 en238 en239 en240 en241 en242
end Go.Proofs.Ytmdeoikpiiambaa.Fx
end
section
/- The engine, part 21: a part of an object that a call does not look at. Own work. -/
set_option linter.unusedVariables false
set_option linter.unusedSimpArgs false
namespace Go.Eng
open Go

section
variable {P : Program} {w0 w : World} {FP : Nat → Prop} {wr rd : Nat → Bool} {m : Mem} {nx : Nat} {H : RO} {B : Names}
/-- an object told otherwise -/
theorem Inv.swap (h : Inv w0 FP wr m nx H B w) {n : Nat} {o : AObj} (hn : look m n = some o) (o' : AObj) (ho : ∀ b, B n = some b → HoldsO H B w b o → HoldsO H B w b o') : Inv w0 FP wr (upd m n o') nx H B w := by
  have hlk : ∀ k p, look (upd m n o') k = some p → ∃ q, look m k = some q := fun k p e => by
    by_cases hk : n = k
    · subst hk; exact ⟨o, hn⟩
    · rw [look_upd_other o' hk] at e; exact ⟨p, e⟩
  refine ⟨h.size, h.os, h.tape, h.out, h.frame, fun a v e => ⟨(h.ro a v e).1, fun k p hk => ?_⟩, fun k p hk => ?_, fun k k' p p' h1 h2 => ?_, h.fresh, h.wrn, fun k hk => ?_⟩
  · obtain ⟨q, hq⟩ := hlk k p hk
    exact (h.ro a v e).2 k q hq
  · by_cases hkn : n = k
    · subst hkn
      rw [look_upd_same o' hn] at hk
      cases hk
      obtain ⟨b, hb, hho, r⟩ := h.obj n o hn
      exact ⟨b, hb, ho b hb hho, r⟩
    · rw [look_upd_other o' hkn] at hk
      exact h.obj k p hk
  · obtain ⟨q, hq⟩ := hlk k p h1
    obtain ⟨q', hq'⟩ := hlk k' p' h2
    exact h.inj k k' q q' hq hq'
  · obtain ⟨q, hq⟩ := h.keep k hk
    by_cases hkn : n = k
    · subst hkn; exact ⟨o', look_upd_same o' hn⟩
    · exact ⟨q, by rw [look_upd_other o' hkn]; exact hq⟩
theorem denL_split : ∀ {A T : List AV} {cs : List Value}, DenL H B (A ++ T) cs → ∃ c1 c2, cs = c1 ++ c2 ∧ DenL H B A c1 ∧ DenL H B T c2
  | [], T, cs, h => ⟨[], cs, rfl, by simp only [DenL], h⟩
  | x :: r, T, cs, h => by
    simp only [List.cons_append, DenL] at h
    obtain ⟨v, s, rfl, h1, h2⟩ := h
    obtain ⟨c1, c2, rfl, g1, g2⟩ := denL_split h2
    exact ⟨v :: c1, c2, rfl, by simp only [DenL]; exact ⟨v, c1, rfl, h1, g1⟩, g2⟩
theorem vals_den : ∀ {us cs : List Value}, DenL H B (us.map AV.val) cs → cs = us
  | [], cs, h => by simpa only [List.map_nil, DenL] using h
  | u :: r, cs, h => by
    simp only [List.map_cons, DenL, Den] at h
    obtain ⟨v, s, rfl, rfl, h2⟩ := h
    rw [vals_den h2]
/-- a call that leaves the object's last cells as they are -/
theorem CallG.hide {fz : Bool} {g : FuncId} {args : List AV} {n ty : Nat} {A T : List AV} {K : Kv} (hn : look m n = some (.cells (A ++ T) ty))
    (h : ∀ us : List Value, us.length = T.length → CallG fz P g args wr (upd m n (.cells (A ++ us.map AV.val) ty)) nx fun v m' nx' => ∃ A', look m' n = some (.cells (A' ++ us.map AV.val) ty) ∧ K v (upd m' n (.cells (A' ++ T) ty)) nx') :
    CallG fz P g args wr m nx K := by
  intro w0 FP H B w vs hi hd
  obtain ⟨b, cs, hb, hc, hdl⟩ := obj_cells hi hn
  obtain ⟨c1, us, rfl, hA, hT⟩ := denL_split hdl
  have hi' : Inv w0 FP wr (upd m n (.cells (A ++ us.map AV.val) ty)) nx H B w := hi.swap hn _ fun b' hb' _ => by
    rw [hb] at hb'; cases hb'
    exact ⟨c1 ++ us, hc, hA.append (denL_val H B us)⟩
  refine (h us (by rw [← hT.length]) w0 FP H B w vs hi' hd).mono fun e w' he => ?_
  obtain ⟨v, av, m', nx', B', H', rfl, hH, hi2, hx, hdv, A', hn2, hK⟩ := he
  refine ⟨v, av, _, nx', B', H', rfl, hH, hi2.swap hn2 (.cells (A' ++ T) ty) fun b2 hb2 ho => ?_, hx, hdv, hK⟩
  obtain ⟨cs2, hc2, hd2⟩ := ho
  obtain ⟨d1, d2, rfl, hA2, hT2⟩ := denL_split hd2
  rw [vals_den hT2]  at hc2
  exact ⟨d1 ++ us, hc2, hA2.append (hT.mono hx)⟩
end
end Go.Eng
end
section
/- The engine, part 22: what is appended to, nil or not; and read only from then on. Own work. -/
set_option linter.unusedVariables false
set_option linter.unusedSimpArgs false
namespace Go.Eng
open Go

section
variable {P : Program} {wr : Nat → Bool} {k : IntKind} {w : Nat}
/-- a row of words somewhere in memory: nil, or a slice at its object's begin -/
def ApA (k : IntKind) (ty : TypeId) {w : Nat} (X : List (BitVec w)) (v : AV) (m : Mem) : Prop :=
  (X = [] ∧ v = .nils) ∨ ∃ (n cap : Nat) (sp : List Value), v = .sl n 0 X.length cap ∧ look m n = some (.cells (bvs k X ++ sp.map AV.val) ty) ∧ X.length + sp.length = cap ∧ cap ≤ maxI
theorem appk_gen {ty bt : Nat} {X y : List (BitVec w)} {v : AV} {m : Mem} {nx : Nat} {K : Kv} (h : ApA k ty X v m) (hlt : ∀ n off len cap, v = .sl n off len cap → n < nx) (hw : ∀ n, wr n = true) (hb : 0 < bt) (hl : (X.length + y.length) * bt ≤ 140737488355328)
    (hK : ∀ (v' : AV) (m' : Mem) (nx' : Nat), ApA k ty (X ++ y) v' m' → nx ≤ nx' → (∀ n off len cap, v' = .sl n off len cap → n = nx ∧ nx' = nx + 1) → (∀ j, j ≠ nx → (∀ off len cap, v ≠ .sl j off len cap) → look m' j = look m j) → K v' m' nx') :
    appk v m nx wr ty 1 bt (y.length, bvs k y) K := by
  rcases h with ⟨rfl, rfl⟩ | ⟨n, cap, sp, rfl, hn, h1, h2⟩
  · refine appk_nils hb (by simpa using hl) (fun e => ?_) fun hp cap' sp' c1 c2 => ?_
    · subst e
      exact hK .nils m nx (.inl ⟨rfl, rfl⟩) (Nat.le_refl _) (fun _ _ _ _ e => by cases e) (fun _ _ _ => rfl)
    · refine hK _ _ _ (.inr ⟨nx, cap', sp', by simp, by simp [look], by simpa using c1, c2⟩) (Nat.le_succ _) (fun _ _ _ _ e => by cases e; exact ⟨rfl, rfl⟩) (fun j hj _ => ?_)
      simp only [look]; rw [if_neg (Ne.symm hj)]
  · refine appk_bvs hn (hw n) h1 h2 hb hl fun cap' sp' c1 c2 => ?_
    refine hK _ _ _ (.inr ⟨nx, cap', sp', rfl, by simp [look], c1, c2⟩) (Nat.le_succ _) (fun _ _ _ _ e => by cases e; exact ⟨rfl, rfl⟩) (fun j hj hv => ?_)
    have hjn : n ≠ j := fun e => hv 0 X.length cap (by rw [e])
    simp only [look]; rw [if_neg (Ne.symm hj), look_del_other hjn]
/-- held fast, it is read-only -/
theorem ApA.fz {ty : Nat} {X : List (BitVec w)} {v : AV} {m : Mem} (h : ApA k ty X v m) : ∃ o : Option (Nat × List AV), (∀ n l, o = some (n, l) → look m n = some (.cells l ty) ∧ ∃ len cap, v = .sl n 0 len cap) ∧ fzA o v = .ro X.length (bvs k X) := by
  rcases h with ⟨rfl, rfl⟩ | ⟨n, cap, sp, rfl, hn, h1, h2⟩
  · exact ⟨none, (fun n l e => by cases e), rfl⟩
  · refine ⟨some (n, _), (fun n' l e => by cases e; exact ⟨hn, _, _, rfl⟩), ?_⟩
    simp only [fzA, if_true, List.drop_zero]
    rw [List.take_append_of_le_length (by rw [bvs_length]; exact Nat.le_refl _), bvs_take, List.take_length]
end
end Go.Eng
end
section
/- The engine, part 14: a law's arguments. Own work. -/
set_option linter.unusedVariables false
namespace Go.Eng
open Go Go.RowKit

/-- a slice of integers that came in: nil, or it leads to a row -/
def IsRow (k : IntKind) (w : World) (a : Option Addr) (len cap : Nat) (zs : List Int) : Prop :=
  (a = none ∧ len = 0 ∧ cap = 0 ∧ zs = []) ∨
  ∃ x, a = some x ∧ len ≤ cap ∧ cap ≤ maxLen ∧ zs.length = cap ∧ (∀ i, i < zs.length → w.cell? (x.add i) = some (.int k (zs.getD i 0))) ∧ ∀ n ∈ zs, (Lit.int k n).wf = true
theorem IsRow.len {k : IntKind} {w : World} {a : Option Addr} {len cap : Nat} {zs : List Int} (h : IsRow k w a len cap zs) : (zs.take len).length = len ∧ len ≤ cap ∧ len ≤ maxLen := by
  rcases h with ⟨_, rfl, rfl, rfl⟩ | ⟨x, _, h1, h2, h3, _⟩
  · exact ⟨rfl, Nat.le_refl _, Nat.zero_le _⟩
  · exact ⟨by simp; omega, h1, by omega⟩
theorem IsRow.den {k : IntKind} {w : World} {a : Option Addr} {len cap : Nat} {zs : List Int} (h : IsRow k w a len cap zs) (B : Names) : Den (fun a => w.cell? a) B (.ro len (ints k (zs.take len))) (.slice a len cap) := by
  obtain ⟨g1, g2, _⟩ := h.len
  refine ro_int g1 g2 fun hp => ?_
  rcases h with ⟨_, rfl, _⟩ | ⟨x, h1, h2, h3, h4, h5, _⟩
  · omega
  · refine ⟨x, h1, fun i hi => ?_⟩
    rw [h5 i (by omega)]
    congr 2
    simp [List.getD_eq_getElem?_getD, hi]
theorem IsRow.wf {k : IntKind} {w : World} {a : Option Addr} {len cap : Nat} {zs : List Int} (h : IsRow k w a len cap zs) : ∀ n ∈ zs.take len, (Lit.int k n).wf = true := by
  rcases h with ⟨_, rfl, _, rfl⟩ | ⟨x, _, _, _, _, _, h⟩
  · intro n hn; simp at hn
  · exact fun n hn => h n (List.mem_of_mem_take hn)
theorem wf_u8 {n : Int} (h : (Lit.int .u8 n).wf = true) : n = ((BitVec.ofInt 8 n).toNat : Int) := by
  simp [Lit.wf, IntKind.min, IntKind.max, IntKind.signed, IntKind.bits] at h
  rw [BitVec.toNat_ofInt]
  omega
theorem ints_bv8 {l : List Int} (h : ∀ n ∈ l, (Lit.int .u8 n).wf = true) : ints .u8 l = bvs .u8 (l.map (BitVec.ofInt 8)) := by
  simp only [ints, bvs, List.map_map]
  refine List.map_congr_left fun n hn => ?_
  simp only [Function.comp]
  rw [← wf_u8 (h n hn)]
theorem IsRow.bv8 {w : World} {a : Option Addr} {len cap : Nat} {zs : List Int} (h : IsRow .u8 w a len cap zs) (B : Names) :
    ∃ b : List (BitVec 8), b.length = len ∧ b.length ≤ maxLen ∧ Den (fun a => w.cell? a) B (.ro b.length (bvs .u8 b)) (.slice a len cap) := by
  refine ⟨(zs.take len).map (BitVec.ofInt 8), by simpa using h.len.1, by rw [List.length_map, h.len.1]; exact h.len.2.2, ?_⟩
  rw [← ints_bv8 h.wf, List.length_map, h.len.1]
  exact h.den B
theorem wf_u16 {n : Int} (h : (Lit.int .u16 n).wf = true) : n = ((BitVec.ofInt 16 n).toNat : Int) := by
  simp [Lit.wf, IntKind.min, IntKind.max, IntKind.signed, IntKind.bits] at h
  rw [BitVec.toNat_ofInt]
  omega
theorem ints_bv16 {l : List Int} (h : ∀ n ∈ l, (Lit.int .u16 n).wf = true) : ints .u16 l = bvs .u16 (l.map (BitVec.ofInt 16)) := by
  simp only [ints, bvs, List.map_map]
  refine List.map_congr_left fun n hn => ?_
  simp only [Function.comp]
  rw [← wf_u16 (h n hn)]
theorem IsRow.bv16 {w : World} {a : Option Addr} {len cap : Nat} {zs : List Int} (h : IsRow .u16 w a len cap zs) (B : Names) :
    ∃ b : List (BitVec 16), b.length = len ∧ b.length ≤ maxLen ∧ Den (fun a => w.cell? a) B (.ro b.length (bvs .u16 b)) (.slice a len cap) := by
  refine ⟨(zs.take len).map (BitVec.ofInt 16), by simpa using h.len.1, by rw [List.length_map, h.len.1]; exact h.len.2.2, ?_⟩
  rw [← ints_bv16 h.wf, List.length_map, h.len.1]
  exact h.den B
theorem wf_u32 {n : Int} (h : (Lit.int .u32 n).wf = true) : n = ((BitVec.ofInt 32 n).toNat : Int) := by
  simp [Lit.wf, IntKind.min, IntKind.max, IntKind.signed, IntKind.bits] at h
  rw [BitVec.toNat_ofInt]
  omega
theorem ints_bv32 {l : List Int} (h : ∀ n ∈ l, (Lit.int .u32 n).wf = true) : ints .u32 l = bvs .u32 (l.map (BitVec.ofInt 32)) := by
  simp only [ints, bvs, List.map_map]
  refine List.map_congr_left fun n hn => ?_
  simp only [Function.comp]
  rw [← wf_u32 (h n hn)]
theorem IsRow.bv32 {w : World} {a : Option Addr} {len cap : Nat} {zs : List Int} (h : IsRow .u32 w a len cap zs) (B : Names) :
    ∃ b : List (BitVec 32), b.length = len ∧ b.length ≤ maxLen ∧ Den (fun a => w.cell? a) B (.ro b.length (bvs .u32 b)) (.slice a len cap) := by
  refine ⟨(zs.take len).map (BitVec.ofInt 32), by simpa using h.len.1, by rw [List.length_map, h.len.1]; exact h.len.2.2, ?_⟩
  rw [← ints_bv32 h.wf, List.length_map, h.len.1]
  exact h.den B
theorem wf_u64 {n : Int} (h : (Lit.int .u64 n).wf = true) : n = ((BitVec.ofInt 64 n).toNat : Int) := by
  simp [Lit.wf, IntKind.min, IntKind.max, IntKind.signed, IntKind.bits] at h
  rw [BitVec.toNat_ofInt]
  omega
theorem ints_bv64 {l : List Int} (h : ∀ n ∈ l, (Lit.int .u64 n).wf = true) : ints .u64 l = bvs .u64 (l.map (BitVec.ofInt 64)) := by
  simp only [ints, bvs, List.map_map]
  refine List.map_congr_left fun n hn => ?_
  simp only [Function.comp]
  rw [← wf_u64 (h n hn)]
theorem IsRow.bv64 {w : World} {a : Option Addr} {len cap : Nat} {zs : List Int} (h : IsRow .u64 w a len cap zs) (B : Names) :
    ∃ b : List (BitVec 64), b.length = len ∧ b.length ≤ maxLen ∧ Den (fun a => w.cell? a) B (.ro b.length (bvs .u64 b)) (.slice a len cap) := by
  refine ⟨(zs.take len).map (BitVec.ofInt 64), by simpa using h.len.1, by rw [List.length_map, h.len.1]; exact h.len.2.2, ?_⟩
  rw [← ints_bv64 h.wf, List.length_map, h.len.1]
  exact h.den B
theorem wf_i64 {n : Int} (h : (Lit.int .i64 n).wf = true) : -9223372036854775808 ≤ n ∧ n < 9223372036854775808 := by
  simp [Lit.wf, IntKind.min, IntKind.max, IntKind.signed, IntKind.bits] at h
  omega
end Go.Eng
end
section
/- The engine, part 24: a law's arguments of any plain shape. Own work. -/
set_option linter.unusedVariables false
namespace Go.Eng
open Go Go.RowKit

/-- whatever reads as a value of the type is what 'f' tells of some 'a' -/
def Reads (P : Program) (W : World) (t : TypeId) {α : Type} (f : α → List AV) (ok : α → Prop) : Prop :=
  ∀ (H : Type) (enc : TypeId × Value → H) (base : Nat) (sp : Nat → Bool) (held : Bool) (fuel : Nat) (cs : List Value) (x : DataW H × List MemPlace),
    DataW.trod enc P W base sp held fuel t cs = some x → ∃ a, ok a ∧ ∀ B, DenL (fun a => W.cell? a) B (f a) cs
section
variable {P : Program} {W : World} {t e : TypeId}
theorem Reads.u8 (ht : P.underlying t = some (.int .u8)) : Reads P W t (fun b : BitVec 8 => [.int .u8 (b.toNat : Int)]) (fun _ => True) := by
  intro H enc base sp held fuel cs x h
  obtain ⟨n, rfl, _, hw⟩ := DataW.trod_int ht h
  exact ⟨BitVec.ofInt 8 n, trivial, fun B => by
    have e := wf_u8 hw
    simp only [DenL, Den]
    exact ⟨_, _, rfl, by rw [← e], rfl⟩⟩
theorem Reads.u16 (ht : P.underlying t = some (.int .u16)) : Reads P W t (fun b : BitVec 16 => [.int .u16 (b.toNat : Int)]) (fun _ => True) := by
  intro H enc base sp held fuel cs x h
  obtain ⟨n, rfl, _, hw⟩ := DataW.trod_int ht h
  exact ⟨BitVec.ofInt 16 n, trivial, fun B => by
    have e := wf_u16 hw
    simp only [DenL, Den]
    exact ⟨_, _, rfl, by rw [← e], rfl⟩⟩
theorem Reads.u32 (ht : P.underlying t = some (.int .u32)) : Reads P W t (fun b : BitVec 32 => [.int .u32 (b.toNat : Int)]) (fun _ => True) := by
  intro H enc base sp held fuel cs x h
  obtain ⟨n, rfl, _, hw⟩ := DataW.trod_int ht h
  exact ⟨BitVec.ofInt 32 n, trivial, fun B => by
    have e := wf_u32 hw
    simp only [DenL, Den]
    exact ⟨_, _, rfl, by rw [← e], rfl⟩⟩
theorem Reads.u64 (ht : P.underlying t = some (.int .u64)) : Reads P W t (fun b : BitVec 64 => [.int .u64 (b.toNat : Int)]) (fun _ => True) := by
  intro H enc base sp held fuel cs x h
  obtain ⟨n, rfl, _, hw⟩ := DataW.trod_int ht h
  exact ⟨BitVec.ofInt 64 n, trivial, fun B => by
    have e := wf_u64 hw
    simp only [DenL, Den]
    exact ⟨_, _, rfl, by rw [← e], rfl⟩⟩
theorem Reads.i64 (ht : P.underlying t = some (.int .i64)) : Reads P W t (fun n : Int => [.int .i64 n]) (fun n => -9223372036854775808 ≤ n ∧ n < 9223372036854775808) := by
  intro H enc base sp held fuel cs x h
  obtain ⟨n, rfl, _, hw⟩ := DataW.trod_int ht h
  exact ⟨n, wf_i64 hw, fun B => by simp [DenL, Den]⟩
theorem Reads.bool (ht : P.underlying t = some .bool) : Reads P W t (fun b : Bool => [.bool b]) (fun _ => True) := by
  intro H enc base sp held fuel cs x h
  obtain ⟨b, rfl, _⟩ := DataW.trod_bool ht h
  exact ⟨b, trivial, fun B => by simp [DenL, Den]⟩
theorem DenAt.app {H : RO} {B : Names} {A : Option Addr} : ∀ {l l' : List AV} {i : Nat}, DenAt H B A i l → DenAt H B A (i + l.length) l' → DenAt H B A i (l ++ l')
  | [], l', i, _, h => by simpa using h
  | x :: r, l', i, h, h' => by
    simp only [DenAt, List.cons_append] at h ⊢
    refine ⟨h.1, DenAt.app h.2 ?_⟩
    rw [List.length_cons] at h'
    rw [show i + 1 + r.length = i + (r.length + 1) by omega]
    exact h'
theorem Reads.build {α : Type} {f : α → List AV} {ok : α → Prop} (he : Reads P W e f ok) {H : Type} {enc : TypeId × Value → H} {base : Nat} {sp : Nat → Bool} {held : Bool} {m : Nat} (a : Addr) :
    ∀ (n o : Nat), (∀ i, i < n → ∃ y, (W.cells? base (a.add ((o + i) * P.cellsOf e)) (P.cellsOf e)).bind (DataW.trod enc P W base sp held m e) = some y) →
      ∃ L : List α, L.length = n ∧ (∀ z ∈ L, ok z) ∧ ∀ B, DenAt (fun a => W.cell? a) B (some a) (o * P.cellsOf e) (L.flatMap f)
  | 0, o, _ => ⟨[], rfl, (fun z hz => by cases hz), fun B => trivial⟩
  | n + 1, o, h => by
    obtain ⟨y, hy⟩ := h 0 (by omega)
    obtain ⟨cs, hcs, hy⟩ := Option.bind_eq_some_iff.1 hy
    obtain ⟨z, hz, hd⟩ := he _ _ _ _ _ _ _ _ hy
    obtain ⟨_, hl, hc⟩ := World.cells?_some hcs
    obtain ⟨L, hL, hok, hD⟩ := Reads.build he a n (o + 1) fun i hi => by
      have := h (i + 1) (by omega)
      rwa [show o + (i + 1) = o + 1 + i by omega] at this
    refine ⟨z :: L, by rw [List.length_cons, hL], fun z' hz' => ?_, fun B => ?_⟩
    · rcases List.mem_cons.1 hz' with rfl | h'
      · exact hz
      · exact hok _ h'
    · rw [List.flatMap_cons]
      have hfl : (f z).length = P.cellsOf e := by rw [← (hd B).length, hl]
      refine DenAt.app (DenAt.of_get fun j x hj => ?_) ?_
      · obtain ⟨v, hv, hdv⟩ := (hd B).get j x hj
        refine ⟨a, v, rfl, ?_, hdv⟩
        have hj' : j < P.cellsOf e := by rw [← hfl]; exact (List.getElem?_eq_some_iff.1 hj).1
        have := hc j hj'
        rw [Nat.add_zero, Addr.add_add] at this
        rw [← hv]; exact this
      · rw [hfl, show o * P.cellsOf e + P.cellsOf e = (o + 1) * P.cellsOf e by rw [Nat.add_mul, Nat.one_mul]]
        exact hD B
theorem Reads.slice {α : Type} {f : α → List AV} {ok : α → Prop} (ht : P.underlying t = some (.slice e)) (he : Reads P W e f ok) :
    Reads P W t (fun L : List α => [.ro L.length (L.flatMap f)]) (fun L => L.length ≤ maxLen ∧ ∀ z ∈ L, ok z) := by
  intro H enc base sp held fuel cs x h
  rcases DataW.trod_slice ht h with ⟨rfl, _⟩ | ⟨a, len, cap, elems, rest, n, _, rfl, _, _, hl, hm, hlen, hel, _⟩
  · refine ⟨[], ⟨Nat.zero_le _, (fun z hz => by cases hz)⟩, fun B => ?_⟩
    simp only [DenL]
    exact ⟨_, _, rfl, by simp only [Den]; exact ⟨none, 0, rfl, Nat.le_refl _, trivial⟩, rfl⟩
  · obtain ⟨L, hL, hok, hD⟩ := Reads.build he (H := H) (enc := enc) (base := base) (sp := sp) (held := held) (m := n) a len 0 fun i hi => by
      rw [Nat.zero_add, hel i hi, List.getElem?_eq_getElem (by omega)]
      exact ⟨_, rfl⟩
    refine ⟨L, ⟨by omega, hok⟩, fun B => ?_⟩
    simp only [DenL]
    refine ⟨_, _, rfl, ?_, rfl⟩
    simp only [Den]
    refine ⟨some a, cap, by rw [hL], by omega, ?_⟩
    have := hD B
    rwa [Nat.zero_mul] at this
theorem bvs_fm (k : IntKind) {w : Nat} (L : List (BitVec w)) : bvs k L = L.flatMap fun b => [AV.int k (b.toNat : Int)] := by
  induction L with
  | nil => rfl
  | cons x r ih => rw [bvs_cons, List.flatMap_cons, ih]; rfl
theorem Reads.sl8 (ht : P.underlying t = some (.slice e)) (he : P.underlying e = some (.int .u8)) : Reads P W t (fun L : List (BitVec 8) => [.ro L.length (bvs .u8 L)]) (fun L => L.length ≤ maxLen) := by
  intro H enc base sp held fuel cs x h
  obtain ⟨L, hL, hd⟩ := (Reads.slice (W := W) ht (Reads.u8 he)) H enc base sp held fuel cs x h
  refine ⟨L, hL.1, fun B => ?_⟩
  show DenL _ B [.ro L.length (bvs .u8 L)] cs
  rw [bvs_fm]
  exact hd B
theorem Reads.sl32 (ht : P.underlying t = some (.slice e)) (he : P.underlying e = some (.int .u32)) : Reads P W t (fun L : List (BitVec 32) => [.ro L.length (bvs .u32 L)]) (fun L => L.length ≤ maxLen) := by
  intro H enc base sp held fuel cs x h
  obtain ⟨L, hL, hd⟩ := (Reads.slice (W := W) ht (Reads.u32 he)) H enc base sp held fuel cs x h
  refine ⟨L, hL.1, fun B => ?_⟩
  show DenL _ B [.ro L.length (bvs .u32 L)] cs
  rw [bvs_fm]
  exact hd B
/-- a struct's fields, from a cell on -/
def ReadsF (P : Program) (W : World) (fs : List Field) (o e : Nat) {α : Type} (f : α → List AV) (ok : α → Prop) : Prop :=
  ∀ (H : Type) (enc : TypeId × Value → H) (base : Nat) (sp : Nat → Bool) (held : Bool) (n : Nat) (cs : List Value), cs.length = e →
    (∀ fd ∈ fs, ∃ y, DataW.trod enc P W base sp held n fd.type ((cs.drop fd.offset).take (P.cellsOf fd.type)) = some y) → ∃ a, ok a ∧ ∀ B, DenL (fun a => W.cell? a) B (f a) (cs.drop o)
theorem ReadsF.nil {o e : Nat} (h : o = e) : ReadsF P W [] o e (fun _ : Unit => []) (fun _ => True) := by
  intro H enc base sp held n cs hl _
  refine ⟨(), trivial, fun B => ?_⟩
  rw [List.drop_eq_nil_of_le (by omega)]
  rfl
theorem ReadsF.cons {o e o' : Nat} {fd : Field} {fs : List Field} {α β : Type} {f : α → List AV} {ok : α → Prop} {g : β → List AV} {ok' : β → Prop} (ho : fd.offset = o) (ho' : o + P.cellsOf fd.type = o')
    (h1 : Reads P W fd.type f ok) (h2 : ReadsF P W fs o' e g ok') : ReadsF P W (fd :: fs) o e (fun p : α × β => f p.1 ++ g p.2) (fun p => ok p.1 ∧ ok' p.2) := by
  intro H enc base sp held n cs hl hf
  obtain ⟨y, hy⟩ := hf fd (List.mem_cons_self ..)
  obtain ⟨a, ha, hda⟩ := h1 _ _ _ _ _ _ _ _ hy
  obtain ⟨b, hb, hdb⟩ := h2 H enc base sp held n cs hl fun fd' h => hf fd' (List.mem_cons_of_mem _ h)
  refine ⟨(a, b), ⟨ha, hb⟩, fun B => ?_⟩
  have : cs.drop o = (cs.drop fd.offset).take (P.cellsOf fd.type) ++ cs.drop o' := by
    rw [ho, ← ho', ← List.drop_drop, List.take_append_drop]
  rw [this]
  exact (hda B).append (hdb B)
theorem Reads.struct {α : Type} {f : α → List AV} {ok : α → Prop} {fs : Array Field} (ht : P.underlying t = some (.struct fs)) (h : ReadsF P W fs.toList 0 (P.cellsOf t) f ok) : Reads P W t f ok := by
  intro H enc base sp held fuel cs x hx
  obtain ⟨xs, n, _, _, hl, hxl, hf⟩ := DataW.trod_struct ht hx
  obtain ⟨a, ha, hd⟩ := h H enc base sp held n cs hl fun fd hfd => by
    obtain ⟨i, hi⟩ := List.getElem?_of_mem hfd
    have hi' : fs[i]? = some fd := by simpa using hi
    rw [hf i fd hi', List.getElem?_eq_getElem (by rw [hxl]; exact (Array.getElem?_eq_some_iff.1 hi').1)]
    exact ⟨_, rfl⟩
  exact ⟨a, ha, fun B => by simpa using hd B⟩
/-- an argument that is a slice -/
theorem Reads.argS {H : Type} {enc : TypeId × Value → H} {base : Nat} {sp : Nat → Bool} {held : Bool} {v : Value} {d : DataW H} {p : List MemPlace} {α : Type} {g : α → AV} {ok : α → Prop} (h : Reads P W t (fun a => [g a]) ok)
    (ht : P.underlying t = some (.slice e)) (hv : ∃ a len cap, v = .slice a len cap) (hd : DataW.Trod enc P W base sp held t v d p) : ∃ a, ok a ∧ ∀ B, Den (fun a => W.cell? a) B (g a) v := by
  obtain ⟨fuel, hf⟩ := hd
  obtain ⟨a, ha, hD⟩ := h _ _ _ _ _ _ _ _ hf
  refine ⟨a, ha, fun B => ?_⟩
  obtain ⟨x, len, cap, rfl⟩ := hv
  have := hD B
  simp only [DenL] at this
  obtain ⟨u, s, e1, h1, rfl⟩ := this
  have e2 : (Value.slice x len cap).cells.toList = [.slice x len cap] := by simp [Value.cells]
  rw [e2] at e1
  cases e1
  exact h1
/-- an argument that is a struct -/
theorem Reads.argT {H : Type} {enc : TypeId × Value → H} {base : Nat} {sp : Nat → Bool} {held : Bool} {v : Value} {d : DataW H} {p : List MemPlace} {α : Type} {f : α → List AV} {ok : α → Prop} (h : Reads P W t f ok)
    (hv : ∃ cs, v = .agg cs) (hd : DataW.Trod enc P W base sp held t v d p) : ∃ a, ok a ∧ ∀ B, Den (fun a => W.cell? a) B (.agg (f a)) v := by
  obtain ⟨fuel, hf⟩ := hd
  obtain ⟨a, ha, hD⟩ := h _ _ _ _ _ _ _ _ hf
  refine ⟨a, ha, fun B => ?_⟩
  obtain ⟨cs, rfl⟩ := hv
  simp only [Den]
  have := hD B
  refine ⟨cs.toList, by simp, ?_⟩
  have e2 : (Value.agg cs).cells.toList = cs.toList := by simp [Value.cells]
  rw [e2] at this
  exact this
end
end Go.Eng
end
section
/- The engine, part 35: the walk's equations, as the set that the kit's word go_sem names, for short texts. -/
namespace Go.Eng
open Go
/-! a load, by what is loaded from: a place that isn't known yet stays as it is -/
theorem loadx_ptr (P : Program) (rd : Nat → Bool) (m : Mem) (ty : TypeId) (n off : Nat) (k : AV → Prop) : loadx P rd m ty (.ptr n off) k = (match look m n with
    | some (.cells l _) => rd n = true ∧ known P ty = true ∧ pickx (aggT P ty) P ty l off k
    | some (.fz l _) => rd n = true ∧ known P ty = true ∧ pickx (aggT P ty) P ty l off k
    | _ => False) := rfl
theorem loadx_rop (P : Program) (rd : Nat → Bool) (m : Mem) (ty : TypeId) (xs : List AV) (k : AV → Prop) : loadx P rd m ty (.rop xs) k = (known P ty = true ∧ pickx (aggT P ty) P ty xs 0 k) := rfl
attribute [go_sem] isZ_two appq_true appq_false opx_invoke invx_iface Option.isSome_none renA renL renM renO evx evs evp Eng.look cst cst1 putd dstOk params loadx_ptr loadx_rop partx loI hiI bltx mmI boxx srcx calx nilx upd del resv fillA setMany if_true if_false ite_true ite_false eq_self forall_const implies_true ne_eq beq_self_eq_true bne_self_eq_false wrD engS0 engS1 engS2 engS3 engS4 engS5 engS6 engS7 engS8 engS9 engU0 engT0 engT1 engT2
end Go.Eng
end
section
/- Numbers of a variable length: Put, for the engine. -/
set_option linter.unusedVariables false
set_option linter.unusedSimpArgs false
set_option maxRecDepth 100000
namespace Go.Proofs.Ytmdeoikpiiambaa
open Go Go.Eng

def putX (m : BitVec 64) : List (BitVec 8) := (digs 10 m).map byD
theorem putX_ne (m : BitVec 64) : putX m ≠ [] := by
  rw [putX, digs]
  split <;> simp
theorem denVals (H : RO) (B : Names) : ∀ (X : List (BitVec 8)), DenL H B (bvs .u8 X) (X.map valB)
  | [] => by rw [bvs_nil]; simp only [List.map_nil, DenL]
  | q :: r => by
    rw [bvs_cons, List.map_cons]
    simp only [DenL, Den]
    exact ⟨_, _, rfl, rfl, denVals H B r⟩
theorem denV (H : RO) (B : Names) : ∀ (sp : List Value), DenL H B (sp.map AV.val) sp
  | [] => by simp only [List.map_nil, DenL]
  | q :: r => by
    rw [List.map_cons]
    simp only [DenL, Den]
    exact ⟨_, _, rfl, rfl, denV H B r⟩
theorem vputOk (m : BitVec 64) (hm : m.toNat < 9223372036854775808) : CallG false Try.prog 86 [.int .u64 (m.toNat : Int)] (fun _ => true) [] 0 fun v m' nx =>
    ∃ (cap : Nat) (sp : List Value), (putX m).length + sp.length = cap ∧ cap ≤ maxI ∧ v = .tup [.sl 0 0 (putX m).length cap, .int .i64 0] ∧ m' = [(0, rowO (putX m) sp)] ∧ nx = 1 := by
  intro w0 FP H B w vs hi hd
  simp only [DenL, Den] at hd
  obtain ⟨v0, s0, rfl, rfl, rfl⟩ := hd
  refine (callsIn_wide.1 (put_in Fence.wide 3 trivial trivial trivial rfl (by decide) m hm w)).mono ?_
  rintro e W' ⟨v, rfl, hrow, hnil, hB⟩
  obtain ⟨hl, ⟨rfl, h0⟩ | ⟨g, cap, cur, rfl, hg, hgb, hnc, hcm, hcs, htk⟩⟩ := hrow
  · exact absurd (show putX m = [] by rw [putX, hnil.1 rfl]; rfl) (putX_ne m)
  have hlen : (putX m).length = (digs 10 m).length := by rw [putX, List.length_map]
  rw [Nat.mul_one] at hcs htk
  obtain ⟨sp, hsp⟩ : ∃ sp, sp = cur.toList.drop (putX m).length := ⟨_, rfl⟩
  have hcl : cur.toList = (putX m).map valB ++ sp := by
    rw [hsp]
    conv => lhs; rw [← List.take_append_drop (putX m).length cur.toList]
    rw [hlen, htk, putX, List.map_map]; rfl
  have hsl : (putX m).length + sp.length = cap := by
    have := congrArg List.length hcl
    rw [List.length_append, List.length_map, Array.length_toList, hcs] at this
    exact this.symm
  have hgl : g < W'.heap.size := (Array.getElem?_eq_some_iff.1 hgb).1
  have hmx : maxLen ≤ maxI := by decide
  have hnd : ∀ n b, B n ≠ some b := fun n b e => by rw [hi.fresh n (Nat.zero_le _)] at e; cases e
  refine ⟨_, .tup [.sl 0 0 (putX m).length cap, .int .i64 0], [(0, rowO (putX m) sp)], 1, fun n => if n = 0 then some g else none, H, rfl, fun _ => rfl, ⟨Nat.le_trans hi.size hB.size, hB.os.trans hi.os, hB.tape.trans hi.tape, hB.output.trans hi.out, fun b hb hf => (hB.block b (Nat.lt_of_lt_of_le hb hi.size)).trans (hi.frame b hb hf), fun a u e => ?_, fun n o hn => ?_, fun n n' o o' hn hn' _ => ?_, fun n hn => if_neg (by omega), fun _ _ => rfl, fun n e => by cases e⟩,
    ⟨fun _ _ e => e, fun n b e => absurd e (hnd n b)⟩, ?_, cap, sp, hsl, Nat.le_trans hcm hmx, rfl, rfl, rfl⟩
  · obtain ⟨g1, _⟩ := hi.ro a u e
    have hlt := block_lt_of_cell g1
    refine ⟨(World.cell?_of_block (w := w) (hB.block _ hlt)).trans g1, fun n o hn hbn => ?_⟩
    split at hbn
    · cases hbn; omega
    · cases hbn
  · rw [look_cons] at hn
    split at hn
    · rename_i h0
      subst h0
      cases hn
      refine ⟨g, if_pos rfl, ⟨cur.toList, by rw [hgb], ?_⟩, hgl, fun _ => .inr (Nat.le_trans hi.size hg), fun e => by cases e⟩
      rw [hcl]
      exact (denVals _ _ _).append (denV _ _ sp)
    · cases hn
  · rw [look_cons] at hn hn'
    split at hn
    · split at hn'
      · omega
      · cases hn'
    · cases hn
  · simp only [Den, DenL]
    exact ⟨[.slice (some ⟨g, 0, none⟩) (putX m).length cap, .int .i64 0], by rw [hlen], _, _, rfl, ⟨g, ⟨g, 0, none⟩, rfl, rfl, by rw [hlen]; exact hnc, fun _ => rfl⟩, _, _, rfl, rfl, rfl⟩
end Go.Proofs.Ytmdeoikpiiambaa
end
section
/- Numbers of a variable length: the document's Put, and what can't be put. -/
set_option linter.unusedVariables false
set_option linter.unusedSimpArgs false
set_option maxRecDepth 100000
namespace Go.Proofs.Ytmdeoikpiiambaa
open Go Go.Eng

theorem vputBig (m : BitVec 64) (hm : 9223372036854775808 ≤ m.toNat) : CallG false Try.prog 86 [.int .u64 (m.toNat : Int)] (fun _ => true) [] 0 fun v m' nx => v = .tup [.nils, .int .i64 1] ∧ m' = [] ∧ nx = 0 := by
  refine fn_okG Try.func86 rfl (by show 1 ≤ _; decide) ?_
  have e1 : decide ((m.toNat : Int) > 9223372036854775807) = true := by simp; omega
  simp (maxSteps := 1000000) -implicitDefEqProofs only [go_sem, Nat.reduceBEq, Nat.reduceLT, Nat.reduceLeDiff, Nat.reduceEqDiff, Nat.reduceAdd, Nat.reduceMul, Nat.reduceSub, reduceIte, reduceCtorEq, Int.reduceLT, Int.reduceLE, Int.reduceToNat, Int.reduceAdd, Int.reduceSub, Int.reduceNeg, Int.reduceEq, Int.reduceNe, Int.reduceBEq, Int.reduceBNe, BitVec.reduceBEq, BitVec.reduceBNe, BitVec.reduceOfInt, BitVec.reduceSetWidth, -List.reduceReplicate, Try.results86, Try.ntmps86, e1]
  exact Fin.flatv (fun _ => rfl) (fun f => rfl) ⟨rfl, rfl, rfl⟩
def rput : Nat → BitVec 64 → List (BitVec 8)
  | 0, m => []
  | f + 1, m => if m.toNat < 128 then [m.setWidth 8] else (m % 128#64 + 128#64).setWidth 8 :: rput f (m / 128#64)
theorem rput_len : ∀ (f : Nat) (m : BitVec 64), (rput f m).length ≤ f
  | 0, m => Nat.le_refl _
  | f + 1, m => by
    rw [rput]
    split
    · simp
    · have := rput_len f (m / 128#64); simp only [List.length_cons]; omega
theorem rput_eq : ∀ (f : Nat) (m : BitVec 64), rput f m = (digs f m).map byD
  | 0, m => rfl
  | f + 1, m => by
    rw [rput, digs]
    rcases Nat.lt_or_ge m.toNat 128 with h | h
    · rw [if_pos h, if_neg (by omega)]; rfl
    · rw [if_neg (by omega), if_pos h, List.map_cons, ← rput_eq f (m >>> 7)]
      have e1 : m / 128#64 = m >>> 7 := by
        refine BitVec.eq_of_toNat_eq ?_
        rw [BitVec.toNat_udiv, BitVec.toNat_ushiftRight, Nat.shiftRight_eq_div_pow]; rfl
      have e2 : (m % 128#64 + 128#64).setWidth 8 = byD ((m % 128#64).setWidth 8, true) := by
        show _ = (m % 128#64).setWidth 8 ||| 128#8
        refine BitVec.eq_of_toNat_eq ?_
        have hlt : ((m % 128#64).setWidth 8).toNat < 2 ^ 7 := by
          rw [BitVec.toNat_setWidth, BitVec.toNat_umod]; show m.toNat % 128 % 256 < 128; omega
        rw [BitVec.toNat_or, Nat.or_comm, show (128#8).toNat = 2 ^ 7 * 1 from rfl, ← Nat.two_pow_add_eq_or_of_lt hlt, BitVec.toNat_setWidth, BitVec.toNat_add, BitVec.toNat_umod, BitVec.toNat_setWidth, BitVec.toNat_umod]
        show (m.toNat % 128 + 128) % 2 ^ 64 % 256 = 2 ^ 7 * 1 + m.toNat % 128 % 256
        omega
      rw [e1, e2]
def RputK (X : List (BitVec 8)) : Kv := fun v m' nx => ∃ (cap : Nat) (sp : List Value), X.length + sp.length = cap ∧ cap ≤ maxI ∧ v = .sl 0 0 X.length cap ∧ m' = [(0, rowO X sp)] ∧ nx = 1
set_option maxHeartbeats 1000000 in
theorem rputOk : ∀ (f : Nat) (m : BitVec 64), f ≤ 20 → 1 ≤ f → m.toNat < 128 ^ f → CallG false Try.prog 91 [.int .u64 (m.toNat : Int)] (fun _ => true) [] 0 (RputK (rput f m))
  | 0, m, _, h, _ => by omega
  | f + 1, m, hf, _, hm => by
    refine fn_okG Try.func91 rfl (by show 1 ≤ _; decide) ?_
    rcases Nat.lt_or_ge m.toNat 128 with h | h
    · have e1 : decide ((m.toNat : Int) < 128) = true := by simp; omega
      have hr : rput (f + 1) m = [m.setWidth 8] := by rw [rput, if_pos h]
      simp (maxSteps := 1000000) -implicitDefEqProofs only [go_sem, Nat.reduceBEq, Nat.reduceLT, Nat.reduceLeDiff, Nat.reduceEqDiff, Nat.reduceAdd, Nat.reduceMul, Nat.reduceSub, reduceIte, reduceCtorEq, Int.reduceLT, Int.reduceLE, Int.reduceToNat, Int.reduceAdd, Int.reduceSub, Int.reduceNeg, Int.reduceEq, Int.reduceNe, Int.reduceBEq, Int.reduceBNe, BitVec.reduceBEq, BitVec.reduceBNe, BitVec.reduceOfInt, BitVec.reduceSetWidth, -List.reduceReplicate, Try.results91, Try.ntmps91, e1]
      refine ⟨.inr trivial, ?_⟩
      rw [hr]
      exact Fin.keep (m0 := [(0, rowO [m.setWidth 8] [])]) (by decide) ⟨rfl, trivial⟩ (by simp) ⟨1, [], rfl, by decide, rfl, rfl, rfl⟩
    · have e1 : decide ((m.toNat : Int) < 128) = false := by simp; omega
      have hr : rput (f + 1) m = (m % 128#64 + 128#64).setWidth 8 :: rput f (m / 128#64) := by rw [rput, if_neg (by omega)]
      simp (maxSteps := 1000000) -implicitDefEqProofs only [go_sem, Nat.reduceBEq, Nat.reduceLT, Nat.reduceLeDiff, Nat.reduceEqDiff, Nat.reduceAdd, Nat.reduceMul, Nat.reduceSub, reduceIte, reduceCtorEq, Int.reduceLT, Int.reduceLE, Int.reduceToNat, Int.reduceAdd, Int.reduceSub, Int.reduceNeg, Int.reduceEq, Int.reduceNe, Int.reduceBEq, Int.reduceBNe, BitVec.reduceBEq, BitVec.reduceBNe, BitVec.reduceOfInt, BitVec.reduceSetWidth, -List.reduceReplicate, Try.results91, Try.ntmps91, e1]
      have hf1 : 1 ≤ f := by
        rcases Nat.eq_zero_or_pos f with h0 | h0
        · subst h0; omega
        · exact h0
      have hlt : (m / 128#64).toNat < 128 ^ f := by
        rw [BitVec.toNat_udiv]
        rw [Nat.pow_succ] at hm
        exact Nat.div_lt_of_lt_mul (by rw [Nat.mul_comm]; exact hm)
      have hl := rput_len f (m / 128#64)
      refine ⟨.inr trivial, ?_⟩
      refine (rputOk f (m / 128#64) (by omega) hf1 hlt).newE rfl ?_
      rintro v m' nx' ⟨cap, sp, c1, c2, rfl, rfl, rfl⟩
      simp only [renM, rowO_ren, renA]
      rw [hr]
      generalize rput f (m / 128#64) = X at *
      simp (maxSteps := 1000000) -implicitDefEqProofs only [go_sem, Nat.reduceBEq, Nat.reduceLT, Nat.reduceLeDiff, Nat.reduceEqDiff, Nat.reduceAdd, Nat.reduceMul, Nat.reduceSub, reduceIte, reduceCtorEq, Int.reduceLT, Int.reduceLE, Int.reduceToNat, Int.reduceAdd, Int.reduceSub, Int.reduceNeg, Int.reduceEq, Int.reduceNe, Int.reduceBEq, Int.reduceBNe, BitVec.reduceBEq, BitVec.reduceBNe, BitVec.reduceOfInt, BitVec.reduceSetWidth, -List.reduceReplicate, rowO]
      refine ⟨by rw [takeA', bvs_length], by rw [takeA']; exact one1_bvs _ _, ?_⟩
      rw [takeA']
      refine appk_bvs (k := .u8) (x := [(m % 128#64 + 128#64).setWidth 8]) (y := X) (sp := []) (cap := 1) rfl rfl rfl (by decide) (by decide) (by rw [List.length_singleton]; omega) ?_
      intro cap1 sp1 d1 d2
      simp (maxSteps := 1000000) -implicitDefEqProofs only [go_sem, Nat.reduceBEq, Nat.reduceLT, Nat.reduceLeDiff, Nat.reduceEqDiff, Nat.reduceAdd, Nat.reduceMul, Nat.reduceSub, reduceIte, reduceCtorEq, Int.reduceLT, Int.reduceLE, Int.reduceToNat, Int.reduceAdd, Int.reduceSub, Int.reduceNeg, Int.reduceEq, Int.reduceNe, Int.reduceBEq, Int.reduceBNe, BitVec.reduceBEq, BitVec.reduceBNe, BitVec.reduceOfInt, BitVec.reduceSetWidth, -List.reduceReplicate]
      exact ⟨[(0, 2)], .sl 0 0 ((m % 128#64 + 128#64).setWidth 8 :: X).length cap1, [(0, rowO ((m % 128#64 + 128#64).setWidth 8 :: X) sp1)], 1, ⟨rfl, by decide⟩, rfl, ⟨by rw [rowO_ren]; rfl, rfl, trivial⟩, by simp [injOn], (fun n e => by cases e), cap1, sp1, d1, d2, rfl, rfl, rfl⟩
end Go.Proofs.Ytmdeoikpiiambaa
end
section
/- Numbers of a variable length: Get. -/
set_option linter.unusedVariables false
set_option linter.unusedSimpArgs false
set_option maxRecDepth 100000
namespace Go.Proofs.Ytmdeoikpiiambaa
open Go Go.Eng

/-- what has been got of the first i bytes -/
def gN (b : List (BitVec 8)) : Nat → BitVec 64
  | 0 => 0#64
  | i + 1 => gN b i ||| ((b.getD i 0 % 128#8).setWidth 64 <<< (7 * i))
/-- the answer, from byte i on, f more at most -/
def gRes (b : List (BitVec 8)) : Nat → Nat → BitVec 64 × Int × Int
  | 0, i => (0#64, 0, 6)
  | f + 1, i => if b.length ≤ i then (0#64, 0, 2) else if (b.getD i 0).toNat < 128 ∧ (0 < (b.getD i 0).toNat ∨ i = 0) then (gN b (i + 1), (i : Int) + 1, 0)
    else if (b.getD i 0).toNat < 128 ∨ i = 8 then (0#64, 0, 6) else gRes b f (i + 1)
def gRet (r : BitVec 64 × Int × Int) : AV := .tup [.int .u64 (r.1.toNat : Int), .int .i64 r.2.1, .int .i64 r.2.2]
set_option maxHeartbeats 1000000 in
theorem vgetOk (b : List (BitVec 8)) (hb : b.length ≤ 1000000) : CallG false Try.prog 142 [.ro b.length (bvs .u8 b)] (fun _ => true) [] 0 fun v m nx => v = gRet (gRes b 9 0) ∧ m = [] ∧ nx = 0 := by
  refine fn_okG Try.func142 rfl (by show 1 ≤ _; decide) ?_
  simp (maxSteps := 1000000) -implicitDefEqProofs only [go_sem, Nat.reduceBEq, Nat.reduceLT, Nat.reduceLeDiff, Nat.reduceEqDiff, Nat.reduceAdd, Nat.reduceMul, Nat.reduceSub, reduceIte, reduceCtorEq, Int.reduceLT, Int.reduceLE, Int.reduceToNat, Int.reduceAdd, Int.reduceSub, Int.reduceNeg, Int.reduceEq, Int.reduceNe, Int.reduceBEq, Int.reduceBNe, BitVec.reduceBEq, BitVec.reduceBNe, BitVec.reduceOfInt, BitVec.reduceSetWidth, -List.reduceReplicate, Try.results142, Try.ntmps142]
  have fin : ∀ {m : Mem} {nx : Nat} {r : BitVec 64 × Int × Int}, r = gRes b 9 0 → Eng.Fin 0 (fun _ => true) m nx (fun v m nx => v = gRet (gRes b 9 0) ∧ m = [] ∧ nx = 0) (gRet r) := fun e => Fin.flatv (fun _ => rfl) (fun _ => rfl) ⟨by rw [e], rfl, rfl⟩
  refine LoopOk.upX (fun i (_ : Unit) => i ≤ b.length ∧ i ≤ 8 ∧ gRes b (9 - i) i = gRes b 9 0) 9 (fun i _ => ([(10, .int .i64 i), (9, .int .i64 b.length), (8, .ro b.length (bvs .u8 b)), (5, .int .u64 ((gN b i).toNat : Int))], [], 0)) () ⟨Nat.zero_le _, by decide, rfl⟩ ?_ ?_
  · exact Le.sameT (by decide) ⟨rfl, rfl, rfl, rfl, trivial⟩ trivial (by show ([] : List Nat).Nodup; exact List.nodup_nil)
  rintro i _ ⟨hi, hl, h8, hg⟩
  rcases Nat.lt_or_ge i b.length with h | h
  · have g1 : decide ((i : Int) < (b.length : Int)) = true := by simp; omega
    have w7 : IntKind.i64.wrap (7 * (i : Int)) = ((7 * i : Nat) : Int) := by rw [wrap_i64] <;> omega
    have wi : IntKind.i64.wrap ((i : Int) + 1) = ((i + 1 : Nat) : Int) := by rw [wrap_i64] <;> omega
    have hst : gRes b (9 - i) i = if (b.getD i 0).toNat < 128 ∧ (0 < (b.getD i 0).toNat ∨ i = 0) then (gN b (i + 1), (i : Int) + 1, 0) else if (b.getD i 0).toNat < 128 ∨ i = 8 then (0#64, 0, 6) else gRes b (8 - i) (i + 1) := by
      rw [show 9 - i = (8 - i) + 1 by omega, gRes, if_neg (by omega)]
    have hgn : gN b (i + 1) = gN b i ||| ((b.getD i 0 % 128#8).setWidth 64 <<< (7 * i)) := rfl
    rw [hst] at hg
    rcases Nat.lt_or_ge (b.getD i 0).toNat 128 with hx | hx
    · have f1 : decide (((b.getD i 0).toNat : Int) < 128) = true := decide_eq_true (by omega)
      rcases Nat.eq_zero_or_pos (b.getD i 0).toNat with h0 | h0
      · have f2 : decide (((b.getD i 0).toNat : Int) > 0) = false := decide_eq_false (by omega)
        rcases Nat.eq_zero_or_pos i with hi0 | hi0
        · have f3 : ((i : Int) == 0) = true := by simp; omega
          rw [if_pos ⟨hx, .inr hi0⟩] at hg
          simp (maxSteps := 1000000) -implicitDefEqProofs only [go_sem, Nat.reduceBEq, Nat.reduceLT, Nat.reduceLeDiff, Nat.reduceEqDiff, Nat.reduceAdd, Nat.reduceMul, Nat.reduceSub, reduceIte, reduceCtorEq, Int.reduceLT, Int.reduceLE, Int.reduceToNat, Int.reduceAdd, Int.reduceSub, Int.reduceNeg, Int.reduceEq, Int.reduceNe, Int.reduceBEq, Int.reduceBNe, BitVec.reduceBEq, BitVec.reduceBNe, BitVec.reduceOfInt, BitVec.reduceSetWidth, -List.reduceReplicate, g1, f1, f2, f3, w7, wi]
          refine ⟨by omega, h, by rw [List.length_drop]; omega, ?_⟩
          exact fin (r := (gN b (i + 1), ((i + 1 : Nat) : Int), 0)) hg
        · have f3 : ((i : Int) == 0) = false := by simp; omega
          rw [if_neg (by omega), if_pos (.inl hx)] at hg
          simp (maxSteps := 1000000) -implicitDefEqProofs only [go_sem, Nat.reduceBEq, Nat.reduceLT, Nat.reduceLeDiff, Nat.reduceEqDiff, Nat.reduceAdd, Nat.reduceMul, Nat.reduceSub, reduceIte, reduceCtorEq, Int.reduceLT, Int.reduceLE, Int.reduceToNat, Int.reduceAdd, Int.reduceSub, Int.reduceNeg, Int.reduceEq, Int.reduceNe, Int.reduceBEq, Int.reduceBNe, BitVec.reduceBEq, BitVec.reduceBNe, BitVec.reduceOfInt, BitVec.reduceSetWidth, -List.reduceReplicate, g1, f1, f2, f3, w7, wi]
          refine ⟨by omega, h, by rw [List.length_drop]; omega, ?_⟩
          exact fin (r := (0#64, 0, 6)) hg
      · have f2 : decide (((b.getD i 0).toNat : Int) > 0) = true := decide_eq_true (by omega)
        rw [if_pos ⟨hx, .inl h0⟩] at hg
        simp (maxSteps := 1000000) -implicitDefEqProofs only [go_sem, Nat.reduceBEq, Nat.reduceLT, Nat.reduceLeDiff, Nat.reduceEqDiff, Nat.reduceAdd, Nat.reduceMul, Nat.reduceSub, reduceIte, reduceCtorEq, Int.reduceLT, Int.reduceLE, Int.reduceToNat, Int.reduceAdd, Int.reduceSub, Int.reduceNeg, Int.reduceEq, Int.reduceNe, Int.reduceBEq, Int.reduceBNe, BitVec.reduceBEq, BitVec.reduceBNe, BitVec.reduceOfInt, BitVec.reduceSetWidth, -List.reduceReplicate, g1, f1, f2, w7, wi]
        refine ⟨by omega, h, by rw [List.length_drop]; omega, ?_⟩
        exact fin (r := (gN b (i + 1), ((i + 1 : Nat) : Int), 0)) hg
    · have f1 : decide (((b.getD i 0).toNat : Int) < 128) = false := decide_eq_false (by omega)
      rcases Nat.lt_or_ge i 8 with h9 | h9
      · have f4 : (((i + 1 : Nat) : Int) == 9) = false := by simp; omega
        rw [if_neg (by omega), if_neg (by omega)] at hg
        simp (maxSteps := 1000000) -implicitDefEqProofs only [go_sem, Nat.reduceBEq, Nat.reduceLT, Nat.reduceLeDiff, Nat.reduceEqDiff, Nat.reduceAdd, Nat.reduceMul, Nat.reduceSub, reduceIte, reduceCtorEq, Int.reduceLT, Int.reduceLE, Int.reduceToNat, Int.reduceAdd, Int.reduceSub, Int.reduceNeg, Int.reduceEq, Int.reduceNe, Int.reduceBEq, Int.reduceBNe, BitVec.reduceBEq, BitVec.reduceBNe, BitVec.reduceOfInt, BitVec.reduceSetWidth, -List.reduceReplicate, g1, f1, f4, w7, wi]
        refine ⟨by omega, h, by rw [List.length_drop]; omega, ?_⟩
        refine UpX_normal (by omega) () ⟨by omega, by omega, by rw [show 9 - (i + 1) = 8 - i by omega]; exact hg⟩ ?_
        exact Le.sameT (by decide) ⟨rfl, rfl, rfl, rfl, trivial⟩ trivial (by show ([] : List Nat).Nodup; exact List.nodup_nil)
      · have f4 : (((i + 1 : Nat) : Int) == 9) = true := by simp; omega
        rw [if_neg (by omega), if_pos (.inr (by omega))] at hg
        simp (maxSteps := 1000000) -implicitDefEqProofs only [go_sem, Nat.reduceBEq, Nat.reduceLT, Nat.reduceLeDiff, Nat.reduceEqDiff, Nat.reduceAdd, Nat.reduceMul, Nat.reduceSub, reduceIte, reduceCtorEq, Int.reduceLT, Int.reduceLE, Int.reduceToNat, Int.reduceAdd, Int.reduceSub, Int.reduceNeg, Int.reduceEq, Int.reduceNe, Int.reduceBEq, Int.reduceBNe, BitVec.reduceBEq, BitVec.reduceBNe, BitVec.reduceOfInt, BitVec.reduceSetWidth, -List.reduceReplicate, g1, f1, f4, w7, wi]
        refine ⟨by omega, h, by rw [List.length_drop]; omega, ?_⟩
        exact fin (r := (0#64, 0, 6)) hg
  · have g1 : decide ((i : Int) < (b.length : Int)) = false := by simp; omega
    have hr : gRes b (9 - i) i = (0#64, 0, 2) := by rw [show 9 - i = (8 - i) + 1 by omega, gRes, if_pos h]
    simp (maxSteps := 1000000) -implicitDefEqProofs only [go_sem, Nat.reduceBEq, Nat.reduceLT, Nat.reduceLeDiff, Nat.reduceEqDiff, Nat.reduceAdd, Nat.reduceMul, Nat.reduceSub, reduceIte, reduceCtorEq, Int.reduceLT, Int.reduceLE, Int.reduceToNat, Int.reduceAdd, Int.reduceSub, Int.reduceNeg, Int.reduceEq, Int.reduceNe, Int.reduceBEq, Int.reduceBNe, BitVec.reduceBEq, BitVec.reduceBNe, BitVec.reduceOfInt, BitVec.reduceSetWidth, -List.reduceReplicate, g1]
    exact fin (r := (0#64, 0, 2)) (hr.symm.trans hg)
end Go.Proofs.Ytmdeoikpiiambaa
end
section
/- Numbers of a variable length: the document's Get. -/
set_option linter.unusedVariables false
set_option linter.unusedSimpArgs false
set_option maxRecDepth 100000
namespace Go.Proofs.Ytmdeoikpiiambaa
open Go Go.Eng

def pW : Nat → BitVec 64
  | 0 => 1#64
  | i + 1 => pW i * 128#64
theorem pW_nat : ∀ i, i ≤ 9 → (pW i).toNat = 128 ^ i
  | 0, _ => rfl
  | i + 1, h => by
    have ih := pW_nat i (by omega)
    have : 128 ^ i * 128 < 2 ^ 64 := by
      have : (128 : Nat) ^ (i + 1) ≤ 128 ^ 9 := Nat.pow_le_pow_right (by decide) h
      rw [Nat.pow_succ] at this
      exact Nat.lt_of_le_of_lt this (by decide)
    rw [pW, BitVec.toNat_mul, ih, show (128#64).toNat = 128 from rfl, Nat.mod_eq_of_lt this, Nat.pow_succ]
theorem gN_nat (b : List (BitVec 8)) : ∀ i, i ≤ 9 → (gN b i).toNat < 128 ^ i ∧ (i ≤ 8 → (gN b (i + 1)).toNat = (gN b i).toNat + (b.getD i 0).toNat % 128 * 128 ^ i)
  | i, hi => by
    have hlt : (gN b i).toNat < 128 ^ i := by
      cases i with
      | zero => show 0 < 1; decide
      | succ j =>
        obtain ⟨h1, h2⟩ := gN_nat b j (by omega)
        have h3 := h2 (by omega)
        have h4 : (b.getD j 0).toNat % 128 ≤ 127 := by omega
        have h5 := Nat.mul_le_mul_right (128 ^ j) h4
        rw [h3, Nat.pow_succ]
        omega
    refine ⟨hlt, fun h8 => ?_⟩
    have hp : (128 : Nat) ^ i = 2 ^ (7 * i) := by rw [Nat.pow_mul]
    have hx : ((b.getD i 0 % 128#8).setWidth 64).toNat = (b.getD i 0).toNat % 128 := by
      rw [BitVec.toNat_setWidth, BitVec.toNat_umod]; show (b.getD i 0).toNat % 128 % 2 ^ 64 = _; omega
    have hs : ((b.getD i 0 % 128#8).setWidth 64 <<< (7 * i)).toNat = 2 ^ (7 * i) * ((b.getD i 0).toNat % 128) := by
      rw [BitVec.toNat_shiftLeft, hx, Nat.shiftLeft_eq, Nat.mul_comm]
      refine Nat.mod_eq_of_lt ?_
      have h1 : 2 ^ (7 * i) ≤ 2 ^ 56 := Nat.pow_le_pow_right (by decide) (by omega)
      have h2 : (b.getD i 0).toNat % 128 ≤ 127 := by omega
      have h3 := Nat.mul_le_mul h1 h2
      exact Nat.lt_of_le_of_lt h3 (by decide)
    rw [gN, BitVec.toNat_or, hs, Nat.or_comm, ← Nat.two_pow_add_eq_or_of_lt (by rw [← hp]; exact hlt), hp, Nat.mul_comm]
    omega
theorem gN_add (b : List (BitVec 8)) (i : Nat) (hi : i ≤ 8) : gN b i + (b.getD i 0 % 128#8).setWidth 64 * pW i = gN b (i + 1) := by
  refine BitVec.eq_of_toNat_eq ?_
  obtain ⟨h1, h2⟩ := gN_nat b i (by omega)
  have h3 := (gN b (i + 1)).isLt
  rw [h2 hi] at h3 ⊢
  have hx : ((b.getD i 0 % 128#8).setWidth 64).toNat = (b.getD i 0).toNat % 128 := by
    rw [BitVec.toNat_setWidth, BitVec.toNat_umod]; show (b.getD i 0).toNat % 128 % 2 ^ 64 = _; omega
  rw [BitVec.toNat_add, BitVec.toNat_mul, hx, pW_nat i (by omega)]
  rw [Nat.mod_eq_of_lt (a := (b.getD i 0).toNat % 128 * 128 ^ i) (by omega), Nat.mod_eq_of_lt h3]
set_option maxHeartbeats 1000000 in
theorem rgetOk (b : List (BitVec 8)) (hb : b.length ≤ 1000000) : CallG false Try.prog 143 [.ro b.length (bvs .u8 b)] (fun _ => true) [] 0 fun v m nx => v = gRet (gRes b 9 0) ∧ m = [] ∧ nx = 0 := by
  refine fn_okG Try.func143 rfl (by show 1 ≤ _; decide) ?_
  simp (maxSteps := 1000000) -implicitDefEqProofs only [go_sem, Nat.reduceBEq, Nat.reduceLT, Nat.reduceLeDiff, Nat.reduceEqDiff, Nat.reduceAdd, Nat.reduceMul, Nat.reduceSub, reduceIte, reduceCtorEq, Int.reduceLT, Int.reduceLE, Int.reduceToNat, Int.reduceAdd, Int.reduceSub, Int.reduceNeg, Int.reduceEq, Int.reduceNe, Int.reduceBEq, Int.reduceBNe, BitVec.reduceBEq, BitVec.reduceBNe, BitVec.reduceOfInt, BitVec.reduceSetWidth, -List.reduceReplicate, Try.results143, Try.ntmps143]
  have fin : ∀ {m : Mem} {nx : Nat} {r : BitVec 64 × Int × Int}, r = gRes b 9 0 → Eng.Fin 0 (fun _ => true) m nx (fun v m nx => v = gRet (gRes b 9 0) ∧ m = [] ∧ nx = 0) (gRet r) := fun e => Fin.flatv (fun _ => rfl) (fun _ => rfl) ⟨by rw [e], rfl, rfl⟩
  refine LoopOk.upX (fun i (_ : Unit) => i ≤ b.length ∧ gRes b (9 - i) i = gRes b 9 0) 9 (fun i _ => ([(7, .int .i64 i), (6, .int .u64 ((pW i).toNat : Int)), (5, .int .u64 ((gN b i).toNat : Int)), (0, .ro b.length (bvs .u8 b))], [], 0)) () ⟨Nat.zero_le _, rfl⟩ ?_ ?_
  · exact Le.sameT (by decide) ⟨rfl, rfl, rfl, rfl, trivial⟩ trivial (by show ([] : List Nat).Nodup; exact List.nodup_nil)
  rintro i _ ⟨hi, hl, hg⟩
  rcases Nat.lt_or_ge i 9 with h9 | h9
  · have g1 : decide ((i : Int) < 9) = true := by simp; omega
    rcases Nat.lt_or_ge i b.length with h | h
    · have g2 : decide ((i : Int) ≥ (b.length : Int)) = false := by simp; omega
      have hadd := gN_add b i (by omega)
      have wi : IntKind.i64.wrap ((i : Int) + 1) = ((i + 1 : Nat) : Int) := by rw [wrap_i64] <;> omega
      have hst : gRes b (9 - i) i = if (b.getD i 0).toNat < 128 ∧ (0 < (b.getD i 0).toNat ∨ i = 0) then (gN b (i + 1), (i : Int) + 1, 0) else if (b.getD i 0).toNat < 128 ∨ i = 8 then (0#64, 0, 6) else gRes b (8 - i) (i + 1) := by
        rw [show 9 - i = (8 - i) + 1 by omega, gRes, if_neg (by omega)]
      rw [hst] at hg
      rcases Nat.lt_or_ge (b.getD i 0).toNat 128 with hx | hx
      · have f1 : decide (((b.getD i 0).toNat : Int) ≥ 128) = false := decide_eq_false (by omega)
        rcases Decidable.em (b.getD i 0 = 0#8) with h0 | h0
        · have f2 : (b.getD i 0 == 0#8) = true := by rw [h0]; rfl
          have h0n : (b.getD i 0).toNat = 0 := by rw [h0]; rfl
          rcases Nat.eq_zero_or_pos i with hi0 | hi0
          · have f3 : decide ((i : Int) > 0) = false := decide_eq_false (by omega)
            rw [if_pos ⟨hx, .inr hi0⟩] at hg
            simp (maxSteps := 1000000) -implicitDefEqProofs only [go_sem, Nat.reduceBEq, Nat.reduceLT, Nat.reduceLeDiff, Nat.reduceEqDiff, Nat.reduceAdd, Nat.reduceMul, Nat.reduceSub, reduceIte, reduceCtorEq, Int.reduceLT, Int.reduceLE, Int.reduceToNat, Int.reduceAdd, Int.reduceSub, Int.reduceNeg, Int.reduceEq, Int.reduceNe, Int.reduceBEq, Int.reduceBNe, BitVec.reduceBEq, BitVec.reduceBNe, BitVec.reduceOfInt, BitVec.reduceSetWidth, -List.reduceReplicate, g1, g2, hadd, f1, f2, f3, wi]
            refine ⟨by omega, h, by rw [List.length_drop]; omega, by omega, h, by rw [List.length_drop]; omega, ?_⟩
            repeat (refine And.intro (by first | omega | (rw [List.length_drop]; omega)) ?_)
            exact fin (r := (gN b (i + 1), ((i + 1 : Nat) : Int), 0)) hg
          · have f3 : decide ((i : Int) > 0) = true := decide_eq_true (by omega)
            rw [if_neg (by omega), if_pos (.inl hx)] at hg
            simp (maxSteps := 1000000) -implicitDefEqProofs only [go_sem, Nat.reduceBEq, Nat.reduceLT, Nat.reduceLeDiff, Nat.reduceEqDiff, Nat.reduceAdd, Nat.reduceMul, Nat.reduceSub, reduceIte, reduceCtorEq, Int.reduceLT, Int.reduceLE, Int.reduceToNat, Int.reduceAdd, Int.reduceSub, Int.reduceNeg, Int.reduceEq, Int.reduceNe, Int.reduceBEq, Int.reduceBNe, BitVec.reduceBEq, BitVec.reduceBNe, BitVec.reduceOfInt, BitVec.reduceSetWidth, -List.reduceReplicate, g1, g2, hadd, f1, f2, f3, wi]
            refine ⟨by omega, h, by rw [List.length_drop]; omega, by omega, h, by rw [List.length_drop]; omega, ?_⟩
            repeat (refine And.intro (by first | omega | (rw [List.length_drop]; omega)) ?_)
            exact fin (r := (0#64, 0, 6)) hg
        · have f2 : (b.getD i 0 == 0#8) = false := by simpa using h0
          have h0n : 0 < (b.getD i 0).toNat := by
            rcases Nat.eq_zero_or_pos (b.getD i 0).toNat with h | h
            · exact absurd (BitVec.eq_of_toNat_eq h) h0
            · exact h
          rw [if_pos ⟨hx, .inl h0n⟩] at hg
          simp (maxSteps := 1000000) -implicitDefEqProofs only [go_sem, Nat.reduceBEq, Nat.reduceLT, Nat.reduceLeDiff, Nat.reduceEqDiff, Nat.reduceAdd, Nat.reduceMul, Nat.reduceSub, reduceIte, reduceCtorEq, Int.reduceLT, Int.reduceLE, Int.reduceToNat, Int.reduceAdd, Int.reduceSub, Int.reduceNeg, Int.reduceEq, Int.reduceNe, Int.reduceBEq, Int.reduceBNe, BitVec.reduceBEq, BitVec.reduceBNe, BitVec.reduceOfInt, BitVec.reduceSetWidth, -List.reduceReplicate, g1, g2, hadd, f1, f2, wi]
          refine ⟨by omega, h, by rw [List.length_drop]; omega, by omega, h, by rw [List.length_drop]; omega, ?_⟩
          repeat (refine And.intro (by first | omega | (rw [List.length_drop]; omega)) ?_)
          exact fin (r := (gN b (i + 1), ((i + 1 : Nat) : Int), 0)) hg
      · have f1 : decide (((b.getD i 0).toNat : Int) ≥ 128) = true := decide_eq_true (by omega)
        have hg2 : gRes b (9 - (i + 1)) (i + 1) = gRes b 9 0 := by
          rw [show 9 - (i + 1) = 8 - i by omega]
          rw [if_neg (by omega)] at hg
          rcases Nat.lt_or_ge i 8 with h8 | h8
          · rw [if_neg (by omega)] at hg; exact hg
          · rw [if_pos (.inr (by omega))] at hg
            rw [show 8 - i = 0 by omega]; exact hg
        have hp : pW i * 128#64 = pW (i + 1) := rfl
        simp (maxSteps := 1000000) -implicitDefEqProofs only [go_sem, Nat.reduceBEq, Nat.reduceLT, Nat.reduceLeDiff, Nat.reduceEqDiff, Nat.reduceAdd, Nat.reduceMul, Nat.reduceSub, reduceIte, reduceCtorEq, Int.reduceLT, Int.reduceLE, Int.reduceToNat, Int.reduceAdd, Int.reduceSub, Int.reduceNeg, Int.reduceEq, Int.reduceNe, Int.reduceBEq, Int.reduceBNe, BitVec.reduceBEq, BitVec.reduceBNe, BitVec.reduceOfInt, BitVec.reduceSetWidth, -List.reduceReplicate, g1, g2, hadd, f1, wi, hp]
        refine ⟨by omega, h, by rw [List.length_drop]; omega, by omega, h, by rw [List.length_drop]; omega, ?_⟩
        refine UpX_normal (by omega) () ⟨by omega, hg2⟩ ?_
        exact Le.sameT (by decide) ⟨rfl, rfl, rfl, rfl, trivial⟩ trivial (by show ([] : List Nat).Nodup; exact List.nodup_nil)
    · have g2 : decide ((i : Int) ≥ (b.length : Int)) = true := by simp; omega
      have hr : gRes b (9 - i) i = (0#64, 0, 2) := by rw [show 9 - i = (8 - i) + 1 by omega, gRes, if_pos h]
      simp (maxSteps := 1000000) -implicitDefEqProofs only [go_sem, Nat.reduceBEq, Nat.reduceLT, Nat.reduceLeDiff, Nat.reduceEqDiff, Nat.reduceAdd, Nat.reduceMul, Nat.reduceSub, reduceIte, reduceCtorEq, Int.reduceLT, Int.reduceLE, Int.reduceToNat, Int.reduceAdd, Int.reduceSub, Int.reduceNeg, Int.reduceEq, Int.reduceNe, Int.reduceBEq, Int.reduceBNe, BitVec.reduceBEq, BitVec.reduceBNe, BitVec.reduceOfInt, BitVec.reduceSetWidth, -List.reduceReplicate, g1, g2]
      exact fin (r := (0#64, 0, 2)) (hr.symm.trans hg)
  · have h9' : i = 9 := by omega
    have g1 : decide ((i : Int) < 9) = false := by simp; omega
    have hr : gRes b (9 - i) i = (0#64, 0, 6) := by rw [h9']; rfl
    simp (maxSteps := 1000000) -implicitDefEqProofs only [go_sem, Nat.reduceBEq, Nat.reduceLT, Nat.reduceLeDiff, Nat.reduceEqDiff, Nat.reduceAdd, Nat.reduceMul, Nat.reduceSub, reduceIte, reduceCtorEq, Int.reduceLT, Int.reduceLE, Int.reduceToNat, Int.reduceAdd, Int.reduceSub, Int.reduceNeg, Int.reduceEq, Int.reduceNe, Int.reduceBEq, Int.reduceBNe, BitVec.reduceBEq, BitVec.reduceBNe, BitVec.reduceOfInt, BitVec.reduceSetWidth, -List.reduceReplicate, g1]
    exact fin (r := (0#64, 0, 6)) (hr.symm.trans hg)
end Go.Proofs.Ytmdeoikpiiambaa
end
section
/- Numbers of a variable length: what was put is got, and the other way round. -/
set_option linter.unusedVariables false
set_option maxRecDepth 100000
namespace Go.Proofs.Ytmdeoikpiiambaa
open Go Go.Eng

theorem byD_true (d : BitVec 8) (h : d.toNat < 128) : (byD (d, true)).toNat = 128 + d.toNat := by
  show (d ||| 128#8).toNat = _
  rw [BitVec.toNat_or, Nat.or_comm, show (128#8).toNat = 2 ^ 7 * 1 from rfl, ← Nat.two_pow_add_eq_or_of_lt (show d.toNat < 2 ^ 7 from h)]
/-- from byte i on, where the digits of m stand, behind what has been got -/
theorem get_digs (b : List (BitVec 8)) : ∀ (f i : Nat) (m : BitVec 64) (g : Nat), 1 ≤ f → i + f ≤ 9 → m.toNat < 128 ^ f → f ≤ g →
    (i = 0 ∨ 1 ≤ m.toNat) → (∀ j, j < (digs f m).length → i + j < b.length ∧ b.getD (i + j) 0 = ((digs f m).map byD).getD j 0) →
    ∃ n : BitVec 64, gRes b g i = (n, (i : Int) + (digs f m).length, 0) ∧ n.toNat = (gN b i).toNat + m.toNat * 128 ^ i
  | 0, i, m, g, h, _, _, _, _, _ => by omega
  | f + 1, i, m, 0, _, _, _, h, _, _ => by omega
  | f + 1, i, m, g + 1, _, hi, hm, hg, h0, hb => by
    obtain ⟨_, hgn⟩ := gN_nat b i (by omega)
    have hgn := hgn (by omega)
    rcases Nat.lt_or_ge m.toNat 128 with h | h
    · have hd : digs (f + 1) m = [(m.setWidth 8, false)] := by rw [digs, if_neg (by omega)]
      rw [hd] at hb ⊢
      obtain ⟨hl, hx⟩ := hb 0 (by simp)
      have hx : b.getD i 0 = m.setWidth 8 := hx
      have hxn : (b.getD i 0).toNat = m.toNat := by rw [hx, BitVec.toNat_setWidth]; omega
      refine ⟨gN b (i + 1), ?_, ?_⟩
      · rw [gRes, if_neg (by omega), if_pos ⟨by omega, by omega⟩]; rfl
      · rw [hgn, hxn, Nat.mod_eq_of_lt h]
    · have hd : digs (f + 1) m = ((m % 128#64).setWidth 8, true) :: digs f (m >>> 7) := by rw [digs, if_pos h]
      rw [hd] at hb ⊢
      obtain ⟨hl, hx⟩ := hb 0 (by simp)
      have hx : b.getD i 0 = byD ((m % 128#64).setWidth 8, true) := hx
      have hdn : ((m % 128#64).setWidth 8).toNat = m.toNat % 128 := by
        rw [BitVec.toNat_setWidth, BitVec.toNat_umod]; show m.toNat % 128 % 256 = _; omega
      have hxn : (b.getD i 0).toNat = 128 + m.toNat % 128 := by rw [hx, byD_true _ (by omega), hdn]
      have hs : (m >>> 7).toNat = m.toNat / 128 := by rw [BitVec.toNat_ushiftRight, Nat.shiftRight_eq_div_pow]
      have hf1 : 1 ≤ f := by
        rcases Nat.eq_zero_or_pos f with h0 | h0
        · subst h0; omega
        · exact h0
      obtain ⟨n, h1, h2⟩ := get_digs b f (i + 1) (m >>> 7) g hf1 (by omega) (by rw [hs]; rw [Nat.pow_succ] at hm; exact Nat.div_lt_of_lt_mul (by rw [Nat.mul_comm]; exact hm)) (by omega) (.inr (by omega)) (fun j hj => by
        obtain ⟨k1, k2⟩ := hb (j + 1) (by simp; exact hj)
        exact ⟨by omega, by rw [show i + 1 + j = i + (j + 1) by omega, k2]; rfl⟩)
      refine ⟨n, ?_, ?_⟩
      · rw [gRes, if_neg (by omega), if_neg (by omega), if_neg (by omega), h1, List.length_cons]
        congr 1
        congr 1
        omega
      · rw [h2, hgn, hxn, hs, show (128 + m.toNat % 128) % 128 = m.toNat % 128 by omega, Nat.pow_succ, Nat.add_assoc, Nat.mul_comm (128 ^ i) 128, ← Nat.mul_assoc, ← Nat.add_mul]
        congr 2
        omega
/-- what has been got is put as those bytes -/
theorem get_back (b : List (BitVec 8)) : ∀ (f i : Nat) (n : BitVec 64) (k : Int), i + f = 9 → gRes b f i = (n, k, 0) →
    ∃ m : Nat, n.toNat = (gN b i).toNat + m * 128 ^ i ∧ m < 128 ^ f ∧ (i = 0 ∨ 1 ≤ m) ∧ ∀ (F : Nat) (M : BitVec 64), f ≤ F → M.toNat = m →
      (i : Int) + (digs F M).length = k ∧ i + (digs F M).length ≤ b.length ∧ ∀ j, j < (digs F M).length → ((digs F M).map byD).getD j 0 = b.getD (i + j) 0
  | 0, i, n, k, _, h => by simp [gRes] at h
  | f + 1, i, n, k, hi, h => by
    obtain ⟨_, hgn⟩ := gN_nat b i (by omega)
    have hgn := hgn (by omega)
    have hbl := (b.getD i 0).isLt
    rw [gRes] at h
    split at h
    · simp at h
    · rename_i hl
      split at h
      · rename_i hc
        simp only [Prod.mk.injEq] at h
        obtain ⟨rfl, rfl, _⟩ := h
        refine ⟨(b.getD i 0).toNat, by rw [hgn, Nat.mod_eq_of_lt hc.1], ?_, by omega, fun F M hF hM => ?_⟩
        · have : 1 ≤ 128 ^ f := Nat.pow_pos (by decide)
          rw [Nat.pow_succ]; omega
        · obtain ⟨F, rfl⟩ : ∃ F', F = F' + 1 := ⟨F - 1, by omega⟩
          have hd : digs (F + 1) M = [(M.setWidth 8, false)] := by rw [digs, if_neg (by omega)]
          rw [hd]
          refine ⟨rfl, by simp; omega, fun j hj => ?_⟩
          have hj0 : j = 0 := by simpa using hj
          subst hj0
          show M.setWidth 8 = b.getD i 0
          refine BitVec.eq_of_toNat_eq ?_
          rw [BitVec.toNat_setWidth]; omega
      · split at h
        · simp at h
        · rename_i hc1 hc2
          obtain ⟨m, h1, h2, h3, h4⟩ := get_back b f (i + 1) n k (by omega) h
          have hx : 128 ≤ (b.getD i 0).toNat := by omega
          refine ⟨(b.getD i 0).toNat % 128 + 128 * m, ?_, ?_, by omega, fun F M hF hM => ?_⟩
          · rw [h1, hgn, Nat.pow_succ, Nat.add_mul, Nat.add_assoc, Nat.mul_comm (128 ^ i) 128, ← Nat.mul_assoc, Nat.mul_comm m 128]
          · rw [Nat.pow_succ]; omega
          · obtain ⟨F, rfl⟩ : ∃ F', F = F' + 1 := ⟨F - 1, by omega⟩
            have hm1 : 1 ≤ m := by omega
            have hd : digs (F + 1) M = ((M % 128#64).setWidth 8, true) :: digs F (M >>> 7) := by rw [digs, if_pos (by omega)]
            have hs : (M >>> 7).toNat = m := by rw [BitVec.toNat_ushiftRight, Nat.shiftRight_eq_div_pow]; omega
            obtain ⟨g1, g2, g3⟩ := h4 F (M >>> 7) (by omega) hs
            rw [hd]
            refine ⟨?_, by rw [List.length_cons]; omega, fun j hj => ?_⟩
            · rw [List.length_cons, ← g1]; push_cast; omega
            · cases j with
              | zero =>
                show byD ((M % 128#64).setWidth 8, true) = b.getD i 0
                refine BitVec.eq_of_toNat_eq ?_
                have hdn : ((M % 128#64).setWidth 8).toNat = M.toNat % 128 := by
                  rw [BitVec.toNat_setWidth, BitVec.toNat_umod]; show M.toNat % 128 % 256 = _; omega
                rw [byD_true _ (by omega), hdn, hM]; omega
              | succ j =>
                have := g3 j (by simpa using hj)
                rw [show i + (j + 1) = i + 1 + j by omega, ← this]; rfl
end Go.Proofs.Ytmdeoikpiiambaa
end
