/- The engine, part 18: bytes that are appended to in a loop, nil at first. Own work. -/
import Derived.Test.YtmdeoikpiiambaaEng17
set_option linter.unusedVariables false
set_option linter.unusedSimpArgs false
namespace Go.Eng
open Go

theorem look_hd {α : Type} (n : Nat) (x : α) (r : List (Nat × α)) : look ((n, x) :: r) n = some x := by simp [look]
section
variable {P : Program} {wr : Nat → Bool} {k : IntKind} {w : Nat}
mutual
/-- no names in it -/
def flatro : AV → Bool
  | .ptr _ _ => false
  | .sl _ _ _ _ => false
  | .map _ => false
  | .ro _ xs => flatroL xs
  | .rop xs => flatroL xs
  | .fn _ a b => flatroL a && flatroL b
  | .iface _ v => flatro v
  | .agg l => flatroL l
  | .tup l => flatroL l
  | _ => true
def flatroL : List AV → Bool
  | [] => true
  | x :: r => flatro x && flatroL r
end
mutual
theorem flatro_ren {f : Nat → Nat} : ∀ {v : AV}, flatro v = true → renA f v = v
  | .ptr _ _, h => by simp [flatro] at h
  | .sl _ _ _ _, h => by simp [flatro] at h
  | .map _, h => by simp [flatro] at h
  | .ro _ xs, h => by simp only [flatro] at h; simp only [renA, flatroL_ren h]
  | .rop xs, h => by simp only [flatro] at h; simp only [renA, flatroL_ren h]
  | .fn _ a b, h => by simp only [flatro, Bool.and_eq_true] at h; simp only [renA, flatroL_ren h.1, flatroL_ren h.2]
  | .iface _ v, h => by simp only [flatro] at h; simp only [renA, flatro_ren h]
  | .agg l, h => by simp only [flatro] at h; simp only [renA, flatroL_ren h]
  | .tup l, h => by simp only [flatro] at h; simp only [renA, flatroL_ren h]
  | .bool _, _ => rfl
  | .int _ _, _ => rfl
  | .str _, _ => rfl
  | .nilp, _ => rfl
  | .nils, _ => rfl
  | .nilf, _ => rfl
  | .nilm, _ => rfl
  | .nili, _ => rfl
  | .val _, _ => rfl
theorem flatroL_ren {f : Nat → Nat} : ∀ {l : List AV}, flatroL l = true → renL f l = l
  | [], _ => rfl
  | x :: r, h => by
    simp only [flatroL, Bool.and_eq_true] at h
    simp only [renL, flatro_ren h.1, flatroL_ren h.2]
end
theorem flatroL_bvs (k : IntKind) {w : Nat} (l : List (BitVec w)) : flatroL (bvs k l) = true := by
  induction l with
  | nil => rfl
  | cons x r ih => simp only [bvs_cons, flatroL, ih, Bool.and_true]; rfl
theorem flatroL_ints (k : IntKind) (l : List Int) : flatroL (ints k l) = true := by
  induction l with
  | nil => rfl
  | cons x r ih => simp only [ints_cons, flatroL, ih, Bool.and_true]; rfl
/-- a row of words that was appended to, and nothing else: nil, or a slice at its row's begin -/
def ApI (k : IntKind) (ty : TypeId) {w : Nat} (X : List (BitVec w)) (x : AV × Mem × Nat) : Prop :=
  (X = [] ∧ x = (.nils, [], 0)) ∨ ∃ (cap : Nat) (sp : List Value), x = (.sl 0 0 X.length cap, [(0, .cells (bvs k X ++ sp.map AV.val) ty)], 1) ∧ X.length + sp.length = cap ∧ cap ≤ maxI
theorem ApI.nil (k : IntKind) (ty : TypeId) : ApI k ty ([] : List (BitVec w)) (.nils, [], 0) := .inl ⟨rfl, rfl⟩
theorem ApI.some {k : IntKind} {ty : TypeId} {X : List (BitVec w)} {cap : Nat} {sp : List Value} (h1 : X.length + sp.length = cap) (h2 : cap ≤ maxI) : ApI k ty X (.sl 0 0 X.length cap, [(0, .cells (bvs k X ++ sp.map AV.val) ty)], 1) := .inr ⟨cap, sp, rfl, h1, h2⟩
theorem appk_ap {ty bt : Nat} {X y : List (BitVec w)} {x : AV × Mem × Nat} (h : ApI k ty X x) {m : Mem} {nx : Nat} {K : Kv} (hm : ∀ o, look x.2.1 0 = some o → look m 0 = some o) (hw : ∀ n, wr n = true)
    (hy : 0 < y.length) (hb : 0 < bt) (hl : (X.length + y.length) * bt ≤ 140737488355328)
    (hK : ∀ (cap : Nat) (sp : List Value) (m3 : Mem), (X ++ y).length + sp.length = cap → cap ≤ maxI → K (.sl nx 0 (X.length + y.length) cap) ((nx, .cells (bvs k (X ++ y) ++ sp.map AV.val) ty) :: m3) (nx + 1)) :
    appk x.1 m nx wr ty 1 bt (y.length, bvs k y) K := by
  rcases h with ⟨rfl, rfl⟩ | ⟨cap, sp, rfl, h1, h2⟩
  · refine appk_nils hb (by simpa using hl) (fun e => by rw [e] at hy; simp at hy) fun _ cap' sp' c1 c2 => ?_
    have := hK cap' sp' m (by simpa using c1) c2
    simpa using this
  · exact appk_bvs (hm _ (by simp [look])) (hw 0) h1 h2 hb hl fun cap' sp' c1 c2 => by rw [List.length_append]; exact hK cap' sp' _ c1 c2
theorem Fin.ap {ty : TypeId} {X : List (BitVec w)} {x : AV × Mem × Nat} (h : ApI k ty X x) (F : AV → AV) (hF : ∀ f s, renA f (F s) = F (renA f s)) (hw : ∀ n, wr n = true) : Fin 0 wr x.2.1 x.2.2 (Rets F k X ty) (F x.1) := by
  rcases h with ⟨rfl, rfl⟩ | ⟨cap, sp, rfl, h1, h2⟩
  · exact Fin.flatv hw (fun f => by rw [hF]; rfl) (.inl ⟨rfl, rfl, rfl, rfl⟩)
  · refine ⟨[(0, 0)], F (.sl 0 0 X.length cap), [(0, .cells (bvs k X ++ sp.map AV.val) ty)], 1, ⟨rfl, by decide⟩, by rw [hF]; rfl, ⟨by simp only [renO, renL_vals']; rfl, rfl, trivial⟩, by simp [injOn], (fun n e => by rw [hw] at e; cases e), .inr ⟨cap, sp, rfl, rfl, rfl⟩⟩
/-- the end, where the slice has any name -/
theorem Fin.sl {ty : TypeId} {X : List (BitVec w)} {m : Mem} {n nx cap len : Nat} {sp : List Value} (hl : len = X.length) (F : AV → AV) (hF : ∀ f s, renA f (F s) = F (renA f s)) (hw : ∀ n, wr n = true) (hn : look m n = some (.cells (bvs k X ++ sp.map AV.val) ty)) :
    Fin 0 wr m nx (Rets F k X ty) (F (.sl n 0 len cap)) := by
  subst hl
  refine ⟨[(0, n)], F (.sl 0 0 X.length cap), [(0, .cells (bvs k X ++ sp.map AV.val) ty)], 1, ⟨rfl, by decide⟩, by rw [hF]; rfl, ⟨by simp only [renO, renL_vals']; exact hn, by rw [hw, hw], trivial⟩, by simp [injOn], (fun n e => by rw [hw] at e; cases e), .inr ⟨cap, sp, rfl, rfl, rfl⟩⟩
theorem Fin.nilv {ty : TypeId} {m : Mem} {nx : Nat} (F : AV → AV) (hF : ∀ f s, renA f (F s) = F (renA f s)) (hw : ∀ n, wr n = true) : Fin 0 wr m nx (Rets F k ([] : List (BitVec w)) ty) (F .nils) :=
  Fin.flatv hw (fun f => by rw [hF]; rfl) (.inl ⟨rfl, rfl, rfl, rfl⟩)
/-- from what was appended to, to the next round -/
theorem Le.ap {ty : TypeId} {X : List (BitVec w)} {t t' : Slots} {m : Mem} {n nx s cap len : Nat} {sp : List Value} (hl : len = X.length) (hn : look m n = some (.cells (bvs k X ++ sp.map AV.val) ty)) (hs : look t s = some (.sl n 0 len cap))
    (ht : slotsSame t t') (hf : t'.all (fun p => flatro p.2) = true) : ∃ l, Le 0 l (fun _ => true) t m nx ((s, .sl 0 0 X.length cap) :: t') [(0, .cells (bvs k X ++ sp.map AV.val) ty)] 1 := by
  subst hl
  refine Le.one (n' := n) ⟨by rw [hs]; rfl, ?_⟩ (by rw [hn]; simp only [renO, renL_vals'])
  induction t' with
  | nil => trivial
  | cons p r ih =>
    obtain ⟨q, v⟩ := p
    simp only [List.all_cons, Bool.and_eq_true] at hf
    obtain ⟨h1, h2⟩ := ht
    exact ⟨by rw [flatro_ren hf.1]; exact h1, ih h2 hf.2⟩
end
end Go.Eng
