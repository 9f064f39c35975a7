/- The engine, part 22: what is appended to, nil or not; and read only from then on. Own work. -/
import Derived.Test.YtmdeoikpiiambaaEng18
set_option linter.unusedVariables false
set_option linter.unusedSimpArgs false
namespace Go.Eng
open Go

section
variable {P : Program} {wr : Nat → Bool} {k : IntKind} {w : Nat}
/-- a row of words somewhere in memory: nil, or a slice at its object's begin -/
def ApA (k : IntKind) (ty : TypeId) {w : Nat} (X : List (BitVec w)) (v : AV) (m : Mem) : Prop :=
  (X = [] ∧ v = .nils) ∨ ∃ (n cap : Nat) (sp : List Value), v = .sl n 0 X.length cap ∧ look m n = some (.cells (bvs k X ++ sp.map AV.val) ty) ∧ X.length + sp.length = cap ∧ cap ≤ maxI
theorem appk_gen {ty bt : Nat} {X y : List (BitVec w)} {v : AV} {m : Mem} {nx : Nat} {K : Kv} (h : ApA k ty X v m) (hlt : ∀ n off len cap, v = .sl n off len cap → n < nx) (hw : ∀ n, wr n = true) (hb : 0 < bt) (hl : (X.length + y.length) * bt ≤ 140737488355328)
    (hK : ∀ (v' : AV) (m' : Mem) (nx' : Nat), ApA k ty (X ++ y) v' m' → nx ≤ nx' → (∀ n off len cap, v' = .sl n off len cap → n = nx ∧ nx' = nx + 1) → (∀ j, j ≠ nx → (∀ off len cap, v ≠ .sl j off len cap) → look m' j = look m j) → K v' m' nx') :
    appk v m nx wr ty 1 bt (y.length, bvs k y) K := by
  rcases h with ⟨rfl, rfl⟩ | ⟨n, cap, sp, rfl, hn, h1, h2⟩
  · refine appk_nils hb (by simpa using hl) (fun e => ?_) fun hp cap' sp' c1 c2 => ?_
    · subst e
      exact hK .nils m nx (.inl ⟨rfl, rfl⟩) (Nat.le_refl _) (fun _ _ _ _ e => by cases e) (fun _ _ _ => rfl)
    · refine hK _ _ _ (.inr ⟨nx, cap', sp', by simp, by simp [look], by simpa using c1, c2⟩) (Nat.le_succ _) (fun _ _ _ _ e => by cases e; exact ⟨rfl, rfl⟩) (fun j hj _ => ?_)
      simp only [look]; rw [if_neg (Ne.symm hj)]
  · refine appk_bvs hn (hw n) h1 h2 hb hl fun cap' sp' c1 c2 => ?_
    refine hK _ _ _ (.inr ⟨nx, cap', sp', rfl, by simp [look], c1, c2⟩) (Nat.le_succ _) (fun _ _ _ _ e => by cases e; exact ⟨rfl, rfl⟩) (fun j hj hv => ?_)
    have hjn : n ≠ j := fun e => hv 0 X.length cap (by rw [e])
    simp only [look]; rw [if_neg (Ne.symm hj), look_del_other hjn]
/-- held fast, it is read-only -/
theorem ApA.fz {ty : Nat} {X : List (BitVec w)} {v : AV} {m : Mem} (h : ApA k ty X v m) : ∃ o : Option (Nat × List AV), (∀ n l, o = some (n, l) → look m n = some (.cells l ty) ∧ ∃ len cap, v = .sl n 0 len cap) ∧ fzA o v = .ro X.length (bvs k X) := by
  rcases h with ⟨rfl, rfl⟩ | ⟨n, cap, sp, rfl, hn, h1, h2⟩
  · exact ⟨none, (fun n l e => by cases e), rfl⟩
  · refine ⟨some (n, _), (fun n' l e => by cases e; exact ⟨hn, _, _, rfl⟩), ?_⟩
    simp only [fzA, if_true, List.drop_zero]
    rw [List.take_append_of_le_length (by rw [bvs_length]; exact Nat.le_refl _), bvs_take, List.take_length]
end
end Go.Eng
