/- The engine, part 29: an object with a slice of bytes that grows. Own work. -/
import Derived.Test.YtmdeoikpiiambaaEng28
set_option linter.unusedVariables false
set_option linter.unusedSimpArgs false
namespace Go.Eng
open Go

/-- a kind of object that holds a slice of bytes: what else it holds is told by a state -/
structure SlT where
  σ : Type
  out : σ → List (BitVec 8)
  obj : AV → σ → AObj
  ren : ∀ f o s, renO f (obj o s) = obj (renA f o) s
def rowO (X : List (BitVec 8)) (sp : List Value) : AObj := .cells (bvs .u8 X ++ sp.map AV.val) 5
theorem rowO_ren (f : Nat → Nat) (X : List (BitVec 8)) (sp : List Value) : renO f (rowO X sp) = rowO X sp := by simp only [rowO, renO, renL_vals']
/-- how it lies at a contract's begin: the object is 0, its row, if any, 1 -/
def SlT.Start (T : SlT) (s : T.σ) (x : AV × Mem × Nat) : Prop :=
  (T.out s = [] ∧ x = (.nils, [], 1)) ∨ ∃ (cap : Nat) (sp : List Value), x = (.sl 1 0 (T.out s).length cap, [(1, rowO (T.out s) sp)], 2) ∧ (T.out s).length + sp.length = cap ∧ cap ≤ maxI
/-- how it lies then: its row is as it was, or a new one -/
def SlT.C (T : SlT) (V : AV) (s s' : T.σ) (x : AV × Mem × Nat) : Kv := fun v m nx =>
  v = V ∧ ((T.out s' = T.out s ∧ m = (0, T.obj x.1 s') :: x.2.1 ∧ nx = x.2.2) ∨
    ∃ (cap : Nat) (sp : List Value), (T.out s').length + sp.length = cap ∧ cap ≤ maxI ∧ m = [(0, T.obj (.sl x.2.2 0 (T.out s').length cap) s'), (x.2.2, rowO (T.out s') sp)] ∧ nx = x.2.2 + 1)
def SlT.Ok (T : SlT) (P : Program) (g : FuncId) (args0 : List AV) (V : AV) (s s' : T.σ) : Prop :=
  ∀ x, T.Start s x → CallG false P g (.ptr 0 0 :: args0) (fun _ => true) ((0, T.obj x.1 s) :: x.2.1) x.2.2 (T.C V s s' x)
section
variable {T : SlT} {P : Program} {fz : Bool} {g : FuncId} {args0 : List AV} {V : AV} {s s' : T.σ} {wr : Nat → Bool} {m : Mem} {nx a : Nat} {K : Kv}
theorem SlT.useN (h : T.Ok P g args0 V s s') (hf : ∀ f, renL f args0 = args0) (hV : ∀ f, renA f V = V) (h0 : look m a = some (T.obj .nils s)) (hw : wr a = true) (hx : T.out s = [])
    (hK1 : T.out s' = [] → K V ((a, T.obj .nils s') :: del m a) nx)
    (hK2 : ∀ cap sp, (T.out s').length + sp.length = cap → cap ≤ maxI → K V ((a, T.obj (.sl nx 0 (T.out s').length cap) s') :: (nx, rowO (T.out s') sp) :: del m a) (nx + 1)) : CallG fz P g (.ptr a 0 :: args0) wr m nx K := by
  have r0 : rf [(0, a)] nx 1 0 = a := by simp [rf, look]
  have r1 : rf [(0, a)] nx 1 1 = nx := by simp [rf, look]
  refine (h (.nils, [], 1) (.inl ⟨hx, rfl⟩)).useE [(0, a)] rfl ⟨by rw [r0, h0, T.ren]; rfl, by rw [r0]; exact fun _ => hw, trivial⟩ (by simp [injOn]) rfl (fun _ _ => rfl) (fun _ e => by cases e) (by simp only [renL, renA, r0, hf]) ?_
  rintro v m' nx' ⟨rfl, ⟨e1, rfl, rfl⟩ | ⟨cap, sp, c1, c2, rfl, rfl⟩⟩
  · refine ⟨Nat.le_refl _, ?_⟩
    rw [hV]
    have := hK1 (e1.trans hx)
    simpa only [renM, T.ren, renA, r0, List.map_cons, List.map_nil, delAll, List.cons_append, List.nil_append, Nat.sub_self, Nat.add_zero] using this
  · refine ⟨Nat.le_succ _, ?_⟩
    rw [hV]
    simpa only [renM, T.ren, rowO_ren, renA, r0, r1, List.map_cons, List.map_nil, delAll, List.cons_append, List.nil_append, Nat.add_sub_cancel_left] using hK2 cap sp c1 c2
theorem SlT.useS (h : T.Ok P g args0 V s s') (hf : ∀ f, renL f args0 = args0) (hV : ∀ f, renA f V = V) {n cap : Nat} {sp : List Value} (hna : a ≠ n) (h0 : look m a = some (T.obj (.sl n 0 (T.out s).length cap) s)) (h1 : look m n = some (rowO (T.out s) sp))
    (hc1 : (T.out s).length + sp.length = cap) (hc2 : cap ≤ maxI) (hw : wr a = true) (hwn : wr n = true)
    (hK1 : T.out s' = T.out s → K V ((a, T.obj (.sl n 0 (T.out s).length cap) s') :: (n, rowO (T.out s) sp) :: del (del m a) n) nx)
    (hK2 : ∀ cap sp, (T.out s').length + sp.length = cap → cap ≤ maxI → K V ((a, T.obj (.sl nx 0 (T.out s').length cap) s') :: (nx, rowO (T.out s') sp) :: del (del m a) n) (nx + 1)) : CallG fz P g (.ptr a 0 :: args0) wr m nx K := by
  have r0 : rf [(0, a), (1, n)] nx 2 0 = a := by simp [rf, look]
  have r1 : rf [(0, a), (1, n)] nx 2 1 = n := by simp [rf, look]
  have r2 : rf [(0, a), (1, n)] nx 2 2 = nx := by simp [rf, look]
  refine (h (.sl 1 0 (T.out s).length cap, [(1, rowO (T.out s) sp)], 2) (.inr ⟨cap, sp, rfl, hc1, hc2⟩)).useE [(0, a), (1, n)] rfl ⟨by rw [r0, h0, T.ren]; simp only [renA, r1], by rw [r0]; exact fun _ => hw, by rw [r1, h1, rowO_ren], by rw [r1]; exact fun _ => hwn, trivial⟩
    (by simp [injOn, r0, r1, hna]) rfl (fun _ _ => rfl) (fun _ e => by cases e) (by simp only [renL, renA, r0, hf]) ?_
  rintro v m' nx' ⟨rfl, ⟨e1, rfl, rfl⟩ | ⟨cap', sp', c1, c2, rfl, rfl⟩⟩
  · refine ⟨Nat.le_refl _, ?_⟩
    rw [hV]
    simpa only [renM, T.ren, rowO_ren, renA, r0, r1, List.map_cons, List.map_nil, delAll, List.cons_append, List.nil_append, Nat.sub_self, Nat.add_zero] using hK1 e1
  · refine ⟨Nat.le_succ _, ?_⟩
    rw [hV]
    simpa only [renM, T.ren, rowO_ren, renA, r0, r1, r2, List.map_cons, List.map_nil, delAll, List.cons_append, List.nil_append, Nat.add_sub_cancel_left] using hK2 cap' sp' c1 c2
/-- the end of such a contract: its row is as it was -/
theorem SlT.finU {x : AV × Mem × Nat} (hx : T.Start s x) (hs : T.out s' = T.out s) (h0 : look m 0 = some (T.obj x.1 s')) (h1 : ∀ p ∈ x.2.1, look m p.1 = some p.2) (hn : x.2.2 = nx) : Fin x.2.2 (fun _ => true) m nx (T.C V s s' x) V := by
  subst hn
  refine Fin.keep (m0 := (0, T.obj x.1 s') :: x.2.1) (Nat.le_refl _) ⟨h0, ?_⟩ ?_ ⟨rfl, .inl ⟨hs, rfl, rfl⟩⟩
  · rcases hx with ⟨_, rfl⟩ | ⟨cap, sp, rfl, _, _⟩
    · trivial
    · exact ⟨h1 _ (List.mem_cons_self ..), trivial⟩
  · rcases hx with ⟨_, rfl⟩ | ⟨cap, sp, rfl, _, _⟩ <;> simp
/-- the same, where names were spent -/
theorem SlT.finU' {x : AV × Mem × Nat} (hx : T.Start s x) (hs : T.out s' = T.out s) (hV : ∀ f, renA f V = V) (h0 : look m 0 = some (T.obj x.1 s')) (h1 : ∀ p ∈ x.2.1, look m p.1 = some p.2) : Fin x.2.2 (fun _ => true) m nx (T.C V s s' x) V := by
  have f0 : rf [] nx x.2.2 0 = 0 := by
    rcases hx with ⟨_, rfl⟩ | ⟨cap, sp, rfl, _, _⟩ <;> simp [rf, look]
  refine ⟨[], V, (0, T.obj x.1 s') :: x.2.1, x.2.2, ⟨rfl, Nat.le_refl _⟩, (hV _).symm, ⟨?_, rfl, ?_⟩, ?_, (fun n e => by cases e), ⟨rfl, .inl ⟨hs, rfl, rfl⟩⟩⟩
  · rw [f0, h0, T.ren]
    rcases hx with ⟨_, rfl⟩ | ⟨cap, sp, rfl, _, _⟩
    · rfl
    · simp [renA, rf, look]
  · rcases hx with ⟨_, rfl⟩ | ⟨cap, sp, rfl, _, _⟩
    · trivial
    · have f1 : rf [] nx 2 1 = 1 := by simp [rf, look]
      exact ⟨by rw [f1, h1 _ (List.mem_cons_self ..), rowO_ren], rfl, trivial⟩
  · rcases hx with ⟨_, rfl⟩ | ⟨cap, sp, rfl, _, _⟩ <;> simp [injOn, rf, look]
/-- the end of such a contract: it has a new row, whatever its name is -/
theorem SlT.finC {x : AV × Mem × Nat} (hx : T.Start s x) (hV : ∀ f, renA f V = V) {n cap : Nat} {sp : List Value} (hn : n ≠ 0) (h0 : look m 0 = some (T.obj (.sl n 0 (T.out s').length cap) s')) (h1 : look m n = some (rowO (T.out s') sp)) (c1 : (T.out s').length + sp.length = cap) (c2 : cap ≤ maxI) :
    Fin x.2.2 (fun _ => true) m nx (T.C V s s' x) V := by
  have h2 : 0 < x.2.2 := by rcases hx with ⟨_, rfl⟩ | ⟨cap, sp, rfl, _, _⟩ <;> simp
  have f0 : rf [(x.2.2, n)] nx (x.2.2 + 1) 0 = 0 := by
    have : x.2.2 ≠ 0 := by omega
    simp [rf, look, this]
  have f1 : rf [(x.2.2, n)] nx (x.2.2 + 1) x.2.2 = n := by simp [rf, look]
  refine ⟨[(x.2.2, n)], V, [(0, T.obj (.sl x.2.2 0 (T.out s').length cap) s'), (x.2.2, rowO (T.out s') sp)], x.2.2 + 1, ⟨by simp, Nat.le_succ _⟩, (hV _).symm, ⟨by rw [f0, h0, T.ren]; simp only [renA, f1], rfl, by rw [f1, h1, rowO_ren], rfl, trivial⟩, ?_, (fun n e => by cases e), ⟨rfl, .inr ⟨cap, sp, c1, c2, rfl, rfl⟩⟩⟩
  simp [injOn, f0, f1, Ne.symm hn]
end
end Go.Eng
