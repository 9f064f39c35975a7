/- Numbers of a variable length: a loop over an iterator that keeps its place in a box of its own. Own work, over the kit's law of the statement. -/
import Derived.RangeFuncBox
import Derived.RangeFuncLeaves
import Derived.RangeFuncFrom
import Derived.Shelf.Abstract
import Derived.WalkKit
import Derived.OwnWalkIn
import Derived.TacticsInMore
import Derived.LoopNIn
import Derived.LoopIn
import Derived.Maps.AppendAt
import Derived.Test.YtmnbbpckglppjaaEng26
set_option linter.unusedVariables false
set_option maxRecDepth 100000
namespace Go.Proofs.Ytmnbbpckglppjaa
open Go Go.RowKit Go.Shelf

variable {F : Fence} {n : Nat} {P : Program}
/-- an iterator that gives xs, and writes the cell of its own box Bn between two rounds -/
def BoxSeq {α : Type} (F : Fence) (n : Nat) (P : Program) (g : Nat) (lb : Array Value) (encs : α → Array Value) (Bn : Nat) (xs : List α) (w : World) : Prop :=
  ∀ (l : Nat) (J : List α → World → Prop) (W : World), (∀ pre A v, J pre A → J pre (A.setCell ⟨Bn, 0, none⟩ v)) →
    (∀ pre x rest A, xs = pre ++ x :: rest → J pre A → YieldAt F (n - 1) P l (encs x) A fun e A' => e = .returned (.bool true) ∧ J (pre ++ [x]) A' ∧ A'.heap[Bn]? = A.heap[Bn]?) →
    J [] W → W.heap[Bn]? = w.heap[Bn]? → CallsIn F n P g (#[.func (.yield l) #[] #[]] ++ lb) W fun e W' => (∃ v, e = .returned v) ∧ J xs W'
theorem wpIn_rangeBox {α : Type} {g : Operand} {ps : Array Tmp} {assign body : Code} {Q : Exit → Act → World → Prop} {a : Act} {w : World}
    (hro : F.round = none) (h1 : 1 ≤ n) {gf : Nat} {lb : Array Value} (hg : a.eval g = .func (.func gf) #[] lb) (hFg : F.fn gf) (eg : ∀ args w, (callFunc gf args).run P w = .ok (.enter gf args) w)
    {encs : α → Array Value} {Bn : Nat} {xs : List α} (hseq : BoxSeq F (n - 1) P gf lb encs Bn xs w) (hBn : Bn < w.heap.size) (hps : ∀ x, (encs x).size = ps.size)
    (I : List α → World → Prop) (hI : OwnFrom w.heap.size I) (hIb : ∀ pre A v, I pre A → I pre (A.setCell ⟨Bn, 0, none⟩ v)) (h0 : I [] w) (a₁ : α → Act)
    (hassign : ∀ (l : Nat) (x : α) (W : World) (K : Act → World → Prop), K (a₁ x) W →
      assign.wpIn (F.inRound l) (n - 1 - 1) P (Exit.then K (fun _ _ _ => False)) { tmps := (ps.zip (encs x)).foldl (fun t (p, v) => t.setIfInBounds p v) a.tmps, defers := [] } W)
    (hbody : ∀ (l : Nat) (pre : List α) (x : α) (rest : List α) (W : World), xs = pre ++ x :: rest → I pre W → w.heap.size ≤ W.heap.size →
      body.wpIn (F.inRound l) (n - 1 - 1) P (fun e _ W' => e = .normal ∧ KeepsOthers W W' ∧ W'.heap[Bn]? = W.heap[Bn]? ∧ I (pre ++ [x]) W') (a₁ x) W)
    (hdone : ∀ (W : World), I xs W → W.heap[w.heap.size]? = some (.deferred (some [])) → Q .normal { a with defers := { target := .collected w.heap.size, args := #[] } :: a.defers } W) :
    (Code.rangeFunc g ps assign body).wpIn F n P Q a w := by
  refine wpIn_rangeFunc ?_
  intro fn hfn
  rw [hro]
  let r0 : LoopState → Loop := fun st => { state := st, pending := none, fn, tmps := a.tmps, params := ps, assign, body, defers := w.heap.size }
  have hW1 : ∃ W1, (w.alloc (.deferred (some []))).alloc (.loop (r0 .ready)) = W1 := ⟨_, rfl⟩
  obtain ⟨W1, hW1⟩ := hW1
  have hL : W1.heap[w.heap.size + 1]? = some (.loop (r0 .ready)) := by
    rw [← hW1]; have := World.alloc_heap_new (w.alloc (.deferred (some []))) (.loop (r0 .ready)); rwa [World.size_alloc] at this
  have hD : W1.heap[w.heap.size]? = some (.deferred (some [])) := by
    rw [← hW1]; exact (Below.heap_alloc _ _ _ (by simp)).trans (World.alloc_heap_new w _)
  have hI1 : I [] W1 := by rw [← hW1]; exact hI.alloc _ (hI.alloc _ h0)
  have hB1 : W1.heap[Bn]? = w.heap[Bn]? := by
    rw [← hW1]; exact (Below.heap_alloc _ _ _ (by rw [World.size_alloc]; omega)).trans (Below.heap_alloc _ _ _ hBn)
  have hset : ∀ (A : World) (v : Value) (k : Nat), k ≠ Bn → (A.setCell ⟨Bn, 0, none⟩ v).heap[k]? = A.heap[k]? := by
    intro A v k hk
    exact Below.heap_setCell _ _ _ _ hk
  refine ⟨w.heap.size + 1, [{ target := .collected w.heap.size, args := #[] }], W1, { target := .fn (.func gf) lb, args := #[.func (.yield (w.heap.size + 1)) #[] #[]] }, W1, gf,
    #[.func (.yield (w.heap.size + 1)) #[] #[]] ++ lb, W1, ?_, ?_, ?_, ?_, fun _ => h1, ?_⟩
  · rw [← hW1]; exact run_enterLoop_outer _ _ _ _ _
  · simp only [resolve, hg]
    simp [go_sem]
  · intro f' hf'; simp [Target.leads] at hf'; subst hf'; exact hFg
  · simp [invoke, go_sem, eg]
  refine (hseq (w.heap.size + 1) (fun pre W => I pre W ∧ w.heap.size + 1 < W.heap.size ∧ W.heap[w.heap.size + 1]? = some (.loop (r0 .ready)) ∧ W.heap[w.heap.size]? = some (.deferred (some []))) W1 ?_ ?_ ⟨hI1, (Array.getElem?_eq_some_iff.1 hL).1, hL, hD⟩ hB1).mono ?_
  · rintro pre A v ⟨i1, i2, i3, i4⟩
    refine ⟨hIb _ _ _ i1, ?_, (hset _ _ _ (by omega)).trans i3, (hset _ _ _ (by omega)).trans i4⟩
    exact (Array.getElem?_eq_some_iff.1 ((hset _ _ _ (by omega)).trans i3)).1
  · rintro pre x rest W hx ⟨i1, i2, i3, i4⟩
    have hy := run_yield (P := P) (args := encs x) i3 (hps x)
    refine ⟨fn, _, assign, body, hy, roundIn_of_wpIn hfn (hassign _ x W _ ⟨_, run_beginRound i3 rfl, ?_⟩)⟩
    have j3 : (W.putObj (w.heap.size + 1) (.loop (r0 .busy))).heap[w.heap.size + 1]? = some (.loop (r0 .busy)) := World.putObj_heap_same i2
    have j4 : (W.putObj (w.heap.size + 1) (.loop (r0 .busy))).heap[w.heap.size]? = some (.deferred (some [])) := (World.putObj_heap_other (by omega)).trans i4
    have jb : (W.putObj (w.heap.size + 1) (.loop (r0 .busy))).heap[Bn]? = W.heap[Bn]? := World.putObj_heap_other (by omega)
    refine wpIn_mono (hbody _ pre x rest _ hx (hI.putObj _ i1 (by omega) i3 rfl) (by simp; omega)) ?_
    rintro e a3 W3 ⟨rfl, k1, k2, k3⟩
    have l3 := (k1.same _ _ j3 rfl)
    have l4 := (k1.same _ _ j4 rfl)
    have hr := run_endRound (P := P) none l3
    refine ⟨_, _, hr, rfl, ⟨hI.putObj _ k3 (by omega) l3 rfl, ?_, World.putObj_heap_same (Array.getElem?_eq_some_iff.1 l3).1, (World.putObj_heap_other (by omega)).trans l4⟩, ?_⟩
    · have := (Array.getElem?_eq_some_iff.1 l3).1; simpa using this
    · exact (World.putObj_heap_other (by omega)).trans (k2.trans jb)
  · rintro e W2 ⟨⟨v, rfl⟩, i1, i2, i3, i4⟩
    refine ⟨none, _, run_endLoop (P := P) i3 (by simp [r0]), hdone _ (hI.putObj _ i1 (by omega) i3 rfl) ((World.putObj_heap_other (by omega)).trans i4)⟩
end Go.Proofs.Ytmnbbpckglppjaa
