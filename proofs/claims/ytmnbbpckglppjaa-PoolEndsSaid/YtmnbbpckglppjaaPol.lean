/- Turns: what both pools tell is alike. -/
import Derived.Test.YtmnbbpckglppjaaEng26
import Derived.Test.YtmnbbpckglppjaaPoj
import Derived.Test.YtmnbbpckglppjaaPok
set_option linter.unusedVariables false
set_option linter.unusedSimpArgs false
set_option maxRecDepth 100000
namespace Go.Proofs.Ytmnbbpckglppjaa
open Go Go.Eng

theorem enF_congr {f g : Nat → Bool} (h : ∀ k, f k = g k) : ∀ k, enF f k = enF g k
  | 0 => rfl
  | k + 1 => by rw [enF, enF, h k, enF_congr h k]
section
variable {jobs w room : Nat} {A : List Int} {S : PS}
theorem Sim.may (h : Sim jobs w room A S) (x : Int) : (mayP jobs room S x).2 = decide (0 ≤ (nextZ A w room x).1) := by
  obtain ⟨h1, h2, _⟩ := h.step x
  rcases Int.lt_or_le (nextZ A w room x).1 0 with k | k
  · rw [h2 k, decide_eq_false (by omega)]
  · rw [(h1 k).1, decide_eq_true k]
theorem Sim.list (h : Sim jobs w room A S) : mayL jobs room S = enF (fun x : Nat => decide (0 ≤ (nextZ A (w : Int) (room : Int) (x : Int)).1)) (w + 2) := by
  rw [mayL, h.bl]
  exact enF_congr (fun k => h.may k) _
theorem Sim.free (h : Sim jobs w room A S) : ∀ i, i < S.busy.length → S.busy.getD i 0 ≠ -1 → S.busy.getD i 0 ∉ S.ws := fun i hi hn hm => by
  rw [h.bl] at hi
  rcases h.bm i hi with ⟨b1, _⟩ | ⟨j, b1, b2, b3, _⟩
  · exact hn b1
  · rw [b1] at hm
    obtain ⟨i', e, c1, c2⟩ := (h.wm _).1 hm
    have : j = i' := by omega
    subst this; omega
theorem Sim.less (h : Sim jobs w room A S) (hj : jobs ≤ 10000) : (S.out : Int) ∈ S.ws → S.out < 10000 := fun hm => by
  obtain ⟨i', e, c1, c2⟩ := (h.wm _).1 hm
  omega
theorem Sim.new' (jobs w room : Nat) : Sim jobs w room (List.replicate jobs 0) (newS w) := Sim.new jobs w room
end
end Go.Proofs.Ytmnbbpckglppjaa
