/- The engine, part 32: small lemmas on rows of bytes and on memories. Own work. -/
import Derived.Test.YtmdeoikpiiambaaEng29
import Derived.Test.YtmdeoikpiiambaaEng26
set_option linter.unusedVariables false
set_option linter.unusedSimpArgs false
namespace Go.Eng
open Go
theorem CallG.congrK {fz : Bool} {P : Program} {g : FuncId} {args : List AV} {wr : Nat → Bool} {m : Mem} {nx : Nat} {K : Kv} (h : CallG fz P g args wr m nx fun v m' nx' => ∃ m0, (∀ k, look m0 k = look m' k) ∧ K v m0 nx') : CallG fz P g args wr m nx K := by
  intro w0 FP H B w vs hi hd
  refine (h w0 FP H B w vs hi hd).mono fun e w' he => ?_
  obtain ⟨v, av, m', nx', B', H', h1, h2, h3, h4, h5, m0, h6, h7⟩ := he
  exact ⟨v, av, m0, nx', B', H', h1, h2, h3.congr h6, h4, h5, h7⟩
theorem look_app {α : Type} (a b : List (Nat × α)) (k : Nat) : look (a ++ b) k = (look a k).or (look b k) := by
  induction a with
  | nil => rfl
  | cons p r ih =>
    obtain ⟨n, x⟩ := p
    rw [List.cons_append, look_cons, look_cons, ih]
    split <;> rfl
theorem kp1 {o : AObj} {m : Mem} : ∀ n, decide (1 ≤ n) = false → ∃ o', look ((0, o) :: m) n = some o' := by
  intro n e
  have : n = 0 := by have := of_decide_eq_false e; omega
  subst this
  exact ⟨o, rfl⟩
theorem kp2 {o p : AObj} {m : Mem} : ∀ n, decide (2 ≤ n) = false → ∃ o', look ((0, o) :: (1, p) :: m) n = some o' := by
  intro n e
  have h := of_decide_eq_false e
  rcases n with _ | _ | n
  · exact ⟨o, rfl⟩
  · exact ⟨p, rfl⟩
  · omega
theorem kp3 {o p q : AObj} {m : Mem} : ∀ n, decide (2 ≤ n) = false → ∃ o', look ((0, o) :: (2, q) :: (1, p) :: m) n = some o' := by
  intro n e
  have h := of_decide_eq_false e
  rcases n with _ | _ | n
  · exact ⟨o, rfl⟩
  · exact ⟨p, rfl⟩
  · omega
theorem wge {a k : Nat} (h : a ≤ k) (n : Nat) (hn : k ≤ n) : decide (a ≤ n) = true := decide_eq_true (Nat.le_trans h hn)
theorem takeA' (X : List (BitVec 8)) (y : List AV) : List.take X.length (bvs .u8 X ++ y) = bvs .u8 X := by
  rw [List.take_append_of_le_length (by rw [bvs_length]; exact Nat.le_refl _), bvs_take, List.take_length]
theorem one1_bvs (k : IntKind) (X : List (BitVec 8)) : (bvs k X).all one1 = true := by
  induction X with
  | nil => rfl
  | cons q r ih => rw [bvs_cons, List.all_cons, ih]; rfl
theorem u8T (X : List (BitVec 8)) (S : List AV) : u8s (List.take X.length (bvs .u8 X ++ S)) = some (X.map fun v => UInt8.ofNat v.toNat) := by rw [takeA', u8s_bvs]
end Go.Eng
