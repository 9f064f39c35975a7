/- The engine, part 17: what a call left is held fast, and read only from then on. Own work. -/
import Derived.Test.YtmdeoikpiiambaaEng13
set_option linter.unusedVariables false
set_option linter.unusedSimpArgs false
namespace Go.Eng
open Go

section
variable {P : Program} {w0 w : World} {FP : Nat → Prop} {wr rd : Nat → Bool} {m : Mem} {nx : Nat} {H : RO} {B : Names} {N : Nat} {t : Slots} {a : Act}
/-- a call whose result is held fast -/
theorem CallOk.ro1 {g : FuncId} {args0 args : List AV} {K R : Kv} (h : CallOk P g args0 (fun _ => true) [] 0 R) (ha : argsx m [] (rf [] nx 0) args args0) {V : AV}
    (hR : ∀ v m' nx', R v m' nx' → noRo v = true ∧ noRoM m' = true ∧ ((m' = [] ∧ nx' = 0 ∧ fzA none (renA (fun n => n + nx) v) = V) ∨
      ∃ l ty, m' = [(0, .cells l ty)] ∧ nx' = 1 ∧ fzA (some (nx, renL (fun n => n + nx) l)) (renA (fun n => n + nx) v) = V)) (hK : K V m (nx + 1)) : CallG true P g args wr m nx K := by
  intro w0 FP H B w vs hi hd
  have h1 : CallG false P g args wr m nx fun v m' nx' => (m' = m ∧ nx' = nx ∧ fzA none v = V) ∨ ∃ l ty, m' = (nx, .cells l ty) :: m ∧ nx' = nx + 1 ∧ fzA (some (nx, l)) v = V := by
    refine h.more ha fun v m' nx' hr => ?_
    obtain ⟨g1, g2, g3⟩ := hR v m' nx' hr
    refine ⟨g1, g2, ?_⟩
    rcases g3 with ⟨rfl, rfl, e⟩ | ⟨l, ty, rfl, rfl, e⟩
    · exact .inl ⟨rfl, rfl, e⟩
    · refine .inr ⟨_, ty, ?_, rfl, e⟩
      simp only [renM, renO, Nat.zero_add, List.cons_append, List.nil_append]
  refine (h1 w0 FP H B w vs hi hd).mono fun e w' he => ?_
  obtain ⟨v, av, m', nx', B', H', rfl, hH, hi', hx', hdv, hr⟩ := he
  rcases hr with ⟨rfl, rfl, e⟩ | ⟨l, ty, rfl, rfl, e⟩
  · refine ⟨v, V, m', nx' + 1, B', H', rfl, (fun h => by cases h), hi'.bump, hx', ?_, hK⟩
    rw [← e]
    exact fz_den (o := none) (Ext.refl _ _) (fun k off len cap u hd => by simpa only [fzA] using hd) av hdv
  · obtain ⟨H2, hx2, hi2, hd2⟩ := freeze hi' (n := nx) (l := l) (ty := ty) (by simp [look]) (hi.wrn nx (Nat.le_refl _))
    refine ⟨v, V, m, nx + 1, B', H2, rfl, (fun h => by cases h), hi2.congr fun k => ?_, hx'.trans hx2, ?_, hK⟩
    · by_cases hk : nx = k
      · subst hk
        rw [look_del_same]
        cases hl : look m nx with
        | none => rfl
        | some o => have := hi.lt_nx hl; omega
      · rw [look_del_other hk]
        simp only [look, if_neg hk]
    · rw [← e]; exact hd2 av v hdv
/-- words that are answered: nil, or a slice at its row's begin -/
def Rets (F : AV → AV) (k : IntKind) {w : Nat} (x : List (BitVec w)) (ty : TypeId) : Kv := fun v m nx =>
  (x = [] ∧ v = F .nils ∧ m = [] ∧ nx = 0) ∨ ∃ (cap : Nat) (sp : List Value), v = F (.sl 0 0 x.length cap) ∧ m = [(0, .cells (bvs k x ++ sp.map AV.val) ty)] ∧ nx = 1
theorem CallOk.bytes {F : AV → AV} {k : IntKind} {w : Nat} {x : List (BitVec w)} {ty : TypeId} {g : FuncId} {args0 args : List AV} {K : Kv} (h : CallOk P g args0 (fun _ => true) [] 0 (Rets F k x ty)) (ha : argsx m [] (rf [] nx 0) args args0)
    (hF1 : ∀ o s, fzA o (F s) = F (fzA o s)) (hF2 : ∀ f s, renA f (F s) = F (renA f s)) (hF3 : ∀ s, noRo (F s) = noRo s)
    (hK : K (F (.ro x.length (bvs k x))) m (nx + 1)) : CallG true P g args wr m nx K := by
  refine h.ro1 ha (V := F (.ro x.length (bvs k x))) ?_ hK
  rintro v m' nx' (⟨rfl, rfl, rfl, rfl⟩ | ⟨cap, sp, rfl, rfl, rfl⟩)
  · exact ⟨by rw [hF3]; rfl, rfl, .inl ⟨rfl, rfl, by rw [hF2, hF1]; rfl⟩⟩
  · refine ⟨by rw [hF3]; rfl, by simp only [noRoM, noRoO, noRoL_vals', Bool.and_self], .inr ⟨_, ty, rfl, rfl, ?_⟩⟩
    rw [hF2, hF1]
    simp only [renA, fzA, Nat.zero_add, if_true, renL_vals', List.drop_zero]
    rw [List.take_append_of_le_length (by rw [bvs_length]; exact Nat.le_refl _), bvs_take, List.take_length]
end
end Go.Eng
