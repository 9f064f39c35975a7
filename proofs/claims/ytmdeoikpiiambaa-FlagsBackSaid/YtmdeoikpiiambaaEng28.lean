/- The engine, part 28: small laws of calls and ends. Own work. -/
import Derived.Test.YtmdeoikpiiambaaEng27
import Derived.Test.YtmdeoikpiiambaaEng25
import Derived.Test.YtmdeoikpiiambaaEng18
set_option linter.unusedVariables false
set_option linter.unusedSimpArgs false
namespace Go.Eng
open Go
theorem CallG.weak {fz : Bool} {P : Program} {g : FuncId} {args : List AV} {wr : Nat → Bool} {m : Mem} {nx : Nat} {K K' : Kv} (h : CallG fz P g args wr m nx K) (hk : ∀ v m nx, K v m nx → K' v m nx) : CallG fz P g args wr m nx K' := by
  intro w0 FP H B w vs hi hd
  refine (h w0 FP H B w vs hi hd).mono fun e w' he => ?_
  obtain ⟨v, av, m', nx', B', H', h1, h2, h3, h4, h5, h6⟩ := he
  exact ⟨v, av, m', nx', B', H', h1, h2, h3, h4, h5, hk _ _ _ h6⟩
theorem CallG.any {fz : Bool} {P : Program} {g : FuncId} {args : List AV} {wr : Nat → Bool} {m : Mem} {nx : Nat} {K : Kv} (h : CallG false P g args wr m nx K) : CallG fz P g args wr m nx K := by
  intro w0 FP H B w vs hi hd
  refine (h w0 FP H B w vs hi hd).mono fun e w' he => ?_
  obtain ⟨v, av, m', nx', B', H', h1, h2, h3⟩ := he
  exact ⟨v, av, m', nx', B', H', h1, fun _ => h2 rfl, h3⟩
theorem Fin.keep {nf nx : Nat} {m m0 : Mem} {v : AV} {K : Kv} (hle : nf ≤ nx) (hm : memSame m m0) (hd : (m0.map fun p => p.1).Nodup) (h : K v m0 nx) : Fin nf (fun _ => true) m nx K v :=
  ⟨[], v, m0, nx, ⟨rfl, hle⟩, (renA_id (rf_id rfl) v).symm, memSame_le (rf_id rfl) hm, injOn_id (rf_id rfl) hd, (fun n e => by cases e), h⟩
theorem Fin.keepW {nf nx : Nat} {wr : Nat → Bool} {m m0 : Mem} {v : AV} {K : Kv} (hle : nf ≤ nx) (hm : memSame m m0) (hd : (m0.map fun p => p.1).Nodup) (hk : ∀ n, wr n = false → ∃ o, look m0 n = some o) (h : K v m0 nx) : Fin nf wr m nx K v :=
  ⟨[], v, m0, nx, ⟨rfl, hle⟩, (renA_id (rf_id rfl) v).symm, memSame_le (rf_id rfl) hm, injOn_id (rf_id rfl) hd, hk, h⟩
/-- a contract that holds nothing fast, and leaves new objects -/
theorem CallG.newE {fz : Bool} {P : Program} {g : FuncId} {args0 args : List AV} {wr : Nat → Bool} {m : Mem} {nx : Nat} {K R : Kv} (h : CallG false P g args0 (fun _ => true) [] 0 R)
    (ha : args = renL (fun n => n + nx) args0) (hK : ∀ v m' nx', R v m' nx' → K (renA (fun n => n + nx) v) (renM (fun n => n + nx) m' ++ m) (nx + nx')) : CallG fz P g args wr m nx K := by
  refine h.useE [] rfl trivial List.nodup_nil rfl (fun _ _ => rfl) (fun _ e => by cases e) (by rw [rf_zero]; exact ha) ?_
  intro v m' nx' hR
  rw [rf_zero]
  exact ⟨Nat.zero_le _, by simpa only [List.map_nil, delAll, Nat.sub_zero] using hK v m' nx' hR⟩
/-- a call that answers its second argument -/
theorem CallG.retA {fz : Bool} {P : Program} {g : FuncId} {a a0 x : AV} {wr : Nat → Bool} {m : Mem} {nx : Nat} {K : Kv} (h : ∀ u : Value, CallOk P g [a0, .val u] (fun _ => true) [] 0 fun v m nx => v = .val u ∧ m = [] ∧ nx = 0)
    (ha : argx m [] (rf [] nx 0) a a0) (hK : K x m nx) : CallG fz P g [a, x] wr m nx K := by
  intro w0 FP H B w vs hi hd
  have hd' := hd
  simp only [DenL] at hd'
  obtain ⟨v0, s, rfl, h0, u, s', rfl, hu, hs⟩ := hd'
  have hc : CallG false P g [a, .val u] wr m nx (fun v m' nx' => v = .val u ∧ m' = m ∧ nx' = nx) := (h u).flatv ⟨ha, rfl, trivial⟩ (fun _ => rfl) rfl ⟨rfl, rfl, rfl⟩
  refine (hc w0 FP H B w _ hi (by simp only [DenL, Den]; exact ⟨v0, _, rfl, h0, u, _, rfl, rfl, hs⟩)).mono fun e w' he => ?_
  obtain ⟨v, av, m', nx', B', H', rfl, hH, hi', hx', hdv, rfl, rfl, rfl⟩ := he
  have e : v = u := by simpa only [Den] using hdv
  subst e
  exact ⟨v, x, _, _, B', H', rfl, fun _ => hH rfl, hi', hx', hu.mono hx', hK⟩
/-- a contract that tells a value alone, and holds nothing fast -/
theorem CallG.flat0 {fz : Bool} {P : Program} {g : FuncId} {args0 args : List AV} {wr : Nat → Bool} {m : Mem} {nx : Nat} {K : Kv} {V : AV} (h : CallG false P g args0 (fun _ => true) [] 0 fun v m nx => v = V ∧ m = [] ∧ nx = 0)
    (ha : argsx m [] (rf [] nx 0) args args0) (hf : ∀ f, renA f V = V) (hn : noRo V = true) (hK : K V m nx) : CallG fz P g args wr m nx K := CallOk.flatv (CallG.any h) ha hf hn hK
/-- the same memory, told in another order -/
theorem CallG.congr {fz : Bool} {P : Program} {g : FuncId} {args : List AV} {wr : Nat → Bool} {m m0 : Mem} {nx : Nat} {K : Kv} (h : CallG fz P g args wr m0 nx K) (hm : ∀ k, look m0 k = look m k) : CallG fz P g args wr m nx K :=
  fun w0 FP H B w vs hi hd => h w0 FP H B w vs (hi.congr hm) hd
end Go.Eng
