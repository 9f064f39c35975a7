/- The engine, part 10: a function's contract; a contract met in a greater memory; a law's call. Own work. -/
import Derived.Test.YtmdeoikpiiambaaEng9
set_option linter.unusedVariables false
set_option linter.unusedSimpArgs false
namespace Go.Eng
open Go Go.RowKit

section
variable {P : Program} {w0 w : World} {FP : Nat → Prop} {wr rd : Nat → Bool} {m : Mem} {nx : Nat} {H : RO} {B : Names} {N : Nat} {t : Slots} {a : Act}

/-! results -/
def resx (P : Program) (t : Slots) (m : Mem) : List ResultVar → (List AV → Prop) → Prop
  | [], k => k []
  | .tmp s :: r, k => withv (look t s) fun v => resx P t m r fun l => k (v :: l)
  | .cell s ty :: r, k => withv (look t s) fun p => loadx P (fun _ => true) m ty p fun v => resx P t m r fun l => k (v :: l)
def resv : List AV → AV
  | [v] => v
  | l => .tup l
def resF (tmps : Array Value) : ResultVar → Sem Value := fun
    | .tmp t => pure (tmps.getD t undef)
    | .cell a t => do loadVar t (← asAddr (tmps.getD a undef))
theorem resx_ok (hi : Inv w0 FP wr m nx H B w) (hs : SlotsOk N H B t a) : ∀ {rs : List ResultVar} {k : List AV → Prop}, resx P t m rs k → ∃ vs l, (rs.mapM (resF a.tmps)).run P w = .ok vs w ∧ DenL H B l vs ∧ k l
  | [], k, h => ⟨[], [], rfl, by simp [DenL], h⟩
  | .tmp s :: r, k, h => by
    obtain ⟨v, e, h⟩ := withv_elim h
    obtain ⟨vs, l, h1, h2, h3⟩ := resx_ok hi hs h
    refine ⟨a.tmps.getD s undef :: vs, v :: l, ?_, by simp only [DenL]; exact ⟨_, _, rfl, hs.2 s v e, h2⟩, h3⟩
    simp only [List.mapM_cons, resF, Sem.run_bind, Sem.run_pure, Result.andThen_ok]
    rw [h1]
    rfl
  | .cell s ty :: r, k, h => by
    obtain ⟨p, e, h⟩ := withv_elim h
    have hp := hs.2 s p e
    obtain ⟨u, av, h1, h2, h⟩ := loadx_ok hi h hp
    obtain ⟨vs, l, h3, h4, h5⟩ := resx_ok hi hs h
    have h1' := h1 w (hi.sees _)
    refine ⟨u :: vs, av :: l, ?_, by simp only [DenL]; exact ⟨_, _, rfl, h2, h4⟩, h5⟩
    have hform : ∃ ad, a.tmps.getD s undef = .pointer (some ad) := by
      generalize a.tmps.getD s undef = z at h1'
      cases z with
      | pointer o => cases o with
        | some ad => exact ⟨ad, rfl⟩
        | none => simp [Instr.loadAt, Instr.sureAddr] at h1'
      | _ => simp [Instr.loadAt, Instr.sureAddr] at h1'
    obtain ⟨ad, had⟩ := hform
    rw [had] at h1'
    simp only [Instr.loadAt, Instr.sureAddr, Sem.run_bind, Sem.run_pure, Result.andThen_ok] at h1'
    simp only [List.mapM_cons, resF, Sem.run_bind, had, asAddr, Sem.run_pure, Result.andThen_ok, h1']
    rw [h3]
    rfl
theorem results_eq (fn : Func) (tmps : Array Value) : results fn tmps = (do let vs ← fn.results.mapM (resF tmps); pure (if h : vs.size = 1 then vs[0] else .tuple vs)) := by
  unfold results
  congr 1
theorem results_run {fn : Func} {tmps : Array Value} {vs : List Value} (h : (fn.results.toList.mapM (resF tmps)).run P w = .ok vs w) :
    (results fn tmps).run P w = .ok (if h : vs.toArray.size = 1 then vs.toArray[0] else .tuple vs.toArray) w := by
  have e : (fn.results.mapM (resF tmps)).run P w = .ok vs.toArray w := by
    rw [← Array.toArray_toList (xs := fn.results), List.mapM_toArray, Sem.run_map]
    rw [Array.toArray_toList, h]
    rfl
  rw [results_eq, Sem.run_bind, e]
  rfl
theorem resv_den {l : List AV} {vs : List Value} (h : DenL H B l vs) : Den H B (resv l) (if h : vs.toArray.size = 1 then vs.toArray[0] else .tuple vs.toArray) := by
  match l, vs, h with
  | [], vs, h => simp only [DenL] at h; subst h; simp only [resv, Den]; exact ⟨[], by simp, by simp [DenL]⟩
  | [x], vs, h =>
    simp only [DenL] at h
    obtain ⟨v, s, rfl, h1, rfl⟩ := h
    simpa [resv] using h1
  | x :: y :: r, vs, h =>
    have hl := h.length
    have h' := h
    simp only [resv, Den]
    refine ⟨vs, ?_, h'⟩
    rw [dif_neg (by simp at hl ⊢; omega)]

/-- the end: the result, and the memory that is told of, in names that the contract tells -/
def Fin (nx0 : Nat) (wr : Nat → Bool) (m : Mem) (nx : Nat) (K : Kv) (v : AV) : Prop :=
  ∃ (l : List (Nat × Nat)) (v0 : AV) (m0 : Mem) (nx1 : Nat), (l.all (fun p => decide (nx0 ≤ p.1) && decide (p.1 < nx1)) = true ∧ nx0 ≤ nx1) ∧ v = renA (rf l nx nx1) v0 ∧ memLe (rf l nx nx1) wr wr m m0 ∧ injOn (rf l nx nx1) m0 ∧ (∀ n, wr n = false → ∃ o, look m0 n = some o) ∧ K v0 m0 nx1
def FinK (nx0 : Nat) (wr : Nat → Bool) (m : Mem) (nx : Nat) (K : Kv) : List AV → Prop := fun l => Fin nx0 wr m nx K (resv l)
def RetK (P : Program) (rs : List ResultVar) (nx0 : Nat) (wr : Nat → Bool) (K : Kv) : Kx := fun e t m nx => match e with
  | .ret => resx P t m rs (FinK nx0 wr m nx K)
  | .normal => resx P t m rs (FinK nx0 wr m nx K)
  | _ => False
def params : List AV → Nat → Slots
  | [], _ => []
  | v :: r, i => (i, v) :: params r (i + 1)
theorem params_look : ∀ {l : List AV} {i s : Nat} {v : AV}, look (params l i) s = some v → i ≤ s ∧ l[s - i]? = some v
  | [], i, s, v, h => by cases h
  | x :: r, i, s, v, h => by
    simp only [params, look] at h
    split at h
    · rename_i e; subst e; cases h; exact ⟨Nat.le_refl _, by simp⟩
    · have ⟨h1, h2⟩ := params_look h
      refine ⟨by omega, ?_⟩
      rw [show s - i = (s - (i + 1)) + 1 by omega]
      simpa using h2
theorem fn_okG {fz : Bool} {g : FuncId} {fn : Func} {c : Code} {args : List AV} {K : Kv} (hf : P.funcs[g]? = some fn) (hb : fn.body = some c) (ha : args.length ≤ fn.ntmps)
    (h : exec P fz fn.ntmps nx wr c (params args 0) m nx (RetK P fn.results.toList nx wr K)) : CallG fz P g args wr m nx K := by
  intro w0 FP H B w vs hi hd
  refine calls_of_wp hf hb ?_
  have hsz : vs.toArray.size = args.length := by simp [hd.length]
  have hs : SlotsOk fn.ntmps H B (params args 0) { tmps := vs.toArray ++ Array.replicate (fn.ntmps - vs.toArray.size) undef, defers := [] } := by
    refine ⟨by simp only [Array.size_append, Array.size_replicate, hsz]; omega, fun s av e => ?_⟩
    obtain ⟨_, h2⟩ := params_look e
    rw [Nat.sub_zero] at h2
    obtain ⟨v, hv, hdv⟩ := hd.get s av h2
    have hlt : s < vs.length := (List.getElem?_eq_some_iff.1 hv).1
    rw [Array.getD_eq_getD_getElem?, Array.getElem?_append_left (by simpa using hlt)]
    simpa [hv] using hdv
  refine wp_mono (exec_ok c h hi hs) fun e a' w' hp => ?_
  obtain ⟨h0, hdf, t, m', nx', B', H', hk, hx, hH, h1, h2⟩ := hp
  have key : resx P t m' fn.results.toList (FinK nx wr m' nx' K) → a'.defers = [] ∧ ∃ v, (results fn a'.tmps).run P w' = .ok v w' ∧ ∃ v' av m' nx' B' H', Ending.returned v = .returned v' ∧ (fz = false → H' = H) ∧ Inv w0 FP wr m' nx' H' B' w' ∧ Ext H B H' B' ∧ Den H' B' av v' ∧ K av m' nx' := by
    intro hk
    obtain ⟨vs, rl, hr, hdl, l', v0, m0, nx1, ⟨hkeys, hle⟩, hv, hml, hinj, hkeep, hK⟩ := resx_ok h1 h2 hk
    have hle' : Le nx l' wr [] m' nx' [] m0 nx1 := ⟨hkeys, hle, trivial, hml, hinj, hkeep, fun n hn => hi.wrn n (Nat.le_trans hle hn)⟩
    have h3 := hle'.ok h1 (a := a') (N := a'.tmps.size) ⟨rfl, fun s av e => by cases e⟩
    refine ⟨hdf, _, results_run hr, _, v0, m0, nx1, fun n => B' (rf l' nx' nx1 n), H', rfl, hH.2, h3.1, ⟨hH.1, fun n b e => ?_⟩, ?_, hK⟩
    · have hn : n < nx := by
        rcases Nat.lt_or_ge n nx with h' | h'
        · exact h'
        · rw [hi.fresh n h'] at e; cases e
      exact h3.2.2 n b hn (hx n b hn e)
    · have := resv_den hdl
      rw [hv] at this
      exact den_ren v0 this
  cases e with
  | normal => exact key hk
  | ret => exact key hk
  | exit i => exact hk.elim
  | goto l => exact h0.elim
  | panic ch => exact h0.elim
  | outgrown => exact h0.elim
theorem fn_ok {g : FuncId} {fn : Func} {c : Code} {args : List AV} {K : Kv} (hf : P.funcs[g]? = some fn) (hb : fn.body = some c) (ha : args.length ≤ fn.ntmps)
    (h : exec P true fn.ntmps nx wr c (params args 0) m nx (RetK P fn.results.toList nx wr K)) : CallOk P g args wr m nx K := fn_okG hf hb ha h

/-! a contract, met in a greater memory -/
def callLe (f : Nat → Nat) (wr wr0 : Nat → Bool) (m : Mem) : Mem → Prop
  | [] => True
  | (n, o) :: r => look m (f n) = some (renO f o) ∧ (wr0 n = true → wr (f n) = true) ∧ callLe f wr wr0 m r
theorem callLe_look {f : Nat → Nat} {wr wr0 : Nat → Bool} {m : Mem} : ∀ {m0 : Mem}, callLe f wr wr0 m m0 → ∀ n o, look m0 n = some o → look m (f n) = some (renO f o) ∧ (wr0 n = true → wr (f n) = true)
  | [], _, s, v, e => by cases e
  | (k, x) :: r, h, s, v, e => by
    simp only [callLe] at h
    simp only [look] at e
    split at e
    · rename_i hk; cases e; subst hk; exact ⟨h.1, h.2.1⟩
    · exact callLe_look h.2.2 s v e
/-- an argument of the caller's, as the callee sees it -/
def argx (m : Mem) (own : List Nat) (f : Nat → Nat) (x x0 : AV) : Prop :=
  match x, x0 with
  | .sl n off len cap, .ro len0 xs => len0 = len ∧ own.contains n = false ∧ match look m n with
    | some (.cells l _) => xs.all flat = true ∧ (len = 0 → xs.length = 0) ∧ off + xs.length ≤ l.length ∧ xs = (l.drop off).take xs.length
    | some (.fz l _) => xs.all flat = true ∧ (len = 0 → xs.length = 0) ∧ off + xs.length ≤ l.length ∧ xs = (l.drop off).take xs.length
    | _ => False
  | .nils, .ro len0 xs => len0 = 0 ∧ xs = []
  | x, x0 => x = renA f x0
def argsx (m : Mem) (own : List Nat) (f : Nat → Nat) : List AV → List AV → Prop
  | [], [] => True
  | x :: r, x0 :: r0 => argx m own f x x0 ∧ argsx m own f r r0
  | _, _ => False
def delAll (m : Mem) : List Nat → Mem
  | [] => m
  | n :: r => delAll (del m n) r
theorem look_delAll : ∀ {ns : List Nat} {m : Mem} {k : Nat} {o : AObj}, look (delAll m ns) k = some o → look m k = some o ∧ k ∉ ns
  | [], m, k, o, h => ⟨h, by simp⟩
  | n :: r, m, k, o, h => by
    obtain ⟨h1, h2⟩ := look_delAll (ns := r) h
    have hne : n ≠ k := fun e => by subst e; rw [look_del_same] at h1; cases h1
    rw [look_del_other hne] at h1
    exact ⟨h1, by simp [h2, Ne.symm hne]⟩
theorem look_delAll_of : ∀ {ns : List Nat} {m : Mem} {k : Nat} {o : AObj}, look m k = some o → k ∉ ns → look (delAll m ns) k = some o
  | [], m, k, o, h, _ => h
  | n :: r, m, k, o, h, hn => by
    simp only [List.mem_cons, not_or] at hn
    exact look_delAll_of (ns := r) (by rw [look_del_other (Ne.symm hn.1)]; exact h) hn.2
theorem look_append (x y : Mem) (k : Nat) : look (x ++ y) k = (look x k).or (look y k) := by
  induction x with
  | nil => rfl
  | cons p r ih =>
    obtain ⟨n, o⟩ := p
    simp only [List.cons_append, look]
    split
    · rfl
    · exact ih
theorem look_renM {f : Nat → Nat} (hf : ∀ a b, f a = f b → a = b) (m : Mem) (n : Nat) : look (renM f m) (f n) = (look m n).map (renO f) := by
  induction m with
  | nil => rfl
  | cons p r ih =>
    obtain ⟨k, o⟩ := p
    simp only [renM, look]
    by_cases e : k = n
    · subst e; simp
    · rw [if_neg (fun e' => e (hf _ _ e')), if_neg e]; exact ih
theorem look_renM_some {f : Nat → Nat} {m : Mem} {k : Nat} {o : AObj} (h : look (renM f m) k = some o) : ∃ n, k = f n := by
  induction m with
  | nil => cases h
  | cons p r ih =>
    obtain ⟨n, o'⟩ := p
    simp only [renM, look] at h
    split at h
    · rename_i e; exact ⟨n, e.symm⟩
    · exact ih h
theorem args_den (hi : Inv w0 FP wr m nx H B w) {own : List Nat} {f : Nat → Nat} {H0 : RO} (hH : ∀ ad v, H ad = some v → H0 ad = some v)
    (hown : ∀ n o b, look m n = some o → own.contains n = false → B n = some b → ∀ ad : Addr, ad.block = b → H0 ad = w.cell? ad) : ∀ {args args0 : List AV} {vs : List Value}, argsx m own f args args0 → DenL H B args vs → DenL H0 (fun n => B (f n)) args0 vs
  | [], [], vs, _, hd => by simpa only [DenL] using hd
  | [], _ :: _, vs, ha, _ => ha.elim
  | _ :: _, [], vs, ha, _ => ha.elim
  | x :: r, x0 :: r0, vs, ha, hd => by
    obtain ⟨ha1, ha2⟩ := ha
    simp only [DenL] at hd ⊢
    obtain ⟨v, s, rfl, hv, hs⟩ := hd
    refine ⟨v, s, rfl, ?_, args_den hi hH hown ha2 hs⟩
    unfold argx at ha1
    split at ha1
    · rename_i n off len cap len0 xs
      obtain ⟨rfl, hnown, ha1⟩ := ha1
      split at ha1
      · rename_i lc ty hn
        obtain ⟨hfl, hl0, hle, hxs⟩ := ha1
        simp only [Den] at hv ⊢
        obtain ⟨b, ad, hb, rfl, hlc, had⟩ := hv
        refine ⟨some ad, cap, rfl, hlc, ?_⟩
        obtain ⟨b', cs, hb', hc, hdl⟩ := obj_cells hi hn
        rw [hb] at hb'; cases hb'
        refine DenAt.of_get fun j x hj => ?_
        have hjl : j < xs.length := (List.getElem?_eq_some_iff.1 hj).1
        have hcz : cap ≠ 0 := by
          intro h0; subst h0
          have := hl0 (by omega)
          omega
        have hj2 := hj
        rw [hxs, List.getElem?_take, if_pos hjl, List.getElem?_drop] at hj2
        obtain ⟨u, hu, hdu⟩ := hdl.get _ _ hj2
        refine ⟨ad, u, rfl, ?_, flat_den (List.all_eq_true.1 hfl x (List.mem_of_getElem? hj)) hdu⟩
        rw [had hcz, Nat.zero_add, Addr.add_mid, hown n _ b hn hnown hb _ rfl, cell_at w hc]
        exact hu
      · rename_i lc ty hn
        obtain ⟨hfl, hl0, hle, hxs⟩ := ha1
        simp only [Den] at hv ⊢
        obtain ⟨b, ad, hb, rfl, hlc, had⟩ := hv
        refine ⟨some ad, cap, rfl, hlc, ?_⟩
        obtain ⟨b', cs, fr, hb', hc, hdl⟩ := obj_fz hi hn
        rw [hb] at hb'; cases hb'
        refine DenAt.of_get fun j x hj => ?_
        have hjl : j < xs.length := (List.getElem?_eq_some_iff.1 hj).1
        have hcz : cap ≠ 0 := by
          intro h0; subst h0
          have := hl0 (by omega)
          omega
        have hj2 := hj
        rw [hxs, List.getElem?_take, if_pos hjl, List.getElem?_drop] at hj2
        obtain ⟨u, hu, hdu⟩ := hdl.get _ _ hj2
        refine ⟨ad, u, rfl, ?_, flat_den (List.all_eq_true.1 hfl x (List.mem_of_getElem? hj)) hdu⟩
        rw [had hcz, Nat.zero_add, Addr.add_mid, hown n _ b hn hnown hb _ rfl, cell_at w hc]
        exact hu
      · exact ha1.elim
    · obtain ⟨rfl, rfl⟩ := ha1
      simp only [Den] at hv ⊢
      subst hv
      exact ⟨none, 0, rfl, Nat.le_refl _, by simp only [DenAt]⟩
    · subst ha1
      exact den_ren x0 (hv.mono ⟨hH, fun _ _ e => e⟩)
theorem look_of_mem {m : Mem} {p : Nat × AObj} (hp : p ∈ m) : ∃ o, look m p.1 = some o := by
  induction m with
  | nil => cases hp
  | cons q r ih =>
    obtain ⟨k', o'⟩ := q
    simp only [look]
    split
    · exact ⟨_, rfl⟩
    · rename_i hne
      rcases List.mem_cons.1 hp with hp | hp
      · subst hp; exact absurd rfl hne
      · exact ih hp
theorem CallOk.use {fz : Bool} {g : FuncId} {args0 : List AV} {wr0 : Nat → Bool} {m0 : Mem} {nx0 : Nat} {R : Kv} (h : CallOk P g args0 wr0 m0 nx0 R) (l : List (Nat × Nat)) {args : List AV} {K : Kv}
    (hk : l.all (fun p => decide (p.1 < nx0)) = true) (hm : callLe (rf l nx nx0) wr wr0 m m0) (hinj : injOn (rf l nx nx0) m0) (hall : (List.range nx0).all (fun n => (look m0 n).isSome) = true) (hwr0 : ∀ n, nx0 ≤ n → wr0 n = true)
    (hkeep0 : ∀ n, wr0 n = false → (look m0 n).isSome = true) (ha : argsx m (m0.map fun p => rf l nx nx0 p.1) (rf l nx nx0) args args0)
    (hK : ∀ v m' nx', R v m' nx' → noRo v = true ∧ noRoM m' = true ∧ nx0 ≤ nx' ∧ K (renA (rf l nx nx0) v) (renM (rf l nx nx0) m' ++ delAll m (m0.map fun p => rf l nx nx0 p.1)) (nx + (nx' - nx0))) : CallG fz P g args wr m nx K := by
  intro w0 FP H B w vs hi hd
  generalize hfd : rf l nx nx0 = f at *
  have hlive : ∀ n, n < nx0 → ∃ o, look m0 n = some o := fun n hn => Option.isSome_iff_exists.1 (List.all_eq_true.1 hall n (List.mem_range.2 hn))
  have hflt : ∀ n, n < nx0 → f n < nx := fun n hn => by
    obtain ⟨o, ho⟩ := hlive n hn
    exact hi.lt_nx (callLe_look hm n o ho).1
  have hfge : ∀ n, nx0 ≤ n → f n = n - nx0 + nx := fun n hn => by
    rw [← hfd]
    have hl : look l n = none := by
      induction l with
      | nil => rfl
      | cons x r ih =>
        obtain ⟨k, y⟩ := x
        simp only [List.all_cons, Bool.and_eq_true, decide_eq_true_eq] at hk
        have hr : ∀ {l : List (Nat × Nat)}, l.all (fun p => decide (p.1 < nx0)) = true → look l n = none := by
          intro l hl
          induction l with
          | nil => rfl
          | cons x r ih =>
            obtain ⟨k, y⟩ := x
            simp only [List.all_cons, Bool.and_eq_true, decide_eq_true_eq] at hl
            simp only [look]
            rw [if_neg (by omega)]
            exact ih hl.2
        simp only [look]
        rw [if_neg (by omega)]
        exact hr hk.2
    unfold rf
    rw [hl]
    simp only
    rw [if_neg (by omega)]
  have hfinj : ∀ a b, f a = f b → a = b := fun a b e => by
    rcases Nat.lt_or_ge a nx0 with ha' | ha' <;> rcases Nat.lt_or_ge b nx0 with hb' | hb'
    · obtain ⟨o1, h1⟩ := hlive a ha'
      obtain ⟨o2, h2⟩ := hlive b hb'
      exact injOn_look hinj a b o1 o2 h1 h2 e
    · have := hflt a ha'; rw [e, hfge b hb'] at this; omega
    · have := hflt b hb'; rw [← e, hfge a ha'] at this; omega
    · rw [hfge a ha', hfge b hb'] at e; omega
  -- the callee's view
  let FP0 : Nat → Prop := fun b => ∃ n o, look m0 n = some o ∧ wr0 n = true ∧ B (f n) = some b
  let H0 : RO := fun ad => open Classical in if ∃ n o, look m0 n = some o ∧ B (f n) = some ad.block then none else w.cell? ad
  have hH : ∀ ad v, H ad = some v → H0 ad = some v := fun ad v e => by
    obtain ⟨g1, g2⟩ := hi.ro ad v e
    show (open Classical in if ∃ n o, look m0 n = some o ∧ B (f n) = some ad.block then none else w.cell? ad) = some v
    rw [if_neg]
    · exact g1
    · rintro ⟨n, o, hn, hb⟩
      exact g2 _ _ (callLe_look hm n o hn).1 hb
  have hi0 : Inv w FP0 wr0 m0 nx0 H0 (fun n => B (f n)) w := by
    refine ⟨Nat.le_refl _, rfl, rfl, rfl, fun _ _ _ => rfl, fun ad v e => ?_, fun n o hn => ?_, fun n n' o o' h1 h2 e => ?_, fun n hn => ?_, hwr0, fun n hn => Option.isSome_iff_exists.1 (hkeep0 n hn)⟩
    · have e' : (open Classical in if ∃ n o, look m0 n = some o ∧ B (f n) = some ad.block then none else w.cell? ad) = some v := e
      split at e'
      · cases e'
      · rename_i hno
        exact ⟨e', fun n o hn hb => hno ⟨n, o, hn, hb⟩⟩
    · obtain ⟨h1, h2⟩ := callLe_look hm n o hn
      obtain ⟨b, hb, ho, hl, r1, r2⟩ := hi.obj _ _ h1
      have hx : Ext H B H0 B := ⟨hH, fun _ _ e => e⟩
      refine ⟨b, hb, holds_ren (ho.mono hx rfl), hl, fun e => .inl ⟨n, o, hn, e, hb⟩, fun e => ⟨hl, ?_⟩⟩
      rintro ⟨n', o', hn', hw', hb'⟩
      have := hi.inj _ _ _ _ h1 (callLe_look hm n' o' hn').1 (by rw [hb, hb'])
      have := hfinj _ _ this
      subst this
      rw [hw'] at e; cases e
    · exact hfinj _ _ (hi.inj _ _ _ _ (callLe_look hm n o h1).1 (callLe_look hm n' o' h2).1 e)
    · exact hi.fresh _ (by rw [hfge n hn]; omega)
  have hownr : ∀ k, (m0.map fun p => f p.1).contains k = false → ∀ n o, look m0 n = some o → f n ≠ k := fun k hk n o hn e => by
    have : k ∈ m0.map fun p => f p.1 := by
      rw [← e]
      clear hk hm hinj hall hkeep0 h ha hK hlive hflt hfinj hi0 hwr0 hH
      induction m0 with
      | nil => cases hn
      | cons p r ih =>
        obtain ⟨k', o'⟩ := p
        simp only [look] at hn
        split at hn
        · rename_i e'; subst e'; simp
        · simp only [List.map_cons, List.mem_cons]; exact .inr (ih hn)
    rw [List.contains_iff_mem.2 this] at hk; cases hk
  have hd0 : DenL H0 (fun n => B (f n)) args0 vs := by
    refine args_den hi hH (fun n o b hn hno hb ad hadb => ?_) ha hd
    show (open Classical in if ∃ n o, look m0 n = some o ∧ B (f n) = some ad.block then none else w.cell? ad) = w.cell? ad
    rw [if_neg]
    rintro ⟨n', o', hn', hb'⟩
    have := hi.inj _ _ _ _ (callLe_look hm n' o' hn').1 hn (by rw [hb', hb, hadb])
    exact hownr n hno n' o' hn' this
  refine (h w FP0 H0 (fun n => B (f n)) w vs hi0 hd0).mono fun e w' he => ?_
  obtain ⟨v, av, m', nx', B', H0', rfl, _, hi', hx', hdv, hR⟩ := he
  obtain ⟨hn1, hn2, hle, hk2⟩ := hK av m' nx' hR
  let B2 : Names := fun k => if k < nx then B k else B' (k - nx + nx0)
  have hb2 : ∀ n b, B' n = some b → B2 (f n) = some b := fun n b hb => by
    show (if f n < nx then B (f n) else B' (f n - nx + nx0)) = some b
    rcases Nat.lt_or_ge n nx0 with hn | hn
    · rw [if_pos (hflt n hn)]
      obtain ⟨o, ho⟩ := hlive n hn
      obtain ⟨c, hc, _⟩ := hi.obj _ _ (callLe_look hm n o ho).1
      have := hx'.nm n c hc
      rw [hb] at this; cases this
      exact hc
    · rw [hfge n hn, if_neg (by omega), show n - nx0 + nx - nx + nx0 = n by omega]
      exact hb
  have hx2 : Ext H B H B2 := ⟨fun _ _ e => e, fun k b hb => by
    have : k < nx := by
      rcases Nat.lt_or_ge k nx with h' | h'
      · exact h'
      · rw [hi.fresh k h'] at hb; cases hb
    show (if k < nx then B k else B' (k - nx + nx0)) = some b
    rw [if_pos this]; exact hb⟩
  have hFP0 : ∀ b, FP0 b → FP b ∨ w0.heap.size ≤ b := by
    rintro b ⟨n, o, hn, hw, hb⟩
    obtain ⟨h1, h2⟩ := callLe_look hm n o hn
    obtain ⟨c, hc, _, _, r, _⟩ := hi.obj _ _ h1
    rw [hb] at hc; cases hc
    exact r (h2 hw)
  have hnew : ∀ b, FP0 b ∨ w.heap.size ≤ b → FP b ∨ w0.heap.size ≤ b := fun b h => h.elim (hFP0 b) (fun h => .inr (Nat.le_trans hi.size h))
  -- what a name of the new memory stands for
  have hsplit : ∀ k o, look (renM f m' ++ delAll m (m0.map fun p => f p.1)) k = some o → (∃ n o', k = f n ∧ look m' n = some o' ∧ o = renO f o') ∨ (look m k = some o ∧ k ∉ (m0.map fun p => f p.1)) := fun k o hk => by
    rw [look_append] at hk
    cases h1 : look (renM f m') k with
    | some o1 =>
      rw [h1] at hk; cases hk
      obtain ⟨n, rfl⟩ := look_renM_some h1
      rw [look_renM hfinj] at h1
      obtain ⟨o', ho', e⟩ := Option.map_eq_some_iff.1 h1
      exact .inl ⟨n, o', rfl, ho', e.symm⟩
    | none =>
      rw [h1] at hk
      exact .inr (look_delAll hk)
  have hBf : ∀ n o', look m' n = some o' → ∃ b, B' n = some b ∧ B2 (f n) = some b := fun n o' hn => by
    obtain ⟨b, hb, _⟩ := hi'.obj n o' hn
    exact ⟨b, hb, hb2 n b hb⟩
  have hold : ∀ k o, look m k = some o → B2 k = B k := fun k o hk => by
    show (if k < nx then B k else B' (k - nx + nx0)) = B k
    rw [if_pos (hi.lt_nx hk)]
  -- a block of the caller's that the callee was not handed
  have hapart : ∀ k o b, look m k = some o → k ∉ (m0.map fun p => f p.1) → B k = some b → b < w.heap.size ∧ ¬ FP0 b := fun k o b hk hkn hb => by
    obtain ⟨c, hc, _, hl, _⟩ := hi.obj k o hk
    rw [hb] at hc; cases hc
    refine ⟨hl, ?_⟩
    rintro ⟨n, o', hn, _, hb'⟩
    have := hi.inj _ _ _ _ (callLe_look hm n o' hn).1 hk (by rw [hb', hb])
    have hc : (m0.map fun p => f p.1).contains k = false := by
      cases h : (m0.map fun p => f p.1).contains k with
      | false => rfl
      | true => exact absurd (List.contains_iff_mem.1 h) hkn
    exact hownr k hc n o' hn this
  refine ⟨v, renA f av, _, _, B2, H, rfl, fun _ => rfl, ?_, hx2, den_back hb2 av hn1 hdv, hk2⟩
  refine ⟨Nat.le_trans hi.size hi'.size, hi'.os.trans hi.os, hi'.tape.trans hi.tape, hi'.out.trans hi.out, fun b hb hf => ?_, fun ad u e => ⟨(hi'.ro ad u (hx'.ro ad u (hH ad u e))).1, fun k o hk => ?_⟩, fun k o hk => ?_, fun k k' o o' h1 h2 e => ?_, fun k hk => ?_, fun k hk => hi.wrn k (by omega), fun k hk => ?_⟩
  · rw [hi'.frame b (Nat.lt_of_lt_of_le hb hi.size) (fun h => by rcases hFP0 b h with h' | h'; exact hf h'; omega)]
    exact hi.frame b hb hf
  · rcases hsplit k o hk with ⟨n, o', rfl, hn, rfl⟩ | ⟨hk', _⟩
    · obtain ⟨b, hb, hb'⟩ := hBf n o' hn
      rw [hb', ← hb]
      exact (hi'.ro ad u (hx'.ro ad u (hH ad u e))).2 n o' hn
    · rw [hold k o hk']
      exact (hi.ro ad u e).2 k o hk'
  · rcases hsplit k o hk with ⟨n, o', rfl, hn, rfl⟩ | ⟨hk', hkn⟩
    · obtain ⟨b, hb, ho, hl, r1, r2⟩ := hi'.obj n o' hn
      refine ⟨b, hb2 n b hb, holds_back hb2 (noRoM_look hn2 hn) ho, hl, ?_⟩
      rcases Nat.lt_or_ge n nx0 with hnl | hnl
      · obtain ⟨o1, ho1⟩ := hlive n hnl
        obtain ⟨c, hc, _, _, r3, r4⟩ := hi.obj _ _ (callLe_look hm n o1 ho1).1
        have := hx'.nm n c hc
        rw [hb] at this; cases this
        exact ⟨r3, r4⟩
      · have hw1 : wr (f n) = true := hi.wrn _ (by rw [hfge n hnl]; omega)
        refine ⟨fun _ => hnew b (r1 (hwr0 n hnl)), fun e => ?_⟩
        rw [hw1] at e; cases e
    · obtain ⟨b, hb, ho, hl, r1, r2⟩ := hi.obj k o hk'
      obtain ⟨g1, g2⟩ := hapart k o b hk' hkn hb
      exact ⟨b, by rw [hold k o hk']; exact hb, ho.mono hx2 (hi'.frame b g1 g2), Nat.lt_of_lt_of_le hl hi'.size, r1, r2⟩
  · have hmix : ∀ n o1 k' o2, look m' n = some o1 → look m k' = some o2 → k' ∉ (m0.map fun p => f p.1) → B2 (f n) = B2 k' → False := fun n o1 k' o2 hn hk' hkn e => by
      obtain ⟨b, hb, hb'⟩ := hBf n o1 hn
      rw [hb', hold k' o2 hk'] at e
      obtain ⟨g1, g2⟩ := hapart k' o2 b hk' hkn e.symm
      obtain ⟨c, hc, _, _, r1, r2⟩ := hi'.obj n o1 hn
      rw [hb] at hc; cases hc
      rcases Nat.lt_or_ge n nx0 with hnl | hnl
      · obtain ⟨o3, ho3⟩ := hlive n hnl
        obtain ⟨c, hc, _⟩ := hi.obj _ _ (callLe_look hm n o3 ho3).1
        have := hx'.nm n c hc
        rw [hb] at this; cases this
        have hkk := hi.inj _ _ _ _ (callLe_look hm n o3 ho3).1 hk' (by rw [hc, ← e])
        have hc : (m0.map fun p => f p.1).contains k' = false := by
          cases h : (m0.map fun p => f p.1).contains k' with
          | false => rfl
          | true => exact absurd (List.contains_iff_mem.1 h) hkn
        exact hownr k' hc n o3 ho3 hkk
      · rcases r1 (hwr0 n hnl) with h' | h'
        · exact g2 h'
        · omega
    rcases hsplit k o h1 with ⟨n, o1, rfl, hn, rfl⟩ | ⟨hk1, hkn1⟩ <;> rcases hsplit k' o' h2 with ⟨n', o2, rfl, hn', rfl⟩ | ⟨hk2', hkn2⟩
    · obtain ⟨b, hb, hb'⟩ := hBf n o1 hn
      obtain ⟨c, hc, hc'⟩ := hBf n' o2 hn'
      rw [hb', hc'] at e
      rw [hi'.inj n n' _ _ hn hn' (by rw [hb, hc, e])]
    · exact (hmix n o1 k' o' hn hk2' hkn2 e).elim
    · exact (hmix n' o2 k o hn' hk1 hkn1 e.symm).elim
    · rw [hold k o hk1, hold k' o' hk2'] at e
      exact hi.inj _ _ _ _ hk1 hk2' e
  · show (if k < nx then B k else B' (k - nx + nx0)) = none
    rw [if_neg (by omega)]
    exact hi'.fresh _ (by omega)
  · obtain ⟨o, ho⟩ := hi.keep k hk
    rw [look_append]
    by_cases hkm : k ∈ (m0.map fun p => f p.1)
    · have : ∃ n, k = f n ∧ ∃ o, look m0 n = some o := by
        obtain ⟨p, hp, e⟩ := List.mem_map.1 hkm
        exact ⟨p.1, e.symm, look_of_mem hp⟩
      obtain ⟨n, rfl, o1, ho1⟩ := this
      have hw0 : wr0 n = false := by
        cases hw : wr0 n with
        | false => rfl
        | true => have := (callLe_look hm n o1 ho1).2 hw; rw [hk] at this; cases this
      obtain ⟨o2, ho2⟩ := hi'.keep n hw0
      exact ⟨renO f o2, by rw [look_renM hfinj, ho2]; rfl⟩
    · cases h1 : look (renM f m') k with
      | some o1 => exact ⟨o1, rfl⟩
      | none => exact ⟨o, look_delAll_of ho hkm⟩

/-! a law's call -/
theorem law_ok {g : FuncId} {args : List AV} {W : World} {vs : List Value} (h : CallOk P g args (fun _ => true) [] 0 fun v _ _ => v = .bool true) (hd : DenL (fun a => W.cell? a) (fun _ => none) args vs) :
    Calls P g vs.toArray W fun e W' => e = .returned (.bool true) ∧ Below W.heap.size W W' := by
  have hi : Inv W (fun _ => False) (fun _ => true) [] 0 (fun a => W.cell? a) (fun _ => none) W :=
    ⟨Nat.le_refl _, rfl, rfl, rfl, fun _ _ _ => rfl, fun a v e => ⟨e, fun n o hn => by cases hn⟩, fun n o hn => by (cases hn), fun n n' o o' hn => by (cases hn), fun _ _ => rfl, fun _ _ => rfl, fun n hn => by cases hn⟩
  refine (h W _ _ _ W vs hi hd).mono fun e w' he => ?_
  obtain ⟨v, av, m', nx', B', H', rfl, _, h1, h2, h3, rfl⟩ := he
  simp only [Den] at h3
  subst h3
  exact ⟨rfl, h1.os, h1.tape, h1.out, h1.size, fun k hk => h1.frame k hk (fun h => h)⟩
theorem ro_int {W : World} {k : IntKind} {A : Option Addr} {len cap : Nat} {xs : List Int} (hl : xs.length = len) (hlc : len ≤ cap) (h : 0 < len → ∃ a, A = some a ∧ ∀ i, i < len → W.cell? (a.add i) = some (.int k (xs.getD i 0))) :
    Den (fun a => W.cell? a) B (.ro len (xs.map (AV.int k))) (.slice A len cap) := by
  simp only [Den]
  refine ⟨A, cap, rfl, hlc, DenAt.of_get fun j x hj => ?_⟩
  have hjl : j < xs.length := by have := (List.getElem?_eq_some_iff.1 hj).1; simpa using this
  obtain ⟨a, rfl, hc⟩ := h (by omega)
  simp [List.getElem?_eq_getElem hjl] at hj
  subst hj
  refine ⟨a, _, rfl, by rw [Nat.zero_add]; exact hc j (by omega), by simp only [Den]; simp [List.getD_eq_getElem?_getD, List.getElem?_eq_getElem hjl]⟩
end
end Go.Eng
