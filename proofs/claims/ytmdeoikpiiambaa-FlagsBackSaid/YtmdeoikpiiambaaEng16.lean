/- The engine, part 16: maps whose keys are numbers: made, written, read. Own work. -/
import Derived.Test.YtmdeoikpiiambaaEng6
import Derived.MapKept
import Derived.Carry
set_option linter.unusedVariables false
set_option linter.unusedSimpArgs false
namespace Go.Eng
open Go Go.MapKept Go.RowKit

/-- a map type whose keys are numbers: the keys' kind, the elements' type -/
def mapT (P : Program) (t : TypeId) : Option (IntKind × TypeId) := match P.underlying t with
  | some (.map kt et) => match P.underlying kt with
    | some (.int k) => some (k, et)
    | _ => none
  | _ => none
theorem mapT_some {P : Program} {t : TypeId} {q : IntKind × TypeId} (h : mapT P t = some q) : ∃ kt, P.underlying t = some (.map kt q.2) ∧ P.underlying kt = some (.int q.1) := by
  unfold mapT at h
  split at h
  · rename_i kt et h1
    split at h
    · rename_i k h2; cases h; exact ⟨kt, h1, h2⟩
    · cases h
  · cases h
def zval (P : Program) (t : TypeId) : Option AV := ((P.info? t).bind (·.zero)).map cst
theorem zval_run {P : Program} {t z} (h : zval P t = some z) (w : World) (H : RO) (B : Names) : ∃ v, (zeroValue t).run P w = .ok v w ∧ Den H B z v := by
  unfold zval at h
  obtain ⟨v, hv, e⟩ := Option.map_eq_some_iff.1 h
  obtain ⟨i, hi, hz⟩ := Option.bind_eq_some_iff.1 hv
  exact ⟨v, by simp [zeroValue, typeInfo, hi, hz], by rw [← e]; exact den_cst H B v⟩
/-- what stands at a key -/
def mfind (z : Int) : List Int → List AV → Option AV
  | k :: ks, v :: vs => if k = z then some v else mfind z ks vs
  | _, _ => none
def mputv (z : Int) (x : AV) : List Int → List AV → List AV
  | k :: ks, v :: vs => if k = z then x :: vs else v :: mputv z x ks vs
  | _, _ => [x]
def mputk (z : Int) : List Int → List Int
  | k :: ks => if k = z then k :: ks else k :: mputk z ks
  | [] => [z]
theorem mfind_cons (z k : Int) (ks : List Int) (v : AV) (vs : List AV) : mfind z (k :: ks) (v :: vs) = if k = z then some v else mfind z ks vs := rfl
theorem mfind_nil (z : Int) (vs : List AV) : mfind z [] vs = none := by cases vs <;> rfl
theorem mputv_cons (z k : Int) (x : AV) (ks : List Int) (v : AV) (vs : List AV) : mputv z x (k :: ks) (v :: vs) = if k = z then x :: vs else v :: mputv z x ks vs := rfl
theorem mputv_nil (z : Int) (x : AV) (vs : List AV) : mputv z x [] vs = [x] := by cases vs <;> rfl
theorem mputk_cons (z k : Int) (ks : List Int) : mputk z (k :: ks) = if k = z then k :: ks else k :: mputk z ks := rfl
theorem mputk_nil (z : Int) : mputk z [] = [z] := rfl
section
variable {P : Program} {w0 w : World} {FP : Nat → Prop} {wr rd : Nat → Bool} {m : Mem} {nx : Nat} {H : RO} {B : Names} {N : Nat} {t : Slots} {a : Act}

theorem mfind_spec (k : IntKind) (z : Int) : ∀ (keys : List Int) (vals : List AV) (ms : List MapEntry) (i : Nat), ms.map (·.key) = keys.map (Value.int k) → DenL H B vals (ms.map (·.val)) →
    (Instr.findNow (.int k) (.int k z) ms i = some none ∧ mfind z keys vals = none ∧ mputk z keys = keys ++ [z] ∧ ∀ x, mputv z x keys vals = vals ++ [x]) ∨
    ∃ j e v, Instr.findNow (.int k) (.int k z) ms i = some (some (i + j, e.val)) ∧ ms[j]? = some e ∧ e.key = .int k z ∧ mfind z keys vals = some v ∧ Den H B v e.val ∧ mputk z keys = keys ∧ ∀ x, mputv z x keys vals = vals.set j x
  | [], vals, ms, i, h1, h2 => by
    have : ms = [] := by simpa using h1
    subst this
    simp only [List.map_nil] at h2
    have hv : vals = [] := by
      have := h2.length
      exact List.eq_nil_of_length_eq_zero (by simpa using this.symm)
    subst hv
    exact .inl ⟨rfl, rfl, rfl, fun x => rfl⟩
  | y :: ks, vals, [], i, h1, h2 => by simp at h1
  | y :: ks, vals, e :: ms, i, h1, h2 => by
    simp only [List.map_cons, List.cons.injEq] at h1
    obtain ⟨hk, hr⟩ := h1
    cases vals with
    | nil => simp only [List.map_cons, DenL] at h2; cases h2
    | cons v vs =>
      simp only [List.map_cons, DenL] at h2
      obtain ⟨u, s, e1, hd, hds⟩ := h2
      simp only [List.cons.injEq] at e1
      obtain ⟨rfl, rfl⟩ := e1
      have hs : Instr.sameNow (.int k) (.int k z) e.key = some (z == y) := by rw [hk]; simp [Instr.sameNow]
      by_cases hz : y = z
      · subst hz
        refine .inr ⟨0, e, v, ?_, rfl, hk, by simp [mfind], hd, by simp [mputk], fun x => by simp [mputv]⟩
        simp [Instr.findNow, hs]
      · have hb : (z == y) = false := by simpa using Ne.symm hz
        rw [hb] at hs
        have hf : Instr.findNow (.int k) (.int k z) (e :: ms) i = Instr.findNow (.int k) (.int k z) ms (i + 1) := by simp [Instr.findNow, hs]
        rw [hf]
        simp only [mfind, mputk, mputv, if_neg hz]
        rcases mfind_spec k z ks vs ms (i + 1) hr hds with ⟨a1, a2, a3, a4⟩ | ⟨j, e', v', a1, a2, a3, a4, a5, a6, a7⟩
        · exact .inl ⟨a1, a2, by rw [a3]; rfl, fun x => by rw [a4]; rfl⟩
        · exact .inr ⟨j + 1, e', v', by rw [a1]; congr 3; omega, by simpa using a2, a3, a4, a5, by rw [a6], fun x => by rw [a7]; rfl⟩

theorem undef_den0 : Den H B (.tup []) undef := by simp only [Den]; exact ⟨[], rfl, by simp [DenL]⟩
def mkmx (P : Program) (ty : TypeId) (m : Mem) (nx : Nat) (K : Kv) : Prop := ∃ q, mapT P ty = some q ∧ K (.map nx) ((nx, .mp q.1 [] []) :: m) (nx + 1)
theorem mkmx_ok (hi : Inv w0 FP wr m nx H B w) {ty : TypeId} {K : Kv} (h : mkmx P ty m nx K) {o : Oper} (ho : o.op = .makeMap ty none) : Gives P w0 FP wr H B K ((execOp a.eval o).run P w) := by
  obtain ⟨q, hq, h⟩ := h
  obtain ⟨g1, g2⟩ := hi.renew (m' := m) (fun _ _ h => h) hi.keep (b := w.heap.size) (.inl rfl) (w' := w.alloc (.map #[] 0)) rfl rfl rfl (by simp)
    (fun k hk _ => heap_alloc_old w _ k hk) (o := .mp q.1 [] []) ⟨[], 0, heap_alloc_new _ _, rfl, by simp [DenL]⟩
  refine ⟨.map (some w.heap.size), .map nx, _, _, _, w.alloc (.map #[] 0), .inl ?_, g1, g2, by simp only [Den]; exact ⟨_, bind1_same _ _ _, rfl⟩, h⟩
  unfold execOp
  simp only [ho, Option.map_none, Sem.run_bind, run_makeMap, Result.andThen_ok, Sem.run_pure]
def lkk (ok : Bool) (d : AV) (k : AV → Prop) : Option AV → Prop
  | some v => k (if ok then .tup [v, .bool true] else v)
  | none => k (if ok then .tup [d, .bool false] else d)
def lookx (P : Program) (m : Mem) (ty : TypeId) (x i : AV) (ok : Bool) (k : AV → Prop) : Prop := match x, i with
  | .map n, .int q0 z => match look m n with
    | some (.mp q1 keys vals) => ∃ q, mapT P ty = some q ∧ q0 = q.1 ∧ q1 = q.1 ∧ ∃ d, zval P q.2 = some d ∧ lkk ok d k (mfind z keys vals)
    | _ => False
  | _, _ => False
theorem lookx_ok (hi : Inv w0 FP wr m nx H B w) {ty : TypeId} {x i : AV} {ok : Bool} {k : AV → Prop} (h : lookx P m ty x i ok k) {u1 u2 : Value} (h1 : Den H B x u1) (h2 : Den H B i u2) :
    ∃ v av, (Instr.lookup ty u1 u2 ok).run P w = .ok v w ∧ Den H B av v ∧ k av := by
  unfold lookx at h
  split at h
  · rename_i n q0 z
    split at h
    · rename_i q1 keys vals hn
      obtain ⟨q, hq, rfl, rfl, d, hz, h⟩ := h
      simp only [Den] at h1 h2
      obtain ⟨b, hb, rfl⟩ := h1; subst h2
      obtain ⟨kt, hm, hk⟩ := mapT_some hq
      obtain ⟨b', hb', ⟨ms, c, hh, hks, hdv⟩, _⟩ := hi.obj n _ hn
      rw [hb] at hb'; cases hb'
      obtain ⟨zv, hzr, hzd⟩ := zval_run hz w H B
      have hik : IsKey (.int q.1) (.int q.1 z) := by simp [IsKey]
      rcases mfind_spec q.1 z keys vals ms 0 hks hdv with ⟨a1, a2, _, _⟩ | ⟨j, e, v, a1, a2, a3, a4, a5, _, _⟩
      · rw [a2] at h
        simp only [lkk] at h
        refine ⟨if ok then .tuple #[zv, .bool false] else zv, _, ?_, ?_, h⟩
        · simp only [Instr.lookup, Sem.run_bind, run_underlying hm, MapKept.run_getObj_map hh, run_checkKey hk hik, run_findKey hk a1, hzr, Result.andThen_ok, Sem.run_pure]
        · cases ok
          · exact hzd
          · simp only [if_true, Den, DenL]
            exact ⟨_, rfl, zv, _, rfl, hzd, _, [], rfl, rfl, rfl⟩
      · rw [a4] at h
        simp only [lkk] at h
        refine ⟨if ok then .tuple #[e.val, .bool true] else e.val, _, ?_, ?_, h⟩
        · simp only [Instr.lookup, Sem.run_bind, run_underlying hm, MapKept.run_getObj_map hh, run_checkKey hk hik, run_findKey hk a1, Result.andThen_ok, Sem.run_pure]
        · cases ok
          · exact a5
          · simp only [if_true, Den, DenL]
            exact ⟨_, rfl, e.val, _, rfl, a5, _, [], rfl, rfl, rfl⟩
    · exact h.elim
  · exact h.elim
def insx (P : Program) (wr : Nat → Bool) (ty : TypeId) (x i y : AV) (m : Mem) (nx : Nat) (K : Kv) : Prop := match x, i with
  | .map n, .int q0 z => match look m n with
    | some (.mp q1 keys vals) => ∃ q, mapT P ty = some q ∧ q0 = q.1 ∧ q1 = q.1 ∧ wr n = true ∧ K (.tup []) (upd m n (.mp q.1 (mputk z keys) (mputv z y keys vals))) nx
    | _ => False
  | _, _ => False
theorem insx_ok (hi : Inv w0 FP wr m nx H B w) {ty : TypeId} {x i y : AV} {K : Kv} (h : insx P wr ty x i y m nx K) {u1 u2 u3 : Value} (h1 : Den H B x u1) (h2 : Den H B i u2) (h3 : Den H B y u3) {r : Result Next}
    (hr : r = ((do Instr.mapUpdate ty u1 u2 u3; pure .skip : Sem Next)).run P w) : Gives P w0 FP wr H B K r := by
  subst hr
  unfold insx at h
  split at h
  · rename_i n q0 z
    split at h
    · rename_i q1 keys vals hn
      obtain ⟨q, hq, rfl, rfl, hw, h⟩ := h
      simp only [Den] at h1 h2
      obtain ⟨b, hb, rfl⟩ := h1; subst h2
      obtain ⟨kt, hm, hk⟩ := mapT_some hq
      obtain ⟨b', hb', ⟨ms, c, hh, hks, hdv⟩, _⟩ := hi.obj n _ hn
      rw [hb] at hb'; cases hb'
      have hik : IsKey (.int q.1) (.int q.1 z) := by simp [IsKey]
      have hlt : b < w.heap.size := (Array.getElem?_eq_some_iff.1 hh).1
      rcases mfind_spec q.1 z keys vals ms 0 hks hdv with ⟨a1, a2, a3, a4⟩ | ⟨j, e, v, a1, a2, a3, a4, a5, a6, a7⟩
      · refine ⟨undef, .tup [], _, nx, B, { w with heap := w.heap.setIfInBounds b (.map (ms.toArray.push { key := .int q.1 z, val := u3, born := c }) (c + 1)) }, .inr ⟨?_, rfl⟩, ?_, Ext.refl _ _, undef_den0, h⟩
        · simp only [Instr.mapUpdate, Sem.run_bind, run_underlying hm, MapKept.run_getObj_map hh, run_checkKey hk hik, run_findKey hk a1, run_setObj_map _ hh, Result.andThen_ok, Sem.run_pure]
        · refine hi.write hn hw hb _ (by simp) rfl rfl rfl (fun k hk => (heap_set hh).2 k hk) ⟨ms ++ [{ key := .int q.1 z, val := u3, born := c }], c + 1, ?_, ?_, ?_⟩
          · rw [(heap_set hh).1]; simp
          · rw [a3]; simp [hks]
          · rw [a4]; simp only [List.map_append, List.map_cons, List.map_nil]; exact hdv.append (by simp only [DenL]; exact ⟨_, [], rfl, h3, rfl⟩)
      · have hkt : (((ms.toArray)[0 + j]?).map (·.key)).getD (.int q.1 z) = .int q.1 z := by
          rw [Nat.zero_add, List.getElem?_toArray, a2]; exact a3
        refine ⟨undef, .tup [], _, nx, B, { w with heap := w.heap.setIfInBounds b (.map (ms.toArray.modify (0 + j) fun e => { e with key := .int q.1 z, val := u3 }) c) }, .inr ⟨?_, rfl⟩, ?_, Ext.refl _ _, undef_den0, h⟩
        · simp only [Instr.mapUpdate, Sem.run_bind, run_underlying hm, MapKept.run_getObj_map hh, run_checkKey hk hik, run_findKey hk a1, Result.andThen_ok]
          rw [hkt]
          simp only [run_keyThatStays hik, Sem.run_bind, run_setObj_map _ hh, Result.andThen_ok, Sem.run_pure]
        · rw [Nat.zero_add]
          refine hi.write hn hw hb _ (by simp) rfl rfl rfl (fun k hk => (heap_set hh).2 k hk) ⟨ms.modify j fun e => { e with key := .int q.1 z, val := u3 }, c, ?_, ?_, ?_⟩
          · rw [(heap_set hh).1]; simp
          · rw [a6, ← hks]
            apply List.ext_getElem?
            intro i
            simp only [List.getElem?_map, List.getElem?_modify]
            by_cases hij : j = i
            · subst hij; rw [a2]; simp [a3]
            · simp [hij]
          · rw [a7]
            have : (ms.modify j fun e => { e with key := .int q.1 z, val := u3 }).map (·.val) = (ms.map (·.val)).set j u3 := by
              apply List.ext_getElem?
              intro i
              simp only [List.getElem?_map, List.getElem?_modify, List.getElem?_set]
              by_cases hij : j = i
              · subst hij
                have hjl : j < ms.length := (List.getElem?_eq_some_iff.1 a2).1
                rw [a2]; simp [hjl]
              · simp [hij]
            rw [this]
            exact hdv.set j h3
    · exact h.elim
  · exact h.elim
end
end Go.Eng
