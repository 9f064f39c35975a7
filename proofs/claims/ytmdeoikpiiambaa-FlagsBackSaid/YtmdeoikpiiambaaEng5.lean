/- The engine, part 5: operations that make memory, or write it. Own work. -/
import Derived.Test.YtmdeoikpiiambaaEng4
import Derived.Maps.AppendAt
import Derived.Laws.OwnMore
import Derived.Laws.MakeOwn
import Derived.Laws.CopyRow
set_option linter.unusedVariables false
set_option linter.unusedSimpArgs false
namespace Go.Eng
open Go

section
variable {P : Program} {w0 w : World} {FP : Nat → Prop} {wr rd : Nat → Bool} {m : Mem} {nx : Nat} {H : RO} {B : Names} {N : Nat} {t : Slots} {a : Act}

def bind1 (B : Names) (n b : Nat) : Names := fun k => if k = n then some b else B k
theorem bind1_same (B : Names) (n b : Nat) : bind1 B n b n = some b := by simp [bind1]
theorem ext_bind1 {H : RO} {B : Names} {n b : Nat} (h : B n = none) : Ext H B H (bind1 B n b) := ⟨fun _ _ e => e, fun k c e => by
  have : k ≠ n := fun hk => by rw [hk, h] at e; cases e
  simp [bind1, this, e]⟩
/-- A new name for a block that is new, or that of a name that is given up. -/
theorem Inv.renew (h : Inv w0 FP wr m nx H B w) {m' : Mem} (hm : ∀ k o, look m' k = some o → look m k = some o) (hkp : ∀ k, wr k = false → ∃ o, look m' k = some o) {b : Nat}
    (hb : (b = w.heap.size ∨ ∃ n o, look m n = some o ∧ wr n = true ∧ B n = some b ∧ look m' n = none)) {w' : World} (h2 : w'.os = w.os) (h3 : w'.tape = w.tape) (h4 : w'.output = w.output)
    (hsz : w.heap.size ≤ w'.heap.size) (hf : ∀ k, k < w.heap.size → k ≠ b → w'.heap[k]? = w.heap[k]?) {o : AObj} (ho : HoldsO H (bind1 B nx b) w' b o) :
    Inv w0 FP wr ((nx, o) :: m') (nx + 1) H (bind1 B nx b) w' ∧ Ext H B H (bind1 B nx b) := by
  have hx : Ext H B H (bind1 B nx b) := ext_bind1 (h.fresh nx (Nat.le_refl _))
  have hlt : b < w'.heap.size := ho.lt
  have hnb : ∀ k o', look m' k = some o' → B k ≠ some b := fun k o' hk e => by
    rcases hb with rfl | ⟨n, o2, hn, _, hbn, hdel⟩
    · obtain ⟨c, hc, _, hcl, _⟩ := h.obj k o' (hm k o' hk)
      rw [hc] at e; injection e with e; omega
    · have := h.inj k n _ _ (hm k o' hk) hn (by rw [e, hbn])
      subst this
      rw [hdel] at hk; cases hk
  have hfp : FP b ∨ w0.heap.size ≤ b := by
    rcases hb with rfl | ⟨n, o2, hn, hw, hbn, _⟩
    · exact .inr h.size
    · obtain ⟨c, hc, _, _, hr, _⟩ := h.obj n o2 hn
      rw [hbn] at hc; injection hc with hc; subst hc
      exact hr hw
  refine ⟨⟨Nat.le_trans h.size hsz, h2.trans h.os, h3.trans h.tape, h4.trans h.out, ?_, ?_, ?_, ?_, ?_, ?_, ?_⟩, hx⟩
  · intro k hk hfk
    have hkb : k ≠ b := fun e => by subst e; rcases hfp with h' | h'; exact hfk h'; omega
    exact (hf k (Nat.lt_of_lt_of_le hk h.size) hkb).trans (h.frame k hk hfk)
  · intro ad v e
    obtain ⟨g1, g2⟩ := h.ro ad v e
    have hal : ad.block < w.heap.size := block_lt_of_cell g1
    have hab : ad.block ≠ b := fun e' => by
      rcases hb with rfl | ⟨n, o2, hn, _, hbn, _⟩
      · omega
      · exact g2 n o2 hn (by rw [hbn, e'])
    refine ⟨(World.cell?_of_block (w := w) (hf _ hal hab)).trans g1, fun k o' hk => ?_⟩
    simp only [look] at hk
    by_cases hkn : nx = k
    · subst hkn
      rw [bind1_same]
      intro e'; injection e' with e'; exact hab e'.symm
    · rw [if_neg hkn] at hk
      simp only [bind1, Ne.symm hkn, if_false]
      exact g2 k o' (hm k o' hk)
  · intro k o' hk
    simp only [look] at hk
    by_cases hkn : nx = k
    · subst hkn
      rw [if_pos rfl] at hk
      injection hk with hk; subst hk
      exact ⟨b, bind1_same _ _ _, ho, hlt, fun _ => hfp, fun e => by rw [h.wrn nx (Nat.le_refl _)] at e; cases e⟩
    · rw [if_neg hkn] at hk
      obtain ⟨c, hc, hho, hcl, r⟩ := h.obj k o' (hm k o' hk)
      have hcb : c ≠ b := fun e => hnb k o' hk (by rw [hc, e])
      exact ⟨c, hx.nm _ _ hc, hho.mono hx (hf c hcl hcb), Nat.lt_of_lt_of_le hcl hsz, r⟩
  · intro k k' o1 o2 e1 e2 e
    simp only [look] at e1 e2
    by_cases hk : nx = k <;> by_cases hk' : nx = k'
    · rw [← hk, ← hk']
    · rw [if_neg hk'] at e2
      subst hk
      rw [bind1_same] at e
      simp only [bind1, Ne.symm hk', if_false] at e
      exact absurd e.symm (hnb k' o2 e2)
    · rw [if_neg hk] at e1
      subst hk'
      rw [bind1_same] at e
      simp only [bind1, Ne.symm hk, if_false] at e
      exact absurd e (hnb k o1 e1)
    · rw [if_neg hk] at e1; rw [if_neg hk'] at e2
      simp only [bind1, Ne.symm hk, Ne.symm hk', if_false] at e
      exact h.inj k k' _ _ (hm _ _ e1) (hm _ _ e2) e
  · intro k hk
    have : k ≠ nx := by omega
    simp only [bind1, this, if_false]
    exact h.fresh k (by omega)
  · exact fun k hk => h.wrn k (by omega)
  · intro k hk
    obtain ⟨o', ho'⟩ := hkp k hk
    by_cases e : nx = k
    · exact ⟨o, by simp [look, e]⟩
    · exact ⟨o', by simp [look, e, ho']⟩

abbrev Kv := AV → Mem → Nat → Prop
/-- What an operation leaves: a world that fits, and a value (none: nothing). -/
def Gives (P : Program) (w0 : World) (FP : Nat → Prop) (wr : Nat → Bool) (H : RO) (B : Names) (K : Kv) (r : Result Next) : Prop :=
  ∃ v av m' nx' B' w', (r = .ok (.value v) w' ∨ (r = .ok .skip w' ∧ v = undef)) ∧ Inv w0 FP wr m' nx' H B' w' ∧ Ext H B H B' ∧ Den H B' av v ∧ K av m' nx'

/-! new memory -/
theorem new_ok (hi : Inv w0 FP wr m nx H B w) {K : Kv} {l : List AV} {cs : List Value} {ty : TypeId} (hd : DenL H B l cs) (av : AV) (v : Value) (hv : Den H (bind1 B nx w.heap.size) av v)
    (hK : K av ((nx, .cells l ty) :: m) (nx + 1)) {r : Result Next} (hr : r = .ok (.value v) { w with heap := w.heap.push (.cells cs.toArray ty) }) : Gives P w0 FP wr H B K r := by
  have hx : Ext H B H (bind1 B nx w.heap.size) := ext_bind1 (hi.fresh nx (Nat.le_refl _))
  obtain ⟨h1, h2⟩ := hi.renew (m' := m) (fun _ _ h => h) hi.keep (b := w.heap.size) (.inl rfl) (w' := { w with heap := w.heap.push (.cells cs.toArray ty) }) rfl rfl rfl (by simp)
    (fun k hk _ => by show (w.heap.push _)[k]? = _; rw [Array.getElem?_push, if_neg (by omega)]) (o := .cells l ty) ⟨cs, by show (w.heap.push _)[w.heap.size]? = _; simp, hd.mono hx⟩
  exact ⟨v, av, _, _, _, _, .inl hr, h1, h2, hv, hK⟩
def allocx (P : Program) (ty : TypeId) (m : Mem) (nx : Nat) (K : Kv) : Prop := ∃ z, zav P ty = some z ∧ K (.ptr nx 0) ((nx, .cells z ty) :: m) (nx + 1)
theorem allocx_ok (hi : Inv w0 FP wr m nx H B w) {ty : TypeId} {K : Kv} (h : allocx P ty m nx K) {o : Oper} (ho : o.op = .alloc ty) : Gives P w0 FP wr H B K ((execOp a.eval o).run P w) := by
  obtain ⟨z, hz, h⟩ := h
  obtain ⟨v, hv, hd⟩ := zav_run hz w H B
  refine new_ok hi hd (.ptr nx 0) (.pointer (some ⟨w.heap.size, 0, none⟩)) (by simp only [Den]; exact ⟨_, bind1_same _ _ _, rfl⟩) h ?_
  unfold execOp
  simp only [ho, Instr.alloc, Sem.run_bind, hv, Result.andThen_ok, newVar, newRow, run_newObj, Sem.run_pure, Array.toArray_toList]
def boxx (ty : TypeId) (x : AV) (m : Mem) (nx : Nat) (K : Kv) : Prop := isTup x = false ∧ K (.ptr nx 0) ((nx, .cells (acells x) ty) :: m) (nx + 1)
theorem boxx_ok (hi : Inv w0 FP wr m nx H B w) {ty : TypeId} {x : AV} {K : Kv} (h : boxx ty x m nx K) {o : Oper} {y : Operand} (ho : o.op = .box ty y) (hx : Den H B x (a.eval y)) : Gives P w0 FP wr H B K ((execOp a.eval o).run P w) := by
  obtain ⟨ht, h⟩ := h
  refine new_ok hi (den_cells hx ht) (.ptr nx 0) (.pointer (some ⟨w.heap.size, 0, none⟩)) (by simp only [Den]; exact ⟨_, bind1_same _ _ _, rfl⟩) h ?_
  unfold execOp
  simp only [ho, Instr.box, Sem.run_bind, Result.andThen_ok, newVar, newRow, run_newObj, Sem.run_pure, Array.toArray_toList]
def zfill (z : List AV) (n : Nat) : List AV := (List.range n).map fun i => z.getD (i % z.length) (.tup [])
theorem zfill_den {z : List AV} {vs : List Value} (h : DenL H B z vs) (n : Nat) : n = 0 ∨ 0 < z.length → DenL H B (zfill z n) ((List.range n).map fun i => vs.toArray[i % vs.toArray.size]!) := by
  intro hn
  refine DenL.of_get (by simp [zfill]) fun i x v h1 h2 => ?_
  have hi : i < n := by have := (List.getElem?_eq_some_iff.1 h1).1; simpa [zfill] using this
  have hz : 0 < z.length := by omega
  have hm : i % z.length < z.length := Nat.mod_lt _ hz
  simp [zfill, List.getElem?_range hi] at h1
  simp [List.getElem?_range hi] at h2
  obtain ⟨u, hu, hd⟩ := h.get (i % z.length) (z.getD (i % z.length) (.tup [])) (by simp [List.getElem?_eq_getElem hm])
  rw [← h.length] at hu
  subst h1
  have : v = u := by
    rw [← h2, h.length] at *
    simp [hu]
  subst this
  simpa [List.getD_eq_getElem?_getD] using hd
theorem zfill_one (z : AV) (n : Nat) : zfill [z] n = List.replicate n z := by
  apply List.ext_getElem
  · simp [zfill]
  · intro i h1 h2; simp [zfill, Nat.mod_one]
def bslx (P : Program) (ty : TypeId) (len : Nat) (parts : List (Nat × AV)) (m : Mem) (nx : Nat) (K : Kv) : Prop :=
  ∃ e, elemT P ty = some e ∧ ∃ s, sizeT P e = some s ∧ len * s ≤ 16777216 ∧ ∃ z, zav P e = some z ∧ (len * s = 0 ∨ 0 < z.length) ∧ ∃ l, fillA (fun i => some (i * s, s)) (zfill z (len * s)) parts = some l ∧ K (.sl nx 0 len len) ((nx, .cells l e) :: m) (nx + 1)
theorem bslx_ok (hi : Inv w0 FP wr m nx H B w) {ty : TypeId} {len : Nat} {parts : List (Nat × AV)} {K : Kv} (h : bslx P ty len parts m nx K) {o : Oper} {ps : Array (Nat × Operand)} (ho : o.op = .buildSlice ty len ps)
    (hl : ps.toList.length = parts.length) (hv : ∀ (j i : Nat) (x : AV) (u : Value) (i' : Nat), parts[j]? = some (i, x) → (ps.toList.map fun p => (p.1, a.eval p.2))[j]? = some (i', u) → i' = i ∧ Den H B x u) :
    Gives P w0 FP wr H B K ((execOp a.eval o).run P w) := by
  obtain ⟨e, he, s, hs, hsm, z, hz, hpos, l, hl', h⟩ := h
  obtain ⟨v, hvr, hd⟩ := zav_run hz w H B
  have hzd := zfill_den hd (len * s) hpos
  obtain ⟨cs', h1, h2⟩ := fillA_ok (vals := ps.toList.map fun p => (p.1, a.eval p.2)) hl' hzd (by simpa using hl) hv
  refine new_ok hi h2 (.sl nx 0 len len) (.slice (some ⟨w.heap.size, 0, none⟩) len len) (by simp only [Den]; exact ⟨_, _, bind1_same _ _ _, rfl, Nat.le_refl _, fun _ => rfl⟩) h ?_
  have hps : (ps.map fun p => (p.1, a.eval p.2)).toList = ps.toList.map fun p => (p.1, a.eval p.2) := by simp
  unfold execOp
  simp only [ho, Instr.buildSlice, Sem.run_bind, run_underlying (elemT_some he), Result.andThen_ok, sizeT_run hs]
  rw [if_neg (by omega)]
  by_cases h0 : len * s = 0
  · rw [h0] at h1
    have hfill : Instr.fill (fun i => some (i * s, s)) ((Array.range 0).map fun x => (#[] : Array Value)[x % (#[] : Array Value).size]!) (ps.map fun x => (x.1, a.eval x.2)).toList = some cs'.toArray := by
      rw [hps, ← h1]
      congr 1
      apply Array.ext'
      simp
    simp only [h0, if_true, Sem.run_bind, Sem.run_pure, Result.andThen_ok, hfill, newRow, run_newObj]
  · have hfill : Instr.fill (fun i => some (i * s, s)) ((Array.range (len * s)).map fun x => v.cells[x % v.cells.size]!) (ps.map fun x => (x.1, a.eval x.2)).toList = some cs'.toArray := by
      rw [hps, ← h1]
      congr 1
      apply Array.ext'
      simp
    simp only [h0, if_false, Sem.run_bind, hvr, Sem.run_pure, Result.andThen_ok, hfill, newRow, run_newObj]
def mkslx (P : Program) (ty : TypeId) (l c : AV) (m : Mem) (nx : Nat) (K : Kv) : Prop :=
  match l, c with
  | .int _ x, .int _ y => ∃ e, elemT P ty = some e ∧ ∃ s, sizeT P e = some s ∧ ∃ bt, bytesT P e = some bt ∧ (0 ≤ x ∧ x ≤ y ∧ y ≤ 9223372036854775807 ∧ bt * y.toNat ≤ 281474976710656) ∧ ∃ z, zav P e = some z ∧ z.length = s ∧ 0 < s ∧
      K (.sl nx 0 x.toNat y.toNat) ((nx, .cells (zfill z (y.toNat * s)) e) :: m) (nx + 1)
  | _, _ => False
theorem mkslx_ok (hi : Inv w0 FP wr m nx H B w) {ty : TypeId} {l c : AV} {K : Kv} (h : mkslx P ty l c m nx K) {o : Oper} {y z : Operand} (ho : o.op = .makeSlice ty y z) (h1 : Den H B l (a.eval y)) (h2 : Den H B c (a.eval z)) :
    Gives P w0 FP wr H B K ((execOp a.eval o).run P w) := by
  unfold mkslx at h
  split at h
  · rename_i q1 x q2 y'
    obtain ⟨e, he, s, hs, bt, hbt, hb, zz, hz, hzl, hsp, h⟩ := h
    simp only [Den] at h1 h2
    obtain ⟨v, hvr, hd⟩ := zav_run hz w H B
    unfold zav at hz
    obtain ⟨vv, hvv, _⟩ := Option.map_eq_some_iff.1 hz
    obtain ⟨i, hii, hzz⟩ := Option.bind_eq_some_iff.1 hvv
    have hvz : vv = v := by simp [zeroValue, typeInfo, hii, hzz] at hvr; exact hvr
    subst hvz
    have hsz : i.size = s := by unfold sizeT at hs; rw [hii] at hs; simpa using hs
    have hby : i.bytes = bt := by unfold bytesT at hbt; rw [hii] at hbt; simpa using hbt
    have hr := run_make (P := P) w ty e i vv (elemT_some he) hii hzz q1 q2 x y' hb.1 hb.2.1 (by
      have : ((bt * y'.toNat : Nat) : Int) ≤ 281474976710656 := by omega
      rw [hby]
      rw [Int.natCast_mul, Int.toNat_of_nonneg (by omega)] at this
      exact this) hb.2.2.1
    have hzd := zfill_den hd (y'.toNat * s) (.inr (by omega))
    refine new_ok hi hzd (.sl nx 0 x.toNat y'.toNat) (.slice (some ⟨w.heap.size, 0, none⟩) x.toNat y'.toNat) (by simp only [Den]; exact ⟨_, _, bind1_same _ _ _, rfl, by omega, fun _ => rfl⟩) h ?_
    unfold execOp
    simp only [ho, h1, h2, Sem.run_bind, hr, Result.andThen_ok, Sem.run_pure]
    have e2 : madeCells vv.cells (y'.toNat * i.size) = (List.map (fun i => vv.cells.toList.toArray[i % vv.cells.toList.toArray.size]!) (List.range (y'.toNat * s))).toArray := by
      unfold madeCells
      rw [hsz]
      apply Array.ext'
      simp
    rw [e2]
    rfl
  · exact h.elim

/-! stores -/
def spl (l : List AV) (off : Nat) (l' : List AV) : List AV := l.take off ++ l' ++ l.drop (off + l'.length)
theorem spl_all {l l' : List AV} (h : l'.length = l.length) : spl l 0 l' = l' := by simp [spl, h]
def stor (l : List AV) (off : Nat) : AV → List AV
  | .agg l' => spl l off l'
  | v => l.set off v
theorem stor_den {l : List AV} {cs : List Value} (h : DenL H B l cs) {x : AV} {u : Value} (hx : Den H B x u) (ht : isTup x = false) {off : Nat} (hle : off + (acells x).length ≤ l.length) :
    DenL H B (stor l off x) (cs.take off ++ u.cells.toList ++ cs.drop (off + u.cells.toList.length)) := by
  have hc := den_cells hx ht
  have key : DenL H B (spl l off (acells x)) (cs.take off ++ u.cells.toList ++ cs.drop (off + u.cells.toList.length)) := by
    unfold spl
    rw [hc.length]
    exact ((h.take off).append hc).append (h.drop _)
  cases x
  case agg l' => exact key
  all_goals
    have e : ∀ v : AV, off < l.length → spl l off [v] = l.set off v := fun v hv => by
      unfold spl
      rw [List.set_eq_take_append_cons_drop, if_pos hv]
      simp
    simp only [acells] at key hle
    simp only [List.length_cons, List.length_nil] at hle
    rw [e _ (by omega)] at key
    exact key
def stx (P : Program) (wr : Nat → Bool) (ty : TypeId) (p x : AV) (m : Mem) (nx : Nat) (K : Kv) : Prop :=
  match p with
  | .ptr n off => match look m n with
    | some (.cells l e) => wr n = true ∧ isTup x = false ∧ sizeT P ty = some (acells x).length ∧ off + (acells x).length ≤ l.length ∧ (acells x).all (fun v => !isTup v && (match v with | .agg _ => false | _ => true)) = true ∧ K (.tup []) (upd m n (.cells (stor l off x) e)) nx
    | _ => False
  | _ => False
theorem one_of {x : AV} (h : (!isTup x && (match x with | .agg _ => false | _ => true)) = true) {u : Value} (hd : Den H B x u) : u.oneCell' = true := by
  simp only [Bool.and_eq_true, Bool.not_eq_true'] at h
  exact den_one hd h.1 fun l e => by subst e; simp at h
theorem stx_ok (hi : Inv w0 FP wr m nx H B w) {ty : TypeId} {p x : AV} {K : Kv} (h : stx P wr ty p x m nx K) {o : Oper} {y z : Operand} (ho : o.op = .store ty y z) (h1 : Den H B p (a.eval y)) (h2 : Den H B x (a.eval z)) :
    Gives P w0 FP wr H B K ((execOp a.eval o).run P w) := by
  unfold stx at h
  split at h
  · rename_i n off
    split at h
    · rename_i l e hn
      obtain ⟨hw, ht, hs, hle, hall, h⟩ := h
      simp only [Den] at h1
      obtain ⟨b, hb, hp⟩ := h1
      obtain ⟨b', cs, hb', hc, hd⟩ := obj_cells hi hn
      rw [hb] at hb'; injection hb' with hb'; subst hb'
      generalize hu : a.eval z = u at h2
      have hcd := den_cells h2 ht
      have hlen := hcd.length
      have hst := run_storeCells_at P b off e u.cells.toList 0 cs.toArray w hc (by simp [hlen, hd.length]; omega) (fun v hv => by
        obtain ⟨j, hj, hv'⟩ := List.getElem_of_mem hv
        have hjx : j < (acells x).length := by omega
        obtain ⟨v', hv2, hdv⟩ := hcd.get j _ (List.getElem?_eq_getElem hjx)
        rw [List.getElem?_eq_getElem hj, hv'] at hv2
        injection hv2 with hv2
        subst hv2
        exact one_of (List.all_eq_true.1 hall _ (List.getElem_mem hjx)) hdv)
      simp only [Nat.add_zero] at hst
      refine ⟨undef, .tup [], upd m n (.cells (stor l off x) e), nx, B, w.setRow b (cs.take off ++ u.cells.toList ++ cs.drop (off + u.cells.toList.length)).toArray, .inr ⟨?_, rfl⟩, ?_, Ext.refl _ _, by simp only [Den]; exact ⟨[], rfl, by simp [DenL]⟩, h⟩
      · unfold execOp
        have hz : u.cells.size = (acells x).length := by rw [← hlen]; simp
        simp only [ho, hp, hu, Instr.storeAt, Instr.sureAddr, Sem.run_bind, Sem.run_pure, Result.andThen_ok, storeVar, sizeT_run hs]
        rw [if_neg (by rw [hz]; simp)]
        rw [hst]
        rfl
      · refine hi.write hn hw hb _ (by simp) rfl rfl rfl (fun k hk => setRow_other w b k _ hk) ?_
        exact ⟨_, setRow_heap w b cs.toArray _ e (0, 0) hc, stor_den hd h2 ht hle⟩
    · exact h.elim
  · exact h.elim
end
end Go.Eng
