/- The engine, part 7: calls, code, loops, functions. Own work. -/
import Derived.Test.YtmdeoikpiiambaaEng6
import Derived.Test.YtmdeoikpiiambaaEng30
set_option linter.unusedVariables false
set_option linter.unusedSimpArgs false
namespace Go.Eng
open Go

section
variable {P : Program} {w0 w : World} {FP : Nat → Prop} {wr rd : Nat → Bool} {m : Mem} {nx : Nat} {H : RO} {B : Names} {N : Nat} {t : Slots} {a : Act}

/-- A call, from whatever world fits. fz: may more memory become read-only? -/
def CallG (fz : Bool) (P : Program) (g : FuncId) (args : List AV) (wr : Nat → Bool) (m : Mem) (nx : Nat) (K : Kv) : Prop :=
  ∀ (w0 : World) (FP : Nat → Prop) (H : RO) (B : Names) (w : World) (vs : List Value), Inv w0 FP wr m nx H B w → DenL H B args vs →
    Calls P g vs.toArray w fun e w' => ∃ v av m' nx' B' H', e = .returned v ∧ (fz = false → H' = H) ∧ Inv w0 FP wr m' nx' H' B' w' ∧ Ext H B H' B' ∧ Den H' B' av v ∧ K av m' nx'
def CallOk (P : Program) (g : FuncId) (args : List AV) (wr : Nat → Bool) (m : Mem) (nx : Nat) (K : Kv) : Prop := CallG true P g args wr m nx K
def enters (P : Program) (g : FuncId) : Bool := match P.funcs[g]? with
  | some fn => !(fn.name == "runtime.NumGoroutine") && fn.body.isSome
  | none => false
theorem enters_run {g : FuncId} (h : enters P g = true) (args : Array Value) (w : World) : (callFunc g args).run P w = .ok (.enter g args) w := by
  unfold enters at h
  split at h
  · rename_i fn hf
    simp only [Bool.and_eq_true, Bool.not_eq_true', beq_eq_false_iff_ne, ne_eq] at h
    obtain ⟨c, hc⟩ := Option.isSome_iff_exists.1 h.2
    simp [callFunc, hf, h.1, hc]
  · cases h
def calx (P : Program) (fz : Bool) (wr : Nat → Bool) (f : AV) (args : List AV) (m : Mem) (nx : Nat) (K : Kv) : Prop :=
  match f with
  | .fn (.func g) fi ca => enters P g = true ∧ CallG fz P g (fi ++ args ++ ca) wr m nx K
  | _ => False
/-- the same, the memory as it is -/
def KvAt (K : Kv) (m : Mem) (nx : Nat) : AV → Prop := fun v => K v m nx
theorem KvAt_app (K : Kv) (m : Mem) (nx : Nat) (v : AV) : KvAt K m nx v = K v m nx := rfl
/-- a conversion; a constant's bytes are taken as they are, and their block is marked -/
def cvs (b : Bool) (P : Program) (wr : Nat → Bool) (s d : TypeId) (n off len cap : Nat) (m : Mem) (nx : Nat) (K : Kv) : Prop := match b with
  | true => convx P (fun _ => true) m s d (.sl n off len cap) (KvAt K m nx)
  | false => s = d ∧ 0 < cap ∧ ∃ e, elemT P d = some e ∧ intT P e = some .u8 ∧ wr n = true ∧ match look m n with
    | some (.cells l ty) => K (.sl n off len cap) (upd m n (.fz l ty)) nx
    | _ => False
def cvx (P : Program) (wr : Nat → Bool) (s d : TypeId) (u : AV) (m : Mem) (nx : Nat) (K : Kv) : Prop := match u with
  | .sl n off len cap => cvs (isStrT P d) P wr s d n off len cap m nx K
  | u => convx P (fun _ => true) m s d u (KvAt K m nx)
theorem cvs_ok (hi : Inv w0 FP wr m nx H B w) {s d : TypeId} {n off len cap : Nat} {K : Kv} (h : cvs false P wr s d n off len cap m nx K) {o : Oper} {x : Operand} (ho : o.op = .convert s d x) (hu : Den H B (.sl n off len cap) (a.eval x)) :
    Gives P w0 FP wr H B K ((execOp a.eval o).run P w) := by
  obtain ⟨rfl, hcp, e, he, hq, hw, h⟩ := h
  split at h
  · rename_i l ty hn
    simp only [Den] at hu
    obtain ⟨b, ad, hb, hu, hlc, had⟩ := hu
    obtain ⟨b', cs, hb', hc, hdl⟩ := obj_cells hi hn
    rw [hb] at hb'; injection hb' with hb'; subst hb'
    have had := had (by omega)
    subst had
    have hsh : (w.freeze ⟨b, cs.length, none⟩ 1).heap[b]? = some (.cells cs.toArray ty (cs.length, cs.length + 1)) := by
      unfold World.freeze
      rw [if_neg (by decide)]
      simp only [Array.getElem?_modify, if_true, hc, Option.map_some]
      rfl
    refine ⟨a.eval x, .sl n off len cap, upd m n (.fz l ty), nx, B, w.freeze ⟨b, cs.length, none⟩ 1, .inl ?_, ?_, Ext.refl _ _, by simp only [Den]; exact ⟨b, _, hb, hu, hlc, fun _ => rfl⟩, h⟩
    · unfold execOp
      have hs2 : w.shape? b = some (ty, cs.length) := by simp [World.shape?, hc]
      simp [ho, hu, convert, run_underlying (elemT_some he), run_underlying (intT_some hq), markStringish, hs2]
    · refine hi.write hn hw hb (.fz l ty) (by simp [World.freeze]) rfl rfl rfl (fun k hk => ?_) ⟨cs, _, hsh, hdl⟩
      unfold World.freeze
      rw [if_neg (by decide)]
      simp only [Array.getElem?_modify, if_neg (Ne.symm hk)]
  · exact h.elim
/-- one operation -/
def opx (P : Program) (fz : Bool) (wr : Nat → Bool) (t : Slots) (m : Mem) (nx : Nat) (op : Op) (K : Kv) : Prop :=
  match op with
  | .alloc ty => allocx P ty m nx K
  | .box ty x => withv (evx t x) fun v => boxx ty v m nx K
  | .buildSlice ty len parts => match evp t parts.toList with
    | some ps => bslx P ty len ps m nx K
    | none => False
  | .makeSlice ty l c => withv (evx t l) fun x => withv (evx t c) fun y => mkslx P ty x y m nx K
  | .store ty p x => withv (evx t p) fun u => withv (evx t x) fun v => stx P wr ty u v m nx K
  | .convert s d x => withv (evx t x) fun u => cvx P wr s d u m nx K
  | .makeMap ty none => mkmx2 P ty m nx K
  | .insert ty x i y => withv (evx t x) fun u => withv (evx t i) fun v => withv (evx t y) fun z => insx2 P wr ty u v z m nx K
  | .mapUpdate ty x i y => withv (evx t x) fun u => withv (evx t i) fun v => withv (evx t y) fun z => insx2 P wr ty u v z m nx K
  | .lookup ty x i ok => withv (evx t x) fun u => withv (evx t i) fun v => lookx2 P m ty u v ok (KvAt K m nx)
  | .mapEntry ty x i => withv (evx t x) fun u => withv (evx t i) fun v => mentx P wr ty u v m nx K
  | .entryStore _ x i y => withv (evx t x) fun u => withv (evx t i) fun v => withv (evx t y) fun z => estx wr u v z m nx K
  | .call c => match c.callee with
    | .builtin .append => withl (evs t c.args.toList) fun l => appx P wr c.argTypes l m nx K
    | .builtin .copy => withl (evs t c.args.toList) fun l => cpyx P wr c.argTypes l m nx K
    | .builtin .delete => withl (evs t c.args.toList) fun l => delx P wr c.argTypes l m nx K
    | .builtin .len => withl (evs t c.args.toList) fun l => lenq P c.argTypes l m nx K (mapOf l)
    | .value f => withv (evx t f) fun u => withl (evs t c.args.toList) fun l => calx P fz wr u l m nx K
    | _ => rdx P (fun _ => true) t m op (KvAt K m nx)
  | op => rdx P (fun _ => true) t m op (KvAt K m nx)
/-- what comes of an operation that may call -/
def Gives' (fz : Bool) (P : Program) (w0 : World) (FP : Nat → Prop) (wr : Nat → Bool) (H : RO) (B : Names) (K : Kv) (r : Result Next) : Prop :=
  Gives P w0 FP wr H B K r ∨ ∃ g vs w', r = .ok (.enter g vs) w' ∧ Calls P g vs w' fun e w'' => ∃ v av m' nx' B' H', e = .returned v ∧ (fz = false → H' = H) ∧ Inv w0 FP wr m' nx' H' B' w'' ∧ Ext H B H' B' ∧ Den H' B' av v ∧ K av m' nx'
theorem rdx_gives {fz : Bool} (hi : Inv w0 FP wr m nx H B w) (hs : SlotsOk N H B t a) {o : Oper} {K : Kv} (h : rdx P (fun _ => true) t m o.op (KvAt K m nx)) : Gives' fz P w0 FP wr H B K ((execOp a.eval o).run P w) := by
  obtain ⟨v, av, hr, hd, hk⟩ := rdx_ok hi hs h
  exact .inl ⟨v, av, m, nx, B, w, .inl (hr w (hi.sees _)), hi, Ext.refl _ _, hd, hk⟩
theorem opx_ok {fz : Bool} (hi : Inv w0 FP wr m nx H B w) (hs : SlotsOk N H B t a) {o : Oper} {K : Kv} (h : opx P fz wr t m nx o.op K) : Gives' fz P w0 FP wr H B K ((execOp a.eval o).run P w) := by
  unfold opx at h
  split at h
  · rename_i ty ho; exact .inl (allocx_ok hi h ho)
  · rename_i ty x ho
    obtain ⟨v, e, h⟩ := withv_elim h
    exact .inl (boxx_ok hi h ho (evx_ok hs e))
  · rename_i ty len parts ho
    split at h
    · rename_i ps hps
      obtain ⟨h1, h2⟩ := evp_ok hs hps
      exact .inl (bslx_ok hi h ho h1 h2)
    · exact h.elim
  · rename_i ty l c ho
    obtain ⟨x, e, h⟩ := withv_elim h
    obtain ⟨y, e', h⟩ := withv_elim h
    exact .inl (mkslx_ok hi h ho (evx_ok hs e) (evx_ok hs e'))
  · rename_i ty p x ho
    obtain ⟨u, e, h⟩ := withv_elim h
    obtain ⟨v, e', h⟩ := withv_elim h
    exact .inl (stx_ok hi h ho (evx_ok hs e) (evx_ok hs e'))
  · rename_i s d x ho
    obtain ⟨u, e, h⟩ := withv_elim h
    have hv := evx_ok hs e
    have up : ∀ {u : AV}, convx P (fun _ => true) m s d u (KvAt K m nx) → Den H B u (a.eval x) → Gives P w0 FP wr H B K ((execOp a.eval o).run P w) := fun h hv => by
      obtain ⟨v, av, hr, hd, hk⟩ := convx_ok hi h hv
      refine ⟨v, av, m, nx, B, w, .inl ?_, hi, Ext.refl _ _, hd, hk⟩
      unfold execOp
      simp only [ho, Sem.run_bind, hr w (hi.sees _), Result.andThen_ok, Sem.run_pure]
    unfold cvx at h
    split at h
    · rename_i n off len cap
      cases hb : isStrT P d with
      | true => rw [hb] at h; exact .inl (up (u := .sl n off len cap) h hv)
      | false => rw [hb] at h; exact .inl (cvs_ok hi h ho hv)
    · exact .inl (up h hv)
  · rename_i ty ho; exact .inl (mkmx2_ok hi h ho)
  · rename_i ty x i y ho
    obtain ⟨u, e1, h⟩ := withv_elim h
    obtain ⟨v, e2, h⟩ := withv_elim h
    obtain ⟨z, e3, h⟩ := withv_elim h
    refine .inl (insx2_ok hi h (evx_ok hs e1) (evx_ok hs e2) (evx_ok hs e3) ?_)
    unfold execOp
    simp only [ho]
  · rename_i ty x i y ho
    obtain ⟨u, e1, h⟩ := withv_elim h
    obtain ⟨v, e2, h⟩ := withv_elim h
    obtain ⟨z, e3, h⟩ := withv_elim h
    refine .inl (insx2_ok hi h (evx_ok hs e1) (evx_ok hs e2) (evx_ok hs e3) ?_)
    unfold execOp
    simp only [ho]
  · rename_i ty x i ok ho
    obtain ⟨u, e1, h⟩ := withv_elim h
    obtain ⟨v, e2, h⟩ := withv_elim h
    obtain ⟨r, av, hr, hd, hk⟩ := lookx2_ok hi h (evx_ok hs e1) (evx_ok hs e2)
    refine .inl ⟨r, av, m, nx, B, w, .inl ?_, hi, Ext.refl _ _, hd, hk⟩
    unfold execOp
    simp only [ho, Sem.run_bind, hr, Result.andThen_ok, Sem.run_pure]
  · rename_i ty x i ho
    obtain ⟨u, e1, h⟩ := withv_elim h
    obtain ⟨v, e2, h⟩ := withv_elim h
    refine .inl (mentx_ok hi h (evx_ok hs e1) (evx_ok hs e2) ?_)
    unfold execOp
    simp only [ho]
  · rename_i ty x i y ho
    obtain ⟨u, e1, h⟩ := withv_elim h
    obtain ⟨v, e2, h⟩ := withv_elim h
    obtain ⟨z, e3, h⟩ := withv_elim h
    refine .inl (estx_ok hi h (evx_ok hs e1) (evx_ok hs e2) (evx_ok hs e3) (ty := ty) ?_)
    unfold execOp
    simp only [ho]
  · rename_i c ho
    split at h
    · rename_i hb
      obtain ⟨l, e, h⟩ := withl_elim h
      have := appx_ok hi h (evs_ok hs e) o.type (c.args.map fun | .const _ => true | _ => false)
      rw [← List.map_toArray, Array.toArray_toList] at this
      refine .inl ?_
      unfold execOp
      simp only [ho, resolve, hb, Sem.run_bind, Sem.run_pure, Result.andThen_ok, invoke]
      exact this
    · rename_i hb
      obtain ⟨l, e, h⟩ := withl_elim h
      have := cpyx_ok hi h (evs_ok hs e) o.type (c.args.map fun | .const _ => true | _ => false)
      rw [← List.map_toArray, Array.toArray_toList] at this
      refine .inl ?_
      unfold execOp
      simp only [ho, resolve, hb, Sem.run_bind, Sem.run_pure, Result.andThen_ok, invoke]
      exact this
    · rename_i hb
      obtain ⟨l, e, h⟩ := withl_elim h
      have := delx_ok hi h (evs_ok hs e) o.type (c.args.map fun | .const _ => true | _ => false)
      rw [← List.map_toArray, Array.toArray_toList] at this
      refine .inl ?_
      unfold execOp
      simp only [ho, resolve, hb, Sem.run_bind, Sem.run_pure, Result.andThen_ok, invoke]
      exact this
    · rename_i hb
      obtain ⟨l, e, h⟩ := withl_elim h
      have hg : Gives P w0 FP wr H B K ((builtin .len c.argTypes o.type (c.args.map fun | .const _ => true | _ => false) (c.args.map a.eval)).run P w) := by
        have hd := evs_ok hs e
        cases hm : mapOf l with
        | some n =>
          rw [hm] at h
          have hl := mapOf_some hm
          rw [hl] at hd
          have := lenm_ok hi h hd o.type (c.args.map fun | .const _ => true | _ => false)
          rwa [← List.map_toArray, Array.toArray_toList] at this
        | none =>
          rw [hm] at h
          obtain ⟨v, av, h1, h2, h3⟩ := bltx_ok (show bltx P .len c.argTypes l (fun v => K v m nx) from h) hd o.type (c.args.map fun | .const _ => true | _ => false)
          have h1' := h1 w
          rw [← List.map_toArray, Array.toArray_toList] at h1'
          exact ⟨v, av, m, nx, B, w, .inl h1', hi, Ext.refl _ _, h2, h3⟩
      refine .inl ?_
      unfold execOp
      simp only [ho, resolve, hb, Sem.run_bind, Sem.run_pure, Result.andThen_ok, invoke]
      exact hg
    · rename_i f hb
      obtain ⟨u, e, h⟩ := withv_elim h
      obtain ⟨l, e', h⟩ := withl_elim h
      unfold calx at h
      split at h
      · rename_i g fi ca
        obtain ⟨he, h⟩ := h
        have hu := evx_ok hs e
        simp only [Den] at hu
        obtain ⟨xs, ys, hf, h1, h2⟩ := hu
        have hd := (h1.append (evs_ok hs e')).append h2
        have hc := h w0 FP H B w _ hi hd
        refine .inr ⟨_, _, w, ?_, hc⟩
        unfold execOp
        simp only [ho, resolve, hb, hf, Deferred.ofValue, Sem.run_bind, Sem.run_pure, Result.andThen_ok, invoke, enters_run he]
        congr 2
        apply Array.ext'
        simp
      · exact h.elim
    · exact rdx_gives hi hs h
  · exact rdx_gives hi hs h

/-! regions -/
abbrev St := Slots × Mem × Nat
def putd (t : Slots) (d : Option Tmp) (v : AV) : Slots := match d with | some k => (k, v) :: t | none => t
def dstOk (N : Nat) (d : Option Tmp) : Bool := match d with | some k => decide (k < N) | none => true
abbrev Se := Slots → Mem → Nat → Prop
/-- what is left of a region, behind an operation -/
def After (E : Se) (t : Slots) (d : Option Tmp) : Kv := fun v m nx => E (putd t d v) m nx
def OpE (P : Program) (fz : Bool) (wr : Nat → Bool) (op : Op) (d : Option Tmp) (E : Se) : Se := fun t m nx => opx P fz wr t m nx op (After E t d)
def SkE (d : Option Tmp) (E : Se) : Se := fun t m nx => E (putd t d (.tup [])) m nx
/-- a guard: the slot that it asks, and what it wants -/
def grdv (v : Option AV) (s : Tmp) (want : Bool) (yes no : Se) (t : Slots) (m : Mem) (nx : Nat) : Prop :=
  match v with
  | some (.bool b) => (b = want → yes ((s, .bool want) :: t) m nx) ∧ (b = !want → no ((s, .bool (!want)) :: t) m nx)
  | some (.tup []) => no t m nx
  | _ => False
def grds (d : Option Tmp) (want : Bool) (yes no : Se) (t : Slots) (m : Mem) (nx : Nat) : Prop :=
  match d with
  | some s => grdv (look t s) s want yes no t m nx
  | none => False
def grdx (ops : Array Oper) (g : Option (Nat × Bool)) (yes no : Se) (t : Slots) (m : Mem) (nx : Nat) : Prop :=
  match g with
  | none => yes t m nx
  | some (j, want) => grds ((ops[j]?).bind (·.dst)) want yes no t m nx
def opsx (P : Program) (fz : Bool) (N : Nat) (wr : Nat → Bool) (ops : Array Oper) (K : Se) : List Oper → Se
  | [], t, m, nx => K t m nx
  | o :: rest, t, m, nx => dstOk N o.dst = true ∧ grdx ops o.guard (OpE P fz wr o.op o.dst (opsx P fz N wr ops K rest)) (SkE o.dst (opsx P fz N wr ops K rest)) t m nx
theorem After_app (E : Se) (t : Slots) (d : Option Tmp) (v : AV) (m : Mem) (nx : Nat) : After E t d v m nx = E (putd t d v) m nx := rfl
theorem OpE_app (P : Program) (fz : Bool) (wr : Nat → Bool) (op : Op) (d : Option Tmp) (E : Se) (t : Slots) (m : Mem) (nx : Nat) : OpE P fz wr op d E t m nx = opx P fz wr t m nx op (After E t d) := rfl
theorem SkE_app (d : Option Tmp) (E : Se) (t : Slots) (m : Mem) (nx : Nat) : SkE d E t m nx = E (putd t d (.tup [])) m nx := rfl
theorem grdx_none (ops : Array Oper) (yes no : Se) (t : Slots) (m : Mem) (nx : Nat) : grdx ops none yes no t m nx = yes t m nx := rfl
theorem grdx_some (ops : Array Oper) (j : Nat) (want : Bool) (yes no : Se) (t : Slots) (m : Mem) (nx : Nat) : grdx ops (some (j, want)) yes no t m nx = grds ((ops[j]?).bind (·.dst)) want yes no t m nx := rfl
theorem grds_some (s : Tmp) (want : Bool) (yes no : Se) (t : Slots) (m : Mem) (nx : Nat) : grds (some s) want yes no t m nx = grdv (look t s) s want yes no t m nx := rfl
theorem grdv_true (s : Tmp) (yes no : Se) (t : Slots) (m : Mem) (nx : Nat) : grdv (some (.bool true)) s true yes no t m nx = yes ((s, .bool true) :: t) m nx := by simp [grdv]
theorem grdv_false (s : Tmp) (yes no : Se) (t : Slots) (m : Mem) (nx : Nat) : grdv (some (.bool false)) s true yes no t m nx = no ((s, .bool false) :: t) m nx := by simp [grdv]
theorem grdv_true' (s : Tmp) (yes no : Se) (t : Slots) (m : Mem) (nx : Nat) : grdv (some (.bool true)) s false yes no t m nx = no ((s, .bool true) :: t) m nx := by simp [grdv]
theorem grdv_false' (s : Tmp) (yes no : Se) (t : Slots) (m : Mem) (nx : Nat) : grdv (some (.bool false)) s false yes no t m nx = yes ((s, .bool false) :: t) m nx := by simp [grdv]
theorem grdv_bool (b : Bool) (s : Tmp) (want : Bool) (yes no : Se) (t : Slots) (m : Mem) (nx : Nat) : grdv (some (.bool b)) s want yes no t m nx = ((b = want → yes ((s, .bool want) :: t) m nx) ∧ (b = !want → no ((s, .bool (!want)) :: t) m nx)) := rfl
theorem grdv_undef (s : Tmp) (want : Bool) (yes no : Se) (t : Slots) (m : Mem) (nx : Nat) : grdv (some (.tup [])) s want yes no t m nx = no t m nx := rfl
theorem opsx_nil (P : Program) (fz : Bool) (N : Nat) (wr : Nat → Bool) (ops : Array Oper) (K : Se) (t : Slots) (m : Mem) (nx : Nat) : opsx P fz N wr ops K [] t m nx = K t m nx := rfl
theorem opsx_cons (P : Program) (fz : Bool) (N : Nat) (wr : Nat → Bool) (ops : Array Oper) (K : Se) (o : Oper) (rest : List Oper) (t : Slots) (m : Mem) (nx : Nat) :
    opsx P fz N wr ops K (o :: rest) t m nx = (dstOk N o.dst = true ∧ grdx ops o.guard (OpE P fz wr o.op o.dst (opsx P fz N wr ops K rest)) (SkE o.dst (opsx P fz N wr ops K rest)) t m nx) := rfl
theorem SlotsOk.putd {d : Option Tmp} (h : SlotsOk N H B t a) (hd : dstOk N d = true) {av : AV} {v : Value} (hv : Den H B av v) : SlotsOk N H B (putd t d av) (a.put d v) := by
  cases d with
  | none => exact h
  | some k => exact h.put (by simpa [dstOk] using hd) hv
theorem SlotsOk.told (hs : SlotsOk N H B t a) {d : Tmp} {b : Bool} (hb : look t d = some (.bool b)) : SlotsOk N H B ((d, .bool b) :: t) a := by
  refine ⟨hs.1, fun s av e => ?_⟩
  simp only [look] at e
  split at e
  · rename_i hd; cases e; subst hd; exact hs.2 _ _ hb
  · exact hs.2 s av e
theorem wanted_of {ops : Array Oper} {o : Oper} {yes no : Se} (hs : SlotsOk N H B t a) (h : grdx ops o.guard yes no t m nx) :
    ∃ t', SlotsOk N H B t' a ∧ ((Region.wanted o (yielded ops a.tmps) = true ∧ yes t' m nx) ∨ (Region.wanted o (yielded ops a.tmps) = false ∧ no t' m nx)) := by
  unfold grdx at h
  split at h
  · rename_i hg; exact ⟨t, hs, .inl ⟨by simp [Region.wanted, hg], h⟩⟩
  · rename_i j want hg
    unfold grds at h
    split at h
    · rename_i d hd
      have key : ∀ b : Bool, a.tmps.getD d undef = .bool b → yielded ops a.tmps j = some b := fun b e => by
        unfold yielded
        have : a.tmps[d]? = some (.bool b) := by
          rw [Array.getD_eq_getD_getElem?] at e
          cases hx : a.tmps[d]? with
          | none => rw [hx] at e; simp [undef] at e
          | some v => rw [hx] at e; simp at e; rw [e]
        rw [hd]
        simp [this]
      unfold grdv at h
      split at h
      · rename_i b hb
        have hv := hs.2 d _ hb
        simp only [Den] at hv
        by_cases hbw : b = want
        · subst hbw
          exact ⟨_, hs.told hb, .inl ⟨by simp [Region.wanted, hg, key b hv], h.1 rfl⟩⟩
        · have hbn : b = !want := by cases b <;> cases want <;> simp_all
          exact ⟨_, by rw [← hbn]; exact hs.told hb, .inr ⟨by simp [Region.wanted, hg, key b hv, hbw], h.2 hbn⟩⟩
      · rename_i hb
        have hv := hs.2 d _ hb
        simp only [Den, DenL] at hv
        obtain ⟨cs, hcs, rfl⟩ := hv
        refine ⟨t, hs, .inr ⟨?_, h⟩⟩
        have : yielded ops a.tmps j = none := by
          unfold yielded
          rw [hd]
          simp only [Option.bind_some]
          have e := hcs
          rw [Array.getD_eq_getD_getElem?] at e
          cases hx : a.tmps[d]? with
          | none => rfl
          | some v => rw [hx] at e; simp at e; rw [e]
        simp [Region.wanted, hg, this]
      · exact h.elim
    · exact h.elim
theorem undef_den : Den H B (.tup []) undef := undef_den0
theorem gives_wp {fz : Bool} {o : Oper} {K : Kv} (h : Gives' fz P w0 FP wr H B K ((execOp a.eval o).run P w)) {next : Act → World → Prop} {Q : Exit → Act → World → Prop}
    (hn : ∀ v av m' nx' B' H' w', (fz = false → H' = H) → Inv w0 FP wr m' nx' H' B' w' → Ext H B H' B' → Den H' B' av v → K av m' nx' → next (a.put o.dst v) w') : o.wp P a w next Q := by
  unfold Oper.wp
  rcases h with ⟨v, av, m', nx', B', w', hr, h1, h2, h3, h4⟩ | ⟨g, vs, w', hr, hc⟩
  · rcases hr with hr | ⟨hr, rfl⟩
    · rw [hr]; exact hn _ _ _ _ _ _ _ (fun _ => rfl) h1 h2 h3 h4
    · rw [hr]; exact hn _ _ _ _ _ _ _ (fun _ => rfl) h1 h2 h3 h4
  · rw [hr, Oper.upon_enter]
    refine hc.mono fun e w'' he => ?_
    obtain ⟨v, av, m', nx', B', H', rfl, h0, h1, h2, h3, h4⟩ := he
    exact hn _ _ _ _ _ _ _ h0 h1 h2 h3 h4
theorem opsx_ok {fz : Bool} {ops : Array Oper} {K : Slots → Mem → Nat → Prop} {Q : Exit → Act → World → Prop} : ∀ (l : List Oper) {t : Slots} {m : Mem} {nx : Nat} {H : RO} {B : Names} {a : Act} {w : World},
    opsx P fz N wr ops K l t m nx → Inv w0 FP wr m nx H B w → SlotsOk N H B t a → (∀ t' m' nx' B' H' a' w', a'.defers = a.defers → K t' m' nx' → (fz = false → H' = H) → Ext H B H' B' → Inv w0 FP wr m' nx' H' B' w' → SlotsOk N H' B' t' a' → Q .normal a' w') → wpList P ops Q l a w
  | [], t, m, nx, H, B, a, w, h, hi, hs, hq => hq _ _ _ _ _ _ _ rfl h (fun _ => rfl) (Ext.refl _ _) hi hs
  | o :: rest, t, m, nx, H, B, a, w, h, hi, hs, hq => by
    obtain ⟨hd, h⟩ := h
    refine wpList_step fun K' hK' => ?_
    have hdef : ∀ v, (a.put o.dst v).defers = a.defers := fun v => by cases h : o.dst <;> rfl
    obtain ⟨t', hs, ⟨hw, h⟩ | ⟨hw, h⟩⟩ := wanted_of hs h
    · rw [if_pos hw]
      refine gives_wp (opx_ok (fz := fz) hi hs h) fun v av m' nx' B' H' w' hz h1 h2 h3 h4 => hK' _ _ ?_
      exact opsx_ok rest h4 h1 ((hs.mono h2).putd hd h3) fun t' m'' nx'' B'' H'' a' w'' hdf hk hz2 hx => hq t' m'' nx'' B'' H'' a' w'' (hdf.trans (hdef v)) hk (fun e => (hz2 e).trans (hz e)) (h2.trans hx)
    · rw [if_neg (by rw [hw]; simp)]
      refine hK' _ _ ?_
      exact opsx_ok rest h hi (hs.putd hd undef_den) fun t' m'' nx'' B'' H'' a' w'' hdf => hq t' m'' nx'' B'' H'' a' w'' (hdf.trans (hdef undef))

abbrev Kx := Exit → Slots → Mem → Nat → Prop
end
end Go.Eng
