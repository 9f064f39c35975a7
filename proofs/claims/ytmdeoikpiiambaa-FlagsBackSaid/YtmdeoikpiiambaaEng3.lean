/- The engine, part 3: operations that read memory. Own work. -/
import Derived.Test.YtmdeoikpiiambaaEng2
set_option linter.unusedVariables false
set_option linter.unusedSimpArgs false
namespace Go.Eng
open Go

/-- The worlds in which reading comes to the same: what is read-only, and the named objects that may be read (rd), are as in w. -/
structure Sees (H : RO) (B : Names) (m : Mem) (rd : Nat → Bool) (w w' : World) : Prop where
  ro : ∀ a v, H a = some v → w'.cell? a = some v
  obj : ∀ n o b, look m n = some o → rd n = true → B n = some b → w'.heap[b]? = w.heap[b]?
theorem Inv.sees {w0 w : World} {FP : Nat → Prop} {wr : Nat → Bool} {m : Mem} {nx : Nat} {H : RO} {B : Names} (h : Inv w0 FP wr m nx H B w) (rd : Nat → Bool) : Sees H B m rd w w :=
  ⟨fun a v e => (h.ro a v e).1, fun _ _ _ _ _ _ => rfl⟩

section
variable {P : Program} {w0 w : World} {FP : Nat → Prop} {wr rd : Nat → Bool} {m : Mem} {nx : Nat} {H : RO} {B : Names}

theorem obj_cells (hi : Inv w0 FP wr m nx H B w) {n : Nat} {l : List AV} {ty : TypeId} (hn : look m n = some (.cells l ty)) :
    ∃ b cs, B n = some b ∧ w.heap[b]? = some (.cells cs.toArray ty (0, 0)) ∧ DenL H B l cs := by
  obtain ⟨b, hb, ⟨cs, h1, h2⟩, _⟩ := hi.obj n _ hn
  exact ⟨b, cs, hb, h1, h2⟩
theorem obj_fz (hi : Inv w0 FP wr m nx H B w) {n : Nat} {l : List AV} {ty : TypeId} (hn : look m n = some (.fz l ty)) :
    ∃ b cs fr, B n = some b ∧ w.heap[b]? = some (.cells cs.toArray ty fr) ∧ DenL H B l cs := by
  obtain ⟨b, hb, ⟨cs, fr, h1, h2⟩, _⟩ := hi.obj n _ hn
  exact ⟨b, cs, fr, hb, h1, h2⟩
theorem cell_at (w' : World) {b : Nat} {cs : List Value} {ty : TypeId} {fr : Nat × Nat} (h : w'.heap[b]? = some (.cells cs.toArray ty fr)) (o : Nat) : w'.cell? ⟨b, o, none⟩ = cs[o]? := by
  simp [World.cell?, h]
theorem load_agg {ty : TypeId} {s : Nat} {a : Addr} {cs : List Value} (hk : known P ty = true) (hg : aggT P ty = true) (hs : sizeT P ty = some s) (hl : cs.length = s) (w' : World) (h : ∀ j v, cs[j]? = some v → w'.cell? (a.add j) = some v) :
    (Instr.loadAt ty (.pointer (some a))).run P w' = .ok (.agg cs.toArray) w' := by
  have h1 := run_loadCells_list (P := P) w' a cs h
  rw [hl] at h1
  simp only [Instr.loadAt, Instr.sureAddr, loadVar, Sem.run_bind, Sem.run_pure, Result.andThen_ok, aggT_run hg hk w', if_true, sizeT_run hs w', h1]
theorem load_one {ty : TypeId} {a : Addr} {v : Value} (hk : known P ty = true) (hg : aggT P ty = false) (w' : World) (h : w'.cell? a = some v) :
    (Instr.loadAt ty (.pointer (some a))).run P w' = .ok v w' := by
  simp only [Instr.loadAt, Instr.sureAddr, loadVar, Sem.run_bind, Sem.run_pure, Result.andThen_ok, aggT_run hg hk w', Bool.false_eq_true, if_false, run_load, h]

def pickx (agg : Bool) (P : Program) (ty : TypeId) (l : List AV) (off : Nat) (k : AV → Prop) : Prop :=
  match agg with
  | true => ∃ s, sizeT P ty = some s ∧ off + s ≤ l.length ∧ k (.agg ((l.drop off).take s))
  | false => off < l.length ∧ k (l.getD off (dflt P ty))
def loadx (P : Program) (rd : Nat → Bool) (m : Mem) (ty : TypeId) (p : AV) (k : AV → Prop) : Prop :=
  match p with
  | .ptr n off => match look m n with
    | some (.cells l _) => rd n = true ∧ known P ty = true ∧ pickx (aggT P ty) P ty l off k
    | some (.fz l _) => rd n = true ∧ known P ty = true ∧ pickx (aggT P ty) P ty l off k
    | _ => False
  | .rop xs => known P ty = true ∧ pickx (aggT P ty) P ty xs 0 k
  | _ => False
theorem loadx_ok (hi : Inv w0 FP wr m nx H B w) {ty : TypeId} {p : AV} {k : AV → Prop} (h : loadx P rd m ty p k) {u : Value} (hu : Den H B p u) :
    ∃ v av, (∀ w', Sees H B m rd w w' → (Instr.loadAt ty u).run P w' = .ok v w') ∧ Den H B av v ∧ k av := by
  unfold loadx at h
  split at h
  · rename_i n off
    split at h
    · rename_i l ty' hn
      obtain ⟨hrd, hk, h⟩ := h
      simp only [Den] at hu
      obtain ⟨b, hb, rfl⟩ := hu
      obtain ⟨b', cs, hb', hc, hd⟩ := obj_cells hi hn
      rw [hb] at hb'; injection hb' with hb'; subst hb'
      have hcell : ∀ w', Sees H B m rd w w' → ∀ j, w'.cell? (⟨b, off, none⟩ : Addr) = cs[off]? ∧ w'.cell? ((⟨b, off, none⟩ : Addr).add j) = cs[off + j]? := fun w' hw j => by
        have e := (hw.obj n _ b hn hrd hb).trans hc
        exact ⟨cell_at w' e off, by rw [Addr.add_mid]; exact cell_at w' e (off + j)⟩
      unfold pickx at h
      split at h
      · rename_i hg
        obtain ⟨s, hs, hle, h⟩ := h
        have hdd := (hd.drop off).take s
        have hlen : ((cs.drop off).take s).length = s := by simp [hd.length]; omega
        refine ⟨.agg ((cs.drop off).take s).toArray, _, fun w' hw => load_agg hk hg hs hlen w' fun j v hj => ?_, by simp only [Den]; exact ⟨_, rfl, hdd⟩, h⟩
        rw [(hcell w' hw j).2]
        have hjs : j < s := by have := (List.getElem?_eq_some_iff.1 hj).1; omega
        rw [List.getElem?_take, if_pos hjs, List.getElem?_drop] at hj
        exact hj
      · rename_i hg
        obtain ⟨hlt, h⟩ := h
        have hx : l[off]? = some (l.getD off (dflt P ty)) := by simp [List.getD_eq_getElem?_getD, List.getElem?_eq_getElem hlt]
        obtain ⟨v, hv, hdv⟩ := hd.get off _ hx
        exact ⟨v, _, fun w' hw => load_one hk hg w' ((hcell w' hw 0).1.trans hv), hdv, h⟩
    · rename_i l ty' hn
      obtain ⟨hrd, hk, h⟩ := h
      simp only [Den] at hu
      obtain ⟨b, hb, rfl⟩ := hu
      obtain ⟨b', cs, fr, hb', hc, hd⟩ := obj_fz hi hn
      rw [hb] at hb'; injection hb' with hb'; subst hb'
      have hcell : ∀ w', Sees H B m rd w w' → ∀ j, w'.cell? (⟨b, off, none⟩ : Addr) = cs[off]? ∧ w'.cell? ((⟨b, off, none⟩ : Addr).add j) = cs[off + j]? := fun w' hw j => by
        have e := (hw.obj n _ b hn hrd hb).trans hc
        exact ⟨cell_at w' e off, by rw [Addr.add_mid]; exact cell_at w' e (off + j)⟩
      unfold pickx at h
      split at h
      · rename_i hg
        obtain ⟨s, hs, hle, h⟩ := h
        have hdd := (hd.drop off).take s
        have hlen : ((cs.drop off).take s).length = s := by simp [hd.length]; omega
        refine ⟨.agg ((cs.drop off).take s).toArray, _, fun w' hw => load_agg hk hg hs hlen w' fun j v hj => ?_, by simp only [Den]; exact ⟨_, rfl, hdd⟩, h⟩
        rw [(hcell w' hw j).2]
        have hjs : j < s := by have := (List.getElem?_eq_some_iff.1 hj).1; omega
        rw [List.getElem?_take, if_pos hjs, List.getElem?_drop] at hj
        exact hj
      · rename_i hg
        obtain ⟨hlt, h⟩ := h
        have hx : l[off]? = some (l.getD off (dflt P ty)) := by simp [List.getD_eq_getElem?_getD, List.getElem?_eq_getElem hlt]
        obtain ⟨v, hv, hdv⟩ := hd.get off _ hx
        exact ⟨v, _, fun w' hw => load_one hk hg w' ((hcell w' hw 0).1.trans hv), hdv, h⟩
    · exact h.elim
  · rename_i xs
    obtain ⟨hk, h⟩ := h
    simp only [Den] at hu
    obtain ⟨a, rfl, hd⟩ := hu
    unfold pickx at h
    split at h
    · rename_i hg
      obtain ⟨s, hs, hle, h⟩ := h
      have hex : ∀ j : Nat, ∃ v : Value, j < s → ∃ x, xs[j]? = some x ∧ H (a.add j) = some v ∧ Den H B x v := fun j => by
        by_cases hj : j < s
        · have hx : xs[j]? = some (xs[j]'(by omega)) := List.getElem?_eq_getElem (by omega)
          obtain ⟨a', v, e, h1, h2⟩ := hd.get j _ hx
          cases e
          rw [Nat.zero_add] at h1
          exact ⟨v, fun _ => ⟨_, hx, h1, h2⟩⟩
        · exact ⟨undef, fun h => absurd h hj⟩
      obtain ⟨f, hf⟩ := Classical.axiomOfChoice hex
      have hlen : ((List.range s).map f).length = s := by simp
      refine ⟨.agg ((List.range s).map f).toArray, _, fun w' hw => load_agg hk hg hs hlen w' fun j v hj => ?_, ?_, h⟩
      · have hjs : j < s := by have := (List.getElem?_eq_some_iff.1 hj).1; omega
        obtain ⟨x, _, h1, _⟩ := hf j hjs
        simp [List.getElem?_range hjs] at hj
        subst hj
        exact hw.ro _ _ h1
      · simp only [Den, List.drop_zero]
        refine ⟨_, rfl, DenL.of_get (by simp; omega) fun i x v h1 h2 => ?_⟩
        have his : i < s := by have := (List.getElem?_eq_some_iff.1 h2).1; simpa using this
        obtain ⟨x', hx', _, h3⟩ := hf i his
        rw [List.getElem?_take, if_pos his, hx'] at h1
        cases h1
        simp [List.getElem?_range his] at h2
        subst h2
        exact h3
    · rename_i hg
      obtain ⟨hlt, h⟩ := h
      have hx : xs[0]? = some (xs.getD 0 (dflt P ty)) := by simp [List.getD_eq_getElem?_getD, List.getElem?_eq_getElem hlt]
      obtain ⟨a', v, e, h1, h2⟩ := hd.get 0 _ hx
      cases e
      have h0 : a.add 0 = a := by simp [Addr.add]
      rw [Nat.zero_add, h0] at h1
      exact ⟨v, _, fun w' hw => load_one hk hg w' (hw.ro _ _ h1), h2, h⟩
  · exact h.elim

/-! addresses -/
def idxx (P : Program) (t : TypeId) (x i : AV) (k : AV → Prop) : Prop :=
  match x, i with
  | .sl n off len cap, .int _ i => ∃ e, elemT P t = some e ∧ ∃ s, sizeT P e = some s ∧ (0 ≤ i ∧ i < len) ∧ k (.ptr n (off + i.toNat * s))
  | .ptr n off, .int _ i => ∃ q, arrT P t = some q ∧ ∃ s, sizeT P q.2 = some s ∧ (0 ≤ i ∧ i < q.1) ∧ k (.ptr n (off + i.toNat * s))
  | .ro len xs, .int _ i => ∃ e, elemT P t = some e ∧ ∃ s, sizeT P e = some s ∧ (0 ≤ i ∧ i < len) ∧ i.toNat * s < xs.length ∧ k (.rop (xs.drop (i.toNat * s)))
  | .rop xs, .int _ i => ∃ q, arrT P t = some q ∧ ∃ s, sizeT P q.2 = some s ∧ (0 ≤ i ∧ i < q.1) ∧ k (.rop (xs.drop (i.toNat * s)))
  | _, _ => False
theorem rop_ok {a : Addr} {xs : List AV} (hd : DenAt H B (some a) 0 xs) (n : Nat) : Den H B (.rop (xs.drop n)) (.pointer (some (a.add n))) := by
  simp only [Den]
  refine ⟨_, rfl, DenAt.of_get fun j x hx => ?_⟩
  rw [List.getElem?_drop] at hx
  obtain ⟨a', v, e, h1, h2⟩ := hd.get _ x hx
  cases e
  exact ⟨_, v, rfl, by rw [add_add']; simpa using h1, h2⟩
theorem idxx_ok {t : TypeId} {x i : AV} {k : AV → Prop} (h : idxx P t x i k) {u1 u2 : Value} (h1 : Den H B x u1) (h2 : Den H B i u2) :
    ∃ v av, (∀ w', (Instr.indexAt t u1 u2).run P w' = .ok v w') ∧ Den H B av v ∧ k av := by
  unfold idxx at h
  split at h
  · obtain ⟨e, he, s, hs, hb, h⟩ := h
    simp only [Den] at h1 h2
    obtain ⟨b, a, hb1, rfl, hl, ha⟩ := h1; subst h2
    rename_i n off len cap _ i
    have hc : cap ≠ 0 := by omega
    rw [ha hc]
    refine ⟨.pointer (some ⟨b, off + i.toNat * s, none⟩), _, fun w' => ?_, ?_, h⟩
    · simp only [Instr.indexAt, asIntOf, Sem.run_bind, Sem.run_pure, Result.andThen_ok, run_underlying (elemT_some he), sizeT_run hs]
      rw [if_pos hb]
      simp only [Sem.run_bind, sizeT_run hs, Result.andThen_ok, Sem.run_pure, Addr.add_mid]
    · simp only [Den]; exact ⟨b, hb1, rfl⟩
  · obtain ⟨q, he, s, hs, hb, h⟩ := h
    simp only [Den] at h1 h2
    obtain ⟨b, hb1, rfl⟩ := h1; subst h2
    rename_i n off _ i
    refine ⟨.pointer (some ⟨b, off + i.toNat * s, none⟩), _, fun w' => ?_, ?_, h⟩
    · simp only [Instr.indexAt, asIntOf, Instr.sureAddr, Sem.run_bind, Sem.run_pure, Result.andThen_ok, run_underlying (arrT_some he), sizeT_run hs]
      rw [if_pos hb]
      simp only [Sem.run_bind, sizeT_run hs, Result.andThen_ok, Sem.run_pure, Addr.add_mid]
    · simp only [Den]; exact ⟨b, hb1, rfl⟩
  · rename_i xs _ i
    obtain ⟨e, he, s, hs, hb, hlt, h⟩ := h
    simp only [Den] at h1 h2
    obtain ⟨A, cap, rfl, hl, hd⟩ := h1; subst h2
    obtain ⟨a, v0, rfl, _, _⟩ := hd.get _ _ (List.getElem?_eq_getElem hlt)
    refine ⟨_, _, fun w' => ?_, rop_ok hd _, h⟩
    simp only [Instr.indexAt, asIntOf, Sem.run_bind, Sem.run_pure, Result.andThen_ok, run_underlying (elemT_some he), sizeT_run hs]
    rw [if_pos hb]
    simp only [Sem.run_bind, sizeT_run hs, Result.andThen_ok, Sem.run_pure]
  · obtain ⟨q, he, s, hs, hb, h⟩ := h
    simp only [Den] at h1 h2
    obtain ⟨a, rfl, hd⟩ := h1; subst h2
    refine ⟨_, _, fun w' => ?_, rop_ok hd _, h⟩
    simp only [Instr.indexAt, asIntOf, Instr.sureAddr, Sem.run_bind, Sem.run_pure, Result.andThen_ok, run_underlying (arrT_some he), sizeT_run hs]
    rw [if_pos hb]
    simp only [Sem.run_bind, sizeT_run hs, Result.andThen_ok, Sem.run_pure]
  · exact h.elim
def fldx (P : Program) (t : TypeId) (x : AV) (f : Nat) (k : AV → Prop) : Prop :=
  match x with
  | .ptr n off => ∃ q, fieldT P t f = some q ∧ ∃ s, sizeT P q.2 = some s ∧ s ≠ 0 ∧ k (.ptr n (off + q.1))
  | .rop xs => ∃ q, fieldT P t f = some q ∧ ∃ s, sizeT P q.2 = some s ∧ s ≠ 0 ∧ k (.rop (xs.drop q.1))
  | _ => False
theorem fldx_ok {t : TypeId} {x : AV} {f : Nat} {k : AV → Prop} (h : fldx P t x f k) {u : Value} (h1 : Den H B x u) :
    ∃ v av, (∀ w', (Instr.fieldAt t u f).run P w' = .ok v w') ∧ Den H B av v ∧ k av := by
  have key : ∀ {q : Nat × TypeId} {s : Nat} {a : Addr} (w' : World), fieldT P t f = some q → sizeT P q.2 = some s → s ≠ 0 → (Instr.fieldAt t (.pointer (some a)) f).run P w' = .ok (.pointer (some (a.add q.1))) w' := by
    intro q s a w' hq hs h0
    obtain ⟨fs, g, hu, hg, e1, e2⟩ := fieldT_some (show fieldT P t f = some (q.1, q.2) from hq)
    rw [← e2] at hs
    simp only [Instr.fieldAt, Sem.run_bind, run_underlying hu, Result.andThen_ok, hg, Instr.sureAddr, Sem.run_pure, fieldPlace, sizeT_run hs, if_neg h0, e1]
  unfold fldx at h
  split at h
  · obtain ⟨q, hq, s, hs, h0, h⟩ := h
    simp only [Den] at h1
    obtain ⟨b, hb1, rfl⟩ := h1
    exact ⟨_, _, fun w' => key w' hq hs h0, by simp only [Den]; exact ⟨b, hb1, by rw [Addr.add_mid]⟩, h⟩
  · obtain ⟨q, hq, s, hs, h0, h⟩ := h
    simp only [Den] at h1
    obtain ⟨a, rfl, hd⟩ := h1
    exact ⟨_, _, fun w' => key w' hq hs h0, rop_ok hd _, h⟩
  · exact h.elim

/-! parts of values -/
def partx (P : Program) (ty : TypeId) (l : List AV) (off : Nat) (k : AV → Prop) : Prop := known P ty = true ∧ pickx (aggT P ty) P ty l off k
theorem partx_ok {ty : TypeId} {l : List AV} {off : Nat} {k : AV → Prop} (h : partx P ty l off k) {cs : List Value} (hd : DenL H B l cs) :
    ∃ v av, (∀ w', (part ty cs.toArray off).run P w' = .ok v w') ∧ Den H B av v ∧ k av := by
  obtain ⟨hk, h⟩ := h
  unfold pickx at h
  split at h
  · rename_i hg
    obtain ⟨s, hs, hle, h⟩ := h
    refine ⟨.agg ((cs.drop off).take s).toArray, _, fun w' => ?_, by simp only [Den]; exact ⟨_, rfl, (hd.drop off).take s⟩, h⟩
    simp only [part, Sem.run_bind, aggT_run hg hk w', Result.andThen_ok, if_true, sizeT_run hs w', Sem.run_pure]
    congr 2
    apply Array.ext'
    simp [List.take_drop]
  · rename_i hg
    obtain ⟨hlt, h⟩ := h
    have hx : l[off]? = some (l.getD off (dflt P ty)) := by simp [List.getD_eq_getElem?_getD, List.getElem?_eq_getElem hlt]
    obtain ⟨v, hv, hdv⟩ := hd.get off _ hx
    refine ⟨v, _, fun w' => ?_, hdv, h⟩
    have hv' : cs.toArray[off]? = some v := by simpa using hv
    simp only [part, Sem.run_bind, aggT_run hg hk w', Result.andThen_ok, Bool.false_eq_true, if_false, hv', Sem.run_pure]
def fieldx (P : Program) (t : TypeId) (x : AV) (f : Nat) (k : AV → Prop) : Prop :=
  match x with
  | .agg l => ∃ q, fieldT P t f = some q ∧ partx P q.2 l q.1 k
  | _ => False
theorem fieldx_ok {t : TypeId} {x : AV} {f : Nat} {k : AV → Prop} (h : fieldx P t x f k) {u : Value} (h1 : Den H B x u) :
    ∃ v av, (∀ w', (Instr.field t u f).run P w' = .ok v w') ∧ Den H B av v ∧ k av := by
  unfold fieldx at h
  split at h
  · obtain ⟨q, hq, h⟩ := h
    simp only [Den] at h1
    obtain ⟨cs, rfl, hd⟩ := h1
    obtain ⟨fs, g, hu, hg, e1, e2⟩ := fieldT_some (show fieldT P t f = some (q.1, q.2) from hq)
    obtain ⟨v, av, hr, hdv, hk⟩ := partx_ok h hd
    refine ⟨v, av, fun w' => ?_, hdv, hk⟩
    simp only [Instr.field, Sem.run_bind, run_underlying hu, Result.andThen_ok, hg, asAgg, Sem.run_pure, e1, e2, hr]
  · exact h.elim
def indexx (P : Program) (t : TypeId) (x i : AV) (k : AV → Prop) : Prop :=
  match x, i with
  | .agg l, .int _ i => ∃ q, arrT P t = some q ∧ ∃ s, sizeT P q.2 = some s ∧ (0 ≤ i ∧ i < q.1) ∧ partx P q.2 l (i.toNat * s) k
  | .str s, .int _ i => isStrT P t = true ∧ 0 ≤ i ∧ i.toNat < s.data.toList.length ∧ k (.int .u8 ((s.data.toList.getD i.toNat 0).toNat : Int))
  | _, _ => False
theorem indexx_ok {t : TypeId} {x i : AV} {k : AV → Prop} (h : indexx P t x i k) {u1 u2 : Value} (h1 : Den H B x u1) (h2 : Den H B i u2) :
    ∃ v av, (∀ w', (Instr.index t u1 u2).run P w' = .ok v w') ∧ Den H B av v ∧ k av := by
  unfold indexx at h
  split at h
  · obtain ⟨q, hq, s, hs, hb, h⟩ := h
    simp only [Den] at h1 h2
    obtain ⟨cs, rfl, hd⟩ := h1; subst h2
    obtain ⟨v, av, hr, hdv, hk⟩ := partx_ok h hd
    refine ⟨v, av, fun w' => ?_, hdv, hk⟩
    simp only [Instr.index, asIntOf, Sem.run_bind, Sem.run_pure, Result.andThen_ok, run_underlying (arrT_some hq)]
    rw [if_pos hb]
    simp only [Sem.run_bind, sizeT_run hs, Result.andThen_ok, hr]
  · rename_i s _ i
    obtain ⟨ht, h0, hlt, h⟩ := h
    simp only [Den] at h1 h2
    subst h1; subst h2
    refine give_int h fun w' => ?_
    have hb : s[i.toNat]? = some (s.data.toList.getD i.toNat 0) := by
      have : i.toNat < s.size := by simpa using hlt
      rw [getElem?_pos s i.toNat this]
      simp [List.getD_eq_getElem?_getD, List.getElem?_eq_getElem hlt]
      rfl
    simp only [Instr.index, asIntOf, Sem.run_bind, Sem.run_pure, Result.andThen_ok, run_underlying (isStrT_some ht)]
    rw [if_pos h0, hb]
    rfl
  · exact h.elim

/-! slicing -/
def loI : Option AV → Option Int
  | none => some 0
  | some (.int _ i) => some i
  | _ => none
def hiI (d : Int) : Option AV → Option Int
  | none => some d
  | some (.int _ i) => some i
  | _ => none
def slcx (P : Program) (t : TypeId) (x : AV) (lo hi : Option AV) (k : AV → Prop) : Prop :=
  match x with
  | .sl n off len cap => ∃ e, elemT P t = some e ∧ ∃ s, sizeT P e = some s ∧ ∃ l, loI lo = some l ∧ ∃ h, hiI len hi = some h ∧ (0 ≤ l ∧ l ≤ h ∧ h ≤ cap) ∧ k (.sl n (off + l.toNat * s) (h.toNat - l.toNat) (cap - l.toNat))
  | .nils => ∃ e, elemT P t = some e ∧ ∃ s, sizeT P e = some s ∧ loI lo = some 0 ∧ hiI 0 hi = some 0 ∧ k .nils
  | .ro len xs => ∃ e, elemT P t = some e ∧ ∃ s, sizeT P e = some s ∧ ∃ l, loI lo = some l ∧ ∃ h, hiI len hi = some h ∧ (0 ≤ l ∧ l ≤ h ∧ h ≤ len) ∧ k (.ro (h.toNat - l.toNat) ((xs.drop (l.toNat * s)).take ((h.toNat - l.toNat) * s)))
  | .ptr n off => ∃ q, arrT P t = some q ∧ ∃ s, sizeT P q.2 = some s ∧ ∃ l, loI lo = some l ∧ ∃ h, hiI q.1 hi = some h ∧ (0 ≤ l ∧ l ≤ h ∧ h ≤ q.1) ∧ k (.sl n (off + l.toNat * s) (h.toNat - l.toNat) (q.1 - l.toNat))
  | .str s => isStrT P t = true ∧ ∃ l, loI lo = some l ∧ ∃ h, hiI s.size hi = some h ∧ (0 ≤ l ∧ l ≤ h ∧ h ≤ s.size) ∧ k (.str (s.extract l.toNat h.toNat))
  | _ => False
theorem lo_form {lo : Option AV} {l : Int} (h : loI lo = some l) {u : Option Value} (hu : ∀ a, lo = some a → ∃ v, u = some v ∧ Den H B a v) (hn : lo = none → u = none) : (u = none ∧ l = 0) ∨ ∃ k, u = some (.int k l) := by
  unfold loI at h
  split at h
  · cases h; exact .inl ⟨hn rfl, rfl⟩
  · cases h
    obtain ⟨v, rfl, hd⟩ := hu _ rfl
    simp only [Den] at hd
    subst hd
    exact .inr ⟨_, rfl⟩
  · cases h
theorem hi_form {hi : Option AV} {d : Int} {l : Int} (h : hiI d hi = some l) {u : Option Value} (hu : ∀ a, hi = some a → ∃ v, u = some v ∧ Den H B a v) (hn : hi = none → u = none) : (u = none ∧ l = d) ∨ ∃ k, u = some (.int k l) := by
  unfold hiI at h
  split at h
  · cases h; exact .inl ⟨hn rfl, rfl⟩
  · cases h
    obtain ⟨v, rfl, hd⟩ := hu _ rfl
    simp only [Den] at hd
    subst hd
    exact .inr ⟨_, rfl⟩
  · cases h
theorem bound_int (k : IntKind) {l : Int} {y : Nat} (c : BoundsCode) (hb : 0 ≤ l ∧ l ≤ y) (w' : World) : (Instr.sliceBound (.int k l) y c).run P w' = .ok l.toNat w' := by
  simp only [Instr.sliceBound, asIntOf, Sem.run_bind, Sem.run_pure, Result.andThen_ok, if_pos hb]
theorem bounds_ok {lo hi : Option AV} {l h : Int} {d y : Nat} (hl : loI lo = some l) (hh : hiI d hi = some h) {u1 u2 : Option Value} (h1 : ∀ a, lo = some a → ∃ v, u1 = some v ∧ Den H B a v) (n1 : lo = none → u1 = none)
    (h2 : ∀ a, hi = some a → ∃ v, u2 = some v ∧ Den H B a v) (n2 : hi = none → u2 = none) (hb : 0 ≤ l ∧ l ≤ h ∧ h ≤ y) (b : Bool) (w' : World) :
    (Instr.sliceBounds b d y u1 u2 none).run P w' = .ok (l.toNat, h.toNat, y) w' := by
  rcases lo_form hl h1 n1 with ⟨rfl, rfl⟩ | ⟨k1, rfl⟩ <;> rcases hi_form hh h2 n2 with ⟨rfl, rfl⟩ | ⟨k2, rfl⟩ <;> unfold Instr.sliceBounds
  · simp
  · simp [bound_int k2 _ (show 0 ≤ h ∧ h ≤ (y : Int) from by omega)]
  · simp [bound_int k1 _ (show 0 ≤ l ∧ l ≤ (d : Int) from by omega)]
  · simp [bound_int k2 _ (show 0 ≤ h ∧ h ≤ (y : Int) from by omega), bound_int k1 (y := h.toNat) _ (show 0 ≤ l ∧ l ≤ (h.toNat : Int) from by omega)]
theorem slcx_ok {t : TypeId} {x : AV} {lo hi : Option AV} {k : AV → Prop} (h : slcx P t x lo hi k) {u : Value} (hu : Den H B x u) {u1 u2 : Option Value} (h1 : ∀ a, lo = some a → ∃ v, u1 = some v ∧ Den H B a v) (n1 : lo = none → u1 = none)
    (h2 : ∀ a, hi = some a → ∃ v, u2 = some v ∧ Den H B a v) (n2 : hi = none → u2 = none) :
    ∃ v av, (∀ w', (Instr.sliceAt t u u1 u2 none).run P w' = .ok v w') ∧ Den H B av v ∧ k av := by
  unfold slcx at h
  split at h
  · obtain ⟨e, he, s, hs, l, hl, g, hg, hb, h⟩ := h
    simp only [Den] at hu
    obtain ⟨b, a, hb1, rfl, hle, ha⟩ := hu
    rename_i n off len cap
    refine ⟨.slice (some (if cap = l.toNat then a else a.add (l.toNat * s))) (g.toNat - l.toNat) (cap - l.toNat), _, fun w' => ?_, ?_, h⟩
    · simp only [Instr.sliceAt, Sem.run_bind, run_underlying (elemT_some he), Result.andThen_ok, Instr.slice, bounds_ok hl hg h1 n1 h2 n2 hb true w', sizeT_run hs, Sem.run_pure]
      by_cases hc : cap = l.toNat
      · simp only [if_pos hc]
      · simp only [if_neg hc, Option.map_some]
    · 
      simp only [Den]
      by_cases hc : cap = l.toNat
      · rw [if_pos hc]; exact ⟨b, a, hb1, rfl, by omega, fun h0 => absurd h0 (by omega)⟩
      · rw [if_neg hc]
        have := ha (by omega)
        subst this
        exact ⟨b, _, hb1, rfl, by omega, fun _ => by rw [Addr.add_mid]⟩
  · obtain ⟨e, he, s, hs, hl, hg, h⟩ := h
    simp only [Den] at hu
    subst hu
    refine ⟨.slice none 0 0, _, fun w' => ?_, ?_, h⟩
    · simp only [Instr.sliceAt, Sem.run_bind, run_underlying (elemT_some he), Result.andThen_ok, Instr.slice, bounds_ok (d := 0) (y := 0) hl hg h1 n1 h2 n2 (by omega) true w', sizeT_run hs, Sem.run_pure]
      rfl
    · simp only [Den]
  · rename_i len xs
    obtain ⟨e, he, s, hs, l, hl, g, hg, hb, h⟩ := h
    simp only [Den] at hu
    obtain ⟨A, cap, rfl, hle, hd⟩ := hu
    refine ⟨.slice (if cap = l.toNat then A else A.map (·.add (l.toNat * s))) (g.toNat - l.toNat) (cap - l.toNat), _, fun w' => ?_, ?_, h⟩
    · simp only [Instr.sliceAt, Sem.run_bind, run_underlying (elemT_some he), Result.andThen_ok, Instr.slice, bounds_ok (y := cap) hl hg h1 n1 h2 n2 (by omega) true w', sizeT_run hs, Sem.run_pure]
    · simp only [Den]
      refine ⟨_, _, rfl, by omega, DenAt.of_get fun j x hx => ?_⟩
      have hj := (List.getElem?_eq_some_iff.1 hx).1
      simp only [List.length_take] at hj
      have hj1 : j < (g.toNat - l.toNat) * s := by omega
      have hpos : 0 < g.toNat - l.toNat := by
        rcases Nat.eq_zero_or_pos (g.toNat - l.toNat) with h0 | h0
        · rw [h0] at hj1; omega
        · exact h0
      rw [if_neg (by omega)]
      rw [List.getElem?_take, if_pos hj1, List.getElem?_drop] at hx
      obtain ⟨a, v, rfl, h3, h4⟩ := hd.get _ x hx
      exact ⟨_, v, rfl, by rw [add_add']; simpa using h3, h4⟩
  · obtain ⟨q, hq, s, hs, l, hl, g, hg, hb, h⟩ := h
    simp only [Den] at hu
    obtain ⟨b, hb1, rfl⟩ := hu
    rename_i n off
    refine ⟨.slice (some (if q.1 = l.toNat then ⟨b, off, none⟩ else (⟨b, off, none⟩ : Addr).add (l.toNat * s))) (g.toNat - l.toNat) (q.1 - l.toNat), _, fun w' => ?_, ?_, h⟩
    · simp only [Instr.sliceAt, Sem.run_bind, run_underlying (arrT_some hq), Result.andThen_ok, Instr.sureAddr, Sem.run_pure, bounds_ok hl hg h1 n1 h2 n2 hb false w', sizeT_run hs]
    · simp only [Den]
      by_cases hc : q.1 = l.toNat
      · rw [if_pos hc]; exact ⟨b, _, hb1, rfl, by omega, fun h0 => absurd h0 (by omega)⟩
      · rw [if_neg hc]; exact ⟨b, _, hb1, rfl, by omega, fun _ => by rw [Addr.add_mid]⟩
  · obtain ⟨ht, l, hl, g, hg, hb, h⟩ := h
    simp only [Den] at hu
    subst hu
    rename_i s
    refine ⟨.string (s.extract l.toNat g.toNat), _, fun w' => ?_, ?_, h⟩
    · simp only [Instr.sliceAt, Sem.run_bind, run_underlying (isStrT_some ht), Result.andThen_ok, Instr.slice, Option.isSome_none, Bool.false_eq_true, if_false, Sem.run_pure]
      simp only [bounds_ok hl hg h1 n1 h2 n2 hb false w', Result.andThen_ok, Sem.run_pure]
    · simp only [Den]
  · exact h.elim
end
end Go.Eng
