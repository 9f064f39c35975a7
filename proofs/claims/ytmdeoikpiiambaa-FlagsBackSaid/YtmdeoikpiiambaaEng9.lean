/- The engine, part 9: code, loops, regions that draw their order, function bodies. Own work. -/
import Derived.Test.YtmdeoikpiiambaaEng23
import Derived.Deep.LoopGhost
set_option linter.unusedVariables false
set_option linter.unusedSimpArgs false
namespace Go.Eng
open Go

section
variable {P : Program} {w0 w : World} {FP : Nat → Prop} {wr rd : Nat → Bool} {m : Mem} {nx : Nat} {H : RO} {B : Names} {N : Nat} {t : Slots} {a : Act}

abbrev Ex := Slots → Mem → Nat → Kx → Prop
/-- what follows in a sequence -/
def Sq (E : Ex) (K : Kx) : Kx := fun e t m nx => match e with
  | .normal => E t m nx K
  | e => K e t m nx
def Blk (id : Nat) (K : Kx) : Kx := fun e t m nx => match e with
  | .exit id' => if id' = id then K .normal t m nx else K (.exit id') t m nx
  | e => K e t m nx
def Nrm (K : Kx) : Slots → Mem → Nat → Prop := fun t m nx => K .normal t m nx
theorem Sq_normal (E : Ex) (K : Kx) (t : Slots) (m : Mem) (nx : Nat) : Sq E K .normal t m nx = E t m nx K := rfl
theorem Sq_ret (E : Ex) (K : Kx) (t : Slots) (m : Mem) (nx : Nat) : Sq E K .ret t m nx = K .ret t m nx := rfl
theorem Sq_exit (E : Ex) (K : Kx) (i : Nat) (t : Slots) (m : Mem) (nx : Nat) : Sq E K (.exit i) t m nx = K (.exit i) t m nx := rfl
theorem Blk_normal (i : Nat) (K : Kx) (t : Slots) (m : Mem) (nx : Nat) : Blk i K .normal t m nx = K .normal t m nx := rfl
theorem Blk_ret (i : Nat) (K : Kx) (t : Slots) (m : Mem) (nx : Nat) : Blk i K .ret t m nx = K .ret t m nx := rfl
theorem Blk_exit (i j : Nat) (K : Kx) (t : Slots) (m : Mem) (nx : Nat) : Blk i K (.exit j) t m nx = if j = i then K .normal t m nx else K (.exit j) t m nx := rfl
theorem Nrm_app (K : Kx) (t : Slots) (m : Mem) (nx : Nat) : Nrm K t m nx = K .normal t m nx := rfl

/-! a loop: a family of states, each round to one of lesser measure -/
def LoopK {ι : Type} (nf : Nat) (wr : Nat → Bool) (S : ι → Slots × Mem × Nat) (μ : ι → Nat) (i : ι) (K : Kx) : Kx := fun e t m nx => match e with
  | .normal => ∃ j, μ j < μ i ∧ ∃ l, Le nf l wr t m nx (S j).1 (S j).2.1 (S j).2.2
  | e => K e t m nx
/-- a loop's entry: something may be held fast there -/
def LeG (fz : Bool) (nf : Nat) (wr : Nat → Bool) (t : Slots) (m : Mem) (nx : Nat) (t' : Slots) (m' : Mem) (nx' : Nat) : Prop := (∃ l, Le nf l wr t m nx t' m' nx') ∨ (fz = true ∧ LeF nf wr t m nx t' m' nx')
def LoopOk (fz : Bool) (nf : Nat) (E : Ex) (wr : Nat → Bool) (t : Slots) (m : Mem) (nx : Nat) (K : Kx) : Prop :=
  ∃ (ι : Type) (S : ι → Slots × Mem × Nat) (μ : ι → Nat), (∃ i, LeG fz nf wr t m nx (S i).1 (S i).2.1 (S i).2.2) ∧ ∀ i, E (S i).1 (S i).2.1 (S i).2.2 (LoopK nf wr S μ i K)

/-! a region that draws its order -/
def planOk (ops : Array Oper) : List (Nat × Bool) → Array Bool → Bool
  | [], l => Region.ready .any ops l == []
  | (i, true) :: r, l => (Region.ready .any ops l == [i]) && planOk ops r (l.setIfInBounds i true)
  | (i, false) :: r, l => Region.free .any ops l i && (Region.ready .any ops l).contains i && planOk ops r (l.setIfInBounds i true)
def drawB (ops : Array Oper) (plan : List (Nat × Bool)) : Bool := Region.noSelect ops && decide (plan.length ≤ ops.size) && planOk ops plan (Array.replicate ops.size false)
def wrD (m : Mem) (nx : Nat) (mods : List Nat) (n : Nat) : Bool := decide (nx ≤ n) || mods.contains n || (look m n).isNone
/-- what may be read while others write -/
def Rd (wr : Nat → Bool) (n : Nat) : Bool := !wr n
theorem Rd_app (wr : Nat → Bool) (n : Nat) : Rd wr n = !wr n := rfl
def DrE (P : Program) (wr : Nat → Bool) (single : Bool) (op : Op) (d : Option Tmp) (E : Se) : Se := fun t m nx => match single with
  | true => opx P false wr t m nx op (After E t d)
  | false => rdx P (Rd wr) t m op (KvAt (After E t d) m nx)
theorem DrE_true (P : Program) (wr : Nat → Bool) (op : Op) (d : Option Tmp) (E : Se) (t : Slots) (m : Mem) (nx : Nat) : DrE P wr true op d E t m nx = opx P false wr t m nx op (After E t d) := rfl
theorem DrE_false (P : Program) (wr : Nat → Bool) (op : Op) (d : Option Tmp) (E : Se) (t : Slots) (m : Mem) (nx : Nat) : DrE P wr false op d E t m nx = rdx P (Rd wr) t m op (KvAt (After E t d) m nx) := rfl
def DrO (P : Program) (N : Nat) (wr : Nat → Bool) (ops : Array Oper) (single : Bool) (o : Option Oper) (E : Se) : Se := fun t m nx => match o with
  | none => False
  | some o => dstOk N o.dst = true ∧ grdx ops o.guard (DrE P wr single o.op o.dst E) (SkE o.dst E) t m nx
theorem DrO_some (P : Program) (N : Nat) (wr : Nat → Bool) (ops : Array Oper) (single : Bool) (o : Oper) (E : Se) (t : Slots) (m : Mem) (nx : Nat) :
    DrO P N wr ops single (some o) E t m nx = (dstOk N o.dst = true ∧ grdx ops o.guard (DrE P wr single o.op o.dst E) (SkE o.dst E) t m nx) := rfl
def drawx (P : Program) (N : Nat) (wr : Nat → Bool) (ops : Array Oper) (K : Se) : List (Nat × Bool) → Se
  | [], t, m, nx => K t m nx
  | (i, single) :: r, t, m, nx => DrO P N wr ops single ops[i]? (drawx P N wr ops K r) t m nx
theorem drawx_nil (P : Program) (N : Nat) (wr : Nat → Bool) (ops : Array Oper) (K : Se) (t : Slots) (m : Mem) (nx : Nat) : drawx P N wr ops K [] t m nx = K t m nx := rfl
theorem drawx_cons (P : Program) (N : Nat) (wr : Nat → Bool) (ops : Array Oper) (K : Se) (i : Nat) (single : Bool) (r : List (Nat × Bool)) (t : Slots) (m : Mem) (nx : Nat) :
    drawx P N wr ops K ((i, single) :: r) t m nx = DrO P N wr ops single ops[i]? (drawx P N wr ops K r) t m nx := rfl
def KeepK (m0 : Mem) (mods : List Nat) (K : Kv) : Kv := fun v m' nx' => (∀ n ∈ mods, look m' n = look m0 n) ∧ K v m' nx'
/-- the same, where some read what is written later: Wr writes, Er reads ahead of it -/
def DyE (P : Program) (wr : Nat → Bool) (m0 : Mem) (mods Wr Er : List Nat) (i : Nat) (single : Bool) (op : Op) (d : Option Tmp) (E : Se) : Se := fun t m nx => match single, Wr.contains i with
  | true, true => opx P false wr t m nx op (After E t d)
  | true, false => opx P false (wrD m nx []) t m nx op (After E t d)
  | false, _ => rdx P (fun n => !wr n || (Er.contains i && mods.contains n)) t m op (KvAt (After E t d) m nx)
def DyO (P : Program) (N : Nat) (wr : Nat → Bool) (m0 : Mem) (mods Wr Er : List Nat) (ops : Array Oper) (i : Nat) (single : Bool) (o : Option Oper) (E : Se) : Se := fun t m nx => match o with
  | none => False
  | some o => dstOk N o.dst = true ∧ grdx ops o.guard (DyE P wr m0 mods Wr Er i single o.op o.dst E) (SkE o.dst E) t m nx
def drawy (P : Program) (N : Nat) (wr : Nat → Bool) (m0 : Mem) (mods Wr Er : List Nat) (ops : Array Oper) (K : Se) : List (Nat × Bool) → Se
  | [], t, m, nx => K t m nx
  | (i, single) :: r, t, m, nx => DyO P N wr m0 mods Wr Er ops i single ops[i]? (drawy P N wr m0 mods Wr Er ops K r) t m nx
/-- a value that its abstract form tells whole -/
def det : AV → Bool
  | .val _ => true
  | v => flat v
def depStep (ops : Array Oper) (i : Nat) (acc : List Nat) (k : Nat) : List Nat := match ops[k]? with
  | some o => if o.after.any (fun e => Region.binds .any e && (e.on == i || acc.contains e.on)) then k :: acc else acc
  | none => acc
def depsOf (ops : Array Oper) (i : Nat) : List Nat := (List.range ops.size).foldl (depStep ops i) []
def chkE (ops : Array Oper) (Wr Er : List Nat) : List (Nat × Bool) → Array Bool → Bool
  | [], _ => true
  | (i, s) :: r, l => (s || !Er.contains i || (Wr.all (fun j => (depsOf ops i).contains j) && (depsOf ops i).all fun k => !(l.getD k true))) && chkE ops Wr Er r (l.setIfInBounds i true)
def planY (Wr Er : List Nat) (ops : Array Oper) (plan : List (Nat × Bool)) : Bool := (plan.all fun p => p.2 || !Wr.contains p.1) && chkE ops Wr Er plan (Array.replicate ops.size false) && Wr.all (fun j => decide (j < ops.size))
/-- a plan where two are ready at once that each see the memory: both orders are walked -/
inductive PlanT where
  | done : PlanT
  | step : Nat → Bool → PlanT → PlanT
  | both : Nat → PlanT → Nat → PlanT → PlanT
def PlanT.depth : PlanT → Nat
  | .done => 0
  | .step _ _ r => r.depth + 1
  | .both _ r _ s => max r.depth s.depth + 1
def PlanT.ok (ops : Array Oper) : PlanT → Array Bool → Bool
  | .done, l => Region.ready .any ops l == []
  | .step i true r, l => (Region.ready .any ops l == [i]) && r.ok ops (l.setIfInBounds i true)
  | .step i false r, l => Region.free .any ops l i && (Region.ready .any ops l).contains i && r.ok ops (l.setIfInBounds i true)
  | .both i r j s, l => (Region.ready .any ops l == [i, j]) && r.ok ops (l.setIfInBounds i true) && s.ok ops (l.setIfInBounds j true)
def drawTB (ops : Array Oper) (plan : PlanT) : Bool := Region.noSelect ops && decide (plan.depth ≤ ops.size) && plan.ok ops (Array.replicate ops.size false)
def drawT (P : Program) (N : Nat) (wr : Nat → Bool) (ops : Array Oper) (K : Se) : PlanT → Se
  | .done, t, m, nx => K t m nx
  | .step i single r, t, m, nx => DrO P N wr ops single ops[i]? (drawT P N wr ops K r) t m nx
  | .both i r j s, t, m, nx => DrO P N wr ops true ops[i]? (drawT P N wr ops K r) t m nx ∧ DrO P N wr ops true ops[j]? (drawT P N wr ops K s) t m nx
theorem drawT_done (P : Program) (N : Nat) (wr : Nat → Bool) (ops : Array Oper) (K : Se) (t : Slots) (m : Mem) (nx : Nat) : drawT P N wr ops K .done t m nx = K t m nx := rfl
theorem drawT_step (P : Program) (N : Nat) (wr : Nat → Bool) (ops : Array Oper) (K : Se) (i : Nat) (single : Bool) (r : PlanT) (t : Slots) (m : Mem) (nx : Nat) :
    drawT P N wr ops K (.step i single r) t m nx = DrO P N wr ops single ops[i]? (drawT P N wr ops K r) t m nx := rfl
theorem drawT_both (P : Program) (N : Nat) (wr : Nat → Bool) (ops : Array Oper) (K : Se) (i j : Nat) (r s : PlanT) (t : Slots) (m : Mem) (nx : Nat) :
    drawT P N wr ops K (.both i r j s) t m nx = (DrO P N wr ops true ops[i]? (drawT P N wr ops K r) t m nx ∧ DrO P N wr ops true ops[j]? (drawT P N wr ops K s) t m nx) := rfl
def DrawOk (P : Program) (N : Nat) (wr : Nat → Bool) (ops : Array Oper) (t : Slots) (m : Mem) (nx : Nat) (K : Kx) : Prop :=
  P.follows .mixedOrders = true ∧ ((∃ (plan : List (Nat × Bool)) (mods : List Nat), drawB ops plan = true ∧ (∀ n ∈ mods, wr n = true ∧ (look m n).isSome = true) ∧ drawx P N (wrD m nx mods) ops (Nrm K) plan t m nx) ∨
    (∃ (plan : List (Nat × Bool)) (mods Wr Er : List Nat), drawB ops plan = true ∧ planY Wr Er ops plan = true ∧ (∀ n ∈ mods, wr n = true ∧ (look m n).isSome = true) ∧ drawy P N (wrD m nx mods) m mods Wr Er ops (Nrm K) plan t m nx) ∨
    ∃ (plan : PlanT) (mods : List Nat), drawTB ops plan = true ∧ (∀ n ∈ mods, wr n = true ∧ (look m n).isSome = true) ∧ drawT P N (wrD m nx mods) ops (Nrm K) plan t m nx)

def exec (P : Program) (fz : Bool) (N nf : Nat) (wr : Nat → Bool) : Code → Slots → Mem → Nat → Kx → Prop
  | .skip, t, m, nx, K => K .normal t m nx
  | .region _ ops false, t, m, nx, K => opsx P fz N wr ops (Nrm K) ops.toList t m nx
  | .region _ ops true, t, m, nx, K => DrawOk P N wr ops t m nx K
  | .seq x y, t, m, nx, K => exec P fz N nf wr x t m nx (Sq (exec P fz N nf wr y) K)
  | .cond c x y, t, m, nx, K => withv (evx t c) fun v => match v with
    | .bool q => (q = true → exec P fz N nf wr x t m nx K) ∧ (q = false → exec P fz N nf wr y t m nx K)
    | _ => False
  | .block id c, t, m, nx, K => exec P fz N nf wr c t m nx (Blk id K)
  | .loop c, t, m, nx, K => LoopOk fz nf (exec P fz N nf wr c) wr t m nx K
  | .exit id, t, m, nx, K => K (.exit id) t m nx
  | .ret, t, m, nx, K => K .ret t m nx
  | _, _, _, _, _ => False

/-- what holds at a code's end -/
def Post (fz : Bool) (nf : Nat) (w0 : World) (FP : Nat → Prop) (wr : Nat → Bool) (H : RO) (B : Names) (N : Nat) (ds : List Deferred) (K : Kx) : Exit → Act → World → Prop := fun e a w =>
  (match e with | .normal => True | .exit _ => True | .ret => True | _ => False) ∧ a.defers = ds ∧ ∃ t m nx B' H', K e t m nx ∧ ExtN nf B B' ∧ ((∀ ad v, H ad = some v → H' ad = some v) ∧ (fz = false → H' = H)) ∧ Inv w0 FP wr m nx H' B' w ∧ SlotsOk N H' B' t a

theorem draw_start (hi : Inv w0 FP wr m nx H B w) {mods : List Nat} (hm : ∀ n ∈ mods, wr n = true ∧ (look m n).isSome = true) {ws : World} (hw : ws.heap = w.heap) :
    Inv ws (fun b => ∃ n ∈ mods, B n = some b) (wrD m nx mods) m nx H B ws := by
  refine ⟨Nat.le_refl _, rfl, rfl, rfl, fun _ _ _ => rfl, fun ad v e => ⟨(World.cell?_of_block (w := w) (by rw [hw])).trans (hi.ro ad v e).1, (hi.ro ad v e).2⟩, fun n o hn => ?_, hi.inj, hi.fresh, fun n hn => by simp [wrD, hn], fun n hn => ?_⟩
  · obtain ⟨b, hb, ho, hl, _, _⟩ := hi.obj n o hn
    refine ⟨b, hb, ho.mono (Ext.refl _ _) (by rw [hw]), by rw [hw]; exact hl, fun e => ?_, fun e => ⟨by rw [hw]; exact hl, ?_⟩⟩
    · have hlt := hi.lt_nx hn
      simp only [wrD, Bool.or_eq_true, decide_eq_true_eq, List.contains_iff_mem, hn, Option.isNone_some, Bool.false_eq_true, or_false] at e
      rcases e with e | e
      · omega
      · exact .inl ⟨n, e, hb⟩
    · rintro ⟨n', hn', hb'⟩
      obtain ⟨o', ho'⟩ := Option.isSome_iff_exists.1 (hm n' hn').2
      have := hi.inj n n' _ _ hn ho' (by rw [hb, hb'])
      subst this
      simp only [wrD, Bool.or_eq_false_iff] at e
      have := e.1.2
      rw [List.contains_iff_mem.2 hn'] at this
      cases this
  · simp only [wrD, Bool.or_eq_false_iff] at hn
    have := hn.2
    cases h : look m n with
    | none => rw [h] at this; cases this
    | some o => exact ⟨o, rfl⟩
theorem draw_end (hi : Inv w0 FP wr m nx H B w) {mods : List Nat} (hm : ∀ n ∈ mods, wr n = true ∧ (look m n).isSome = true) {ws w2 : World} (hw : ws.heap = w.heap) (h2 : ws.os = w.os) (h3 : ws.tape = w.tape) (h4 : ws.output = w.output)
    {m2 : Mem} {nx2 : Nat} {B2 : Names} (hx : Ext H B H B2) (hnx : ∀ n, nx2 ≤ n → wr n = true) (he : Inv ws (fun b => ∃ n ∈ mods, B n = some b) (wrD m nx mods) m2 nx2 H B2 w2) : Inv w0 FP wr m2 nx2 H B2 w2 := by
  have hmod : ∀ b, (∃ n ∈ mods, B n = some b) → FP b ∨ w0.heap.size ≤ b := by
    rintro b ⟨n, hn, hb⟩
    obtain ⟨o, ho⟩ := Option.isSome_iff_exists.1 (hm n hn).2
    obtain ⟨c, hc, _, _, hr, _⟩ := hi.obj n o ho
    rw [hb] at hc; cases hc
    exact hr (hm n hn).1
  have hsz : w.heap.size ≤ w2.heap.size := by have := he.size; rwa [hw] at this
  refine ⟨Nat.le_trans hi.size hsz, he.os.trans (h2.trans hi.os), he.tape.trans (h3.trans hi.tape), he.out.trans (h4.trans hi.out), fun b hb hf => ?_, he.ro, fun n o hn => ?_, he.inj, he.fresh, hnx, fun n hn => ?_⟩
  · rw [he.frame b (by rw [hw]; exact Nat.lt_of_lt_of_le hb hi.size) (fun h => by rcases hmod b h with h' | h'; exact hf h'; omega), hw]
    exact hi.frame b hb hf
  · obtain ⟨b, hb, ho, hl, r1, r2⟩ := he.obj n o hn
    refine ⟨b, hb, ho, hl, fun e => ?_, fun e => ?_⟩
    · cases hwd : wrD m nx mods n with
      | true =>
        rcases r1 hwd with h' | h'
        · exact hmod b h'
        · exact .inr (Nat.le_trans hi.size (by rwa [hw] at h'))
      | false =>
        obtain ⟨o1, ho1⟩ : ∃ o1, look m n = some o1 := by
          simp only [wrD, Bool.or_eq_false_iff] at hwd
          have := hwd.2
          cases h : look m n with
          | none => rw [h] at this; cases this
          | some o => exact ⟨o, rfl⟩
        obtain ⟨c, hc, _, _, hr, _⟩ := hi.obj n o1 ho1
        have := hx.nm _ _ hc
        rw [hb] at this; cases this
        exact hr e
    · obtain ⟨o1, ho1⟩ := hi.keep n e
      obtain ⟨c, hc, _, _, _, hr⟩ := hi.obj n o1 ho1
      have := hx.nm _ _ hc
      rw [hb] at this; cases this
      exact hr e
  · have hwd : wrD m nx mods n = false := by
      obtain ⟨o1, ho1⟩ := hi.keep n hn
      have hlt := hi.lt_nx ho1
      simp only [wrD, ho1, Option.isNone_some, Bool.or_false, Bool.or_eq_false_iff, decide_eq_false_iff_not]
      refine ⟨by omega, ?_⟩
      cases hc : mods.contains n with
      | false => rfl
      | true =>
        have := (hm n (List.contains_iff_mem.1 hc)).1
        rw [hn] at this; cases this
    exact he.keep n hwd
theorem draw_ok {ops : Array Oper} {ws : World} {FPd : Nat → Prop} {wrd : Nat → Bool} (hro : ∀ ad v, H ad = some v → ws.cell? ad = some v ∧ ad.block < ws.heap.size ∧ ¬ FPd ad.block) (hsel : Region.noSelect ops = true)
    {K : Slots → Mem → Nat → Prop} {Q : Exit → Act → World → Prop} (hQ : ∀ c a w, ¬ Q (.panic c) a w) :
    ∀ (plan : List (Nat × Bool)) (fuel : Nat) (listed : Array Bool) {t : Slots} {m : Mem} {nx : Nat} {B : Names} {a : Act} {w : World}, plan.length ≤ fuel → planOk ops plan listed = true → drawx P N wrd ops K plan t m nx → Inv ws FPd wrd m nx H B w → SlotsOk N H B t a →
      (∀ t' m' nx' B' a' w', a'.defers = a.defers → K t' m' nx' → Ext H B H B' → Inv ws FPd wrd m' nx' H B' w' → SlotsOk N H B' t' a' → Q .normal a' w') →
      wpAnyH P .any ops Q (fun w' => ws.heap.size ≤ w'.heap.size ∧ ∀ b, b < ws.heap.size → ¬ FPd b → w'.heap[b]? = ws.heap[b]?) fuel listed a w
  | [], fuel, listed, t, m, nx, B, a, w, hl, hp, h, hi, hs, hq => wpAnyH_done (by simpa [planOk] using hp) (hq _ _ _ _ _ _ rfl h (Ext.refl _ _) hi hs) fuel
  | (i, single) :: r, 0, listed, t, m, nx, B, a, w, hl, hp, h, hi, hs, hq => by simp at hl
  | (i, single) :: r, fuel + 1, listed, t, m, nx, B, a, w, hl, hp, h, hi, hs, hq => by
    have hS : ∀ {m nx B w}, Inv ws FPd wrd m nx H B w → ws.heap.size ≤ w.heap.size ∧ ∀ b, b < ws.heap.size → ¬ FPd b → w.heap[b]? = ws.heap[b]? := fun hi => ⟨hi.size, hi.frame⟩
    unfold drawx DrO at h
    split at h
    · exact h.elim
    · rename_i o ho
      obtain ⟨hd, h⟩ := h
      have hdef : ∀ v, (a.put o.dst v).defers = a.defers := fun v => by cases h : o.dst <;> rfl
      have hlr : r.length ≤ fuel := by simpa using hl
      cases single with
      | true =>
        simp only [planOk, Bool.and_eq_true, beq_iff_eq] at hp
        refine wpAnyH_all hp.1 (by simp) fun j hj => ?_
        have hji : j = i := by simpa using hj
        subst hji
        unfold wpOp
        simp only [ho]
        obtain ⟨t', hs, ⟨hw, h⟩ | ⟨hw, h⟩⟩ := wanted_of hs h
        · rw [if_pos hw]
          refine .inl (gives_wp (opx_ok (fz := false) hi hs h) fun v av m' nx' B' H' w' hH h1 h2 h3 h4 => ?_)
          have hHe := hH rfl
          rw [hHe] at h1 h2 h3
          refine ⟨hS h1, ?_⟩
          exact draw_ok hro hsel hQ r fuel _ hlr hp.2 h4 h1 ((hs.mono h2).putd hd h3) fun t' m'' nx'' B'' a' w'' hdf hk hx => hq t' m'' nx'' B'' a' w'' (hdf.trans (hdef v)) hk (h2.trans hx)
        · rw [if_neg (by rw [hw]; simp)]
          refine ⟨hS hi, ?_⟩
          exact draw_ok hro hsel hQ r fuel _ hlr hp.2 h hi (hs.putd hd undef_den) fun t' m'' nx'' B'' a' w'' hdf => hq t' m'' nx'' B'' a' w'' (hdf.trans (hdef undef))
      | false =>
        simp only [planOk, Bool.and_eq_true] at hp
        have hQ' : ∀ (v : Value) (c : List PanicEntry) (a : Act) (w : World), Q (.panic c) (a.put o.dst v) w → Q (.panic c) a w := fun v c a w h => absurd h (hQ _ _ _)
        obtain ⟨t', hs, ⟨hw, h⟩ | ⟨hw, h⟩⟩ := wanted_of hs h
        · obtain ⟨v, av, hr, hdv, hk⟩ := rdx_ok hi hs h
          refine wpAnyH_take ho hsel hp.1.1 hp.1.2 (hQ' v) (.inl ⟨hw, fun w' hw' => hr w' ⟨fun ad u e => ?_, fun n o' b hn hrd hb => ?_⟩⟩) (hS hi) ?_
          · obtain ⟨g1, g2, g3⟩ := hro ad u e
            exact (World.cell?_of_block (w := ws) (hw'.2 _ g2 g3)).trans g1
          · obtain ⟨c, hc, _, _, _, r2⟩ := hi.obj n o' hn
            rw [hb] at hc; cases hc
            obtain ⟨g1, g2⟩ := r2 (by simpa [Rd] using hrd)
            rw [hw'.2 b g1 g2, hi.frame b g1 g2]
          · exact draw_ok hro hsel hQ r fuel _ hlr hp.2 hk hi (hs.putd hd hdv) fun t' m'' nx'' B'' a' w'' hdf => hq t' m'' nx'' B'' a' w'' (hdf.trans (hdef v))
        · refine wpAnyH_take ho hsel hp.1.1 hp.1.2 (hQ' undef) (.inr ⟨hw, rfl⟩) (hS hi) ?_
          exact draw_ok hro hsel hQ r fuel _ hlr hp.2 h hi (hs.putd hd undef_den) fun t' m'' nx'' B'' a' w'' hdf => hq t' m'' nx'' B'' a' w'' (hdf.trans (hdef undef))
theorem draw_okT {ops : Array Oper} {ws : World} {FPd : Nat → Prop} {wrd : Nat → Bool} (hro : ∀ ad v, H ad = some v → ws.cell? ad = some v ∧ ad.block < ws.heap.size ∧ ¬ FPd ad.block) (hsel : Region.noSelect ops = true)
    {K : Slots → Mem → Nat → Prop} {Q : Exit → Act → World → Prop} (hQ : ∀ c a w, ¬ Q (.panic c) a w) :
    ∀ (plan : PlanT) (fuel : Nat) (listed : Array Bool) {t : Slots} {m : Mem} {nx : Nat} {B : Names} {a : Act} {w : World}, plan.depth ≤ fuel → plan.ok ops listed = true → drawT P N wrd ops K plan t m nx → Inv ws FPd wrd m nx H B w → SlotsOk N H B t a →
      (∀ t' m' nx' B' a' w', a'.defers = a.defers → K t' m' nx' → Ext H B H B' → Inv ws FPd wrd m' nx' H B' w' → SlotsOk N H B' t' a' → Q .normal a' w') →
      wpAnyH P .any ops Q (fun w' => ws.heap.size ≤ w'.heap.size ∧ ∀ b, b < ws.heap.size → ¬ FPd b → w'.heap[b]? = ws.heap[b]?) fuel listed a w
  | .done, fuel, listed, t, m, nx, B, a, w, hl, hp, h, hi, hs, hq => wpAnyH_done (by simpa [PlanT.ok] using hp) (hq _ _ _ _ _ _ rfl h (Ext.refl _ _) hi hs) fuel
  | .step i single r, 0, listed, t, m, nx, B, a, w, hl, hp, h, hi, hs, hq => by simp [PlanT.depth] at hl
  | .step i single r, fuel + 1, listed, t, m, nx, B, a, w, hl, hp, h, hi, hs, hq => by
    have hS : ∀ {m nx B w}, Inv ws FPd wrd m nx H B w → ws.heap.size ≤ w.heap.size ∧ ∀ b, b < ws.heap.size → ¬ FPd b → w.heap[b]? = ws.heap[b]? := fun hi => ⟨hi.size, hi.frame⟩
    rw [drawT_step] at h
    unfold DrO at h
    split at h
    · exact h.elim
    · rename_i o ho
      obtain ⟨hd, h⟩ := h
      have hdef : ∀ v, (a.put o.dst v).defers = a.defers := fun v => by cases h : o.dst <;> rfl
      have hlr : r.depth ≤ fuel := by simpa [PlanT.depth] using hl
      cases single with
      | true =>
        simp only [PlanT.ok, Bool.and_eq_true, beq_iff_eq] at hp
        refine wpAnyH_all hp.1 (by simp) fun j hj => ?_
        have hji : j = i := by simpa using hj
        subst hji
        unfold wpOp
        simp only [ho]
        obtain ⟨t', hs, ⟨hw, h⟩ | ⟨hw, h⟩⟩ := wanted_of hs h
        · rw [if_pos hw]
          refine .inl (gives_wp (opx_ok (fz := false) hi hs h) fun v av m' nx' B' H' w' hH h1 h2 h3 h4 => ?_)
          have hHe := hH rfl
          rw [hHe] at h1 h2 h3
          refine ⟨hS h1, ?_⟩
          exact draw_okT hro hsel hQ r fuel _ hlr hp.2 h4 h1 ((hs.mono h2).putd hd h3) fun t' m'' nx'' B'' a' w'' hdf hk hx => hq t' m'' nx'' B'' a' w'' (hdf.trans (hdef v)) hk (h2.trans hx)
        · rw [if_neg (by rw [hw]; simp)]
          refine ⟨hS hi, ?_⟩
          exact draw_okT hro hsel hQ r fuel _ hlr hp.2 h hi (hs.putd hd undef_den) fun t' m'' nx'' B'' a' w'' hdf => hq t' m'' nx'' B'' a' w'' (hdf.trans (hdef undef))
      | false =>
        simp only [PlanT.ok, Bool.and_eq_true] at hp
        have hQ' : ∀ (v : Value) (c : List PanicEntry) (a : Act) (w : World), Q (.panic c) (a.put o.dst v) w → Q (.panic c) a w := fun v c a w h => absurd h (hQ _ _ _)
        obtain ⟨t', hs, ⟨hw, h⟩ | ⟨hw, h⟩⟩ := wanted_of hs h
        · obtain ⟨v, av, hr, hdv, hk⟩ := rdx_ok hi hs h
          refine wpAnyH_take ho hsel hp.1.1 hp.1.2 (hQ' v) (.inl ⟨hw, fun w' hw' => hr w' ⟨fun ad u e => ?_, fun n o' b hn hrd hb => ?_⟩⟩) (hS hi) ?_
          · obtain ⟨g1, g2, g3⟩ := hro ad u e
            exact (World.cell?_of_block (w := ws) (hw'.2 _ g2 g3)).trans g1
          · obtain ⟨c, hc, _, _, _, r2⟩ := hi.obj n o' hn
            rw [hb] at hc; cases hc
            obtain ⟨g1, g2⟩ := r2 (by simpa [Rd] using hrd)
            rw [hw'.2 b g1 g2, hi.frame b g1 g2]
          · exact draw_okT hro hsel hQ r fuel _ hlr hp.2 hk hi (hs.putd hd hdv) fun t' m'' nx'' B'' a' w'' hdf => hq t' m'' nx'' B'' a' w'' (hdf.trans (hdef v))
        · refine wpAnyH_take ho hsel hp.1.1 hp.1.2 (hQ' undef) (.inr ⟨hw, rfl⟩) (hS hi) ?_
          exact draw_okT hro hsel hQ r fuel _ hlr hp.2 h hi (hs.putd hd undef_den) fun t' m'' nx'' B'' a' w'' hdf => hq t' m'' nx'' B'' a' w'' (hdf.trans (hdef undef))
  | .both i r j s, 0, listed, t, m, nx, B, a, w, hl, hp, h, hi, hs, hq => by simp [PlanT.depth] at hl
  | .both i r j s, fuel + 1, listed, t, m, nx, B, a, w, hl, hp, h, hi, hs, hq => by
    have hS : ∀ {m nx B w}, Inv ws FPd wrd m nx H B w → ws.heap.size ≤ w.heap.size ∧ ∀ b, b < ws.heap.size → ¬ FPd b → w.heap[b]? = ws.heap[b]? := fun hi => ⟨hi.size, hi.frame⟩
    rw [drawT_both] at h
    simp only [PlanT.ok, Bool.and_eq_true, beq_iff_eq] at hp
    have hl2 : r.depth ≤ fuel ∧ s.depth ≤ fuel := by simp only [PlanT.depth] at hl; omega
    have hone : ∀ (k : Nat) (q : PlanT), q.depth ≤ fuel → q.ok ops (listed.setIfInBounds k true) = true → DrO P N wrd ops true ops[k]? (drawT P N wrd ops K q) t m nx →
        wpOp P ops Q k (fun a' w' => (ws.heap.size ≤ w'.heap.size ∧ ∀ b, b < ws.heap.size → ¬ FPd b → w'.heap[b]? = ws.heap[b]?) ∧ wpAnyH P .any ops Q (fun w' => ws.heap.size ≤ w'.heap.size ∧ ∀ b, b < ws.heap.size → ¬ FPd b → w'.heap[b]? = ws.heap[b]?) fuel (listed.setIfInBounds k true) a' w') a w := by
      intro k q hlr hp h
      unfold DrO at h
      split at h
      · exact h.elim
      · rename_i o ho
        obtain ⟨hd, h⟩ := h
        have hdef : ∀ v, (a.put o.dst v).defers = a.defers := fun v => by cases h : o.dst <;> rfl
        unfold wpOp
        simp only [ho]
        obtain ⟨t', hs, ⟨hw, h⟩ | ⟨hw, h⟩⟩ := wanted_of hs h
        · rw [if_pos hw]
          refine .inl (gives_wp (opx_ok (fz := false) hi hs h) fun v av m' nx' B' H' w' hH h1 h2 h3 h4 => ?_)
          have hHe := hH rfl
          rw [hHe] at h1 h2 h3
          refine ⟨hS h1, ?_⟩
          exact draw_okT hro hsel hQ q fuel _ hlr hp h4 h1 ((hs.mono h2).putd hd h3) fun t' m'' nx'' B'' a' w'' hdf hk hx => hq t' m'' nx'' B'' a' w'' (hdf.trans (hdef v)) hk (h2.trans hx)
        · rw [if_neg (by rw [hw]; simp)]
          refine ⟨hS hi, ?_⟩
          exact draw_okT hro hsel hQ q fuel _ hlr hp h hi (hs.putd hd undef_den) fun t' m'' nx'' B'' a' w'' hdf => hq t' m'' nx'' B'' a' w'' (hdf.trans (hdef undef))
    refine wpAnyH_all hp.1.1 (by simp) fun k hk => ?_
    simp only [List.mem_cons, List.not_mem_nil, or_false] at hk
    rcases hk with rfl | rfl
    · exact hone _ r hl2.1 hp.1.2 h.1
    · exact hone _ s hl2.2 hp.2 h.2
theorem det_eq {H H' : RO} {B B' : Names} : ∀ {l : List AV} {vs vs' : List Value}, l.all det = true → DenL H B l vs → DenL H' B' l vs' → vs = vs'
  | [], vs, vs', _, h1, h2 => by simp only [DenL] at h1 h2; rw [h1, h2]
  | x :: r, vs, vs', h, h1, h2 => by
    simp only [List.all_cons, Bool.and_eq_true] at h
    simp only [DenL] at h1 h2
    obtain ⟨v, s, rfl, hv, hs⟩ := h1
    obtain ⟨v', s', rfl, hv', hs'⟩ := h2
    have hvv : v = v' := by
      cases x <;> first
        | (simp only [Den] at hv hv'; rw [hv, hv']; done)
        | (exact absurd h.1 (by simp [det, flat]))
    rw [hvv, det_eq h.2 hs hs']
theorem deps_ok (ops : Array Oper) (i : Nat) : waits .any ops (depsOf ops i) i := by
  have key : ∀ (l acc : List Nat), waits .any ops acc i → waits .any ops (l.foldl (depStep ops i) acc) i := by
    intro l
    induction l with
    | nil => intro acc h; exact h
    | cons k r ih =>
      intro acc h
      refine ih _ ?_
      unfold depStep
      cases ho : ops[k]? with
      | none => exact h
      | some o =>
        simp only
        split
        · rename_i hany
          obtain ⟨e, he, hb⟩ := Array.any_eq_true'.1 hany
          simp only [Bool.and_eq_true, Bool.or_eq_true, beq_iff_eq] at hb
          intro q hq
          rcases List.mem_cons.1 hq with rfl | hq
          · refine ⟨o, ho, e, he, hb.1, ?_⟩
            rcases hb.2 with h2 | h2
            · exact .inl h2
            · exact .inr (List.mem_cons_of_mem _ (List.contains_iff_mem.1 h2))
          · obtain ⟨o', ho', e', he', hb', hon⟩ := h q hq
            exact ⟨o', ho', e', he', hb', hon.imp id (List.mem_cons_of_mem _)⟩
        · exact h
  exact key _ [] (fun k hk => by cases hk)
def Sfl (ws : World) (FPd : Nat → Prop) (b : Bool) (w' : World) : Prop := ws.heap.size ≤ w'.heap.size ∧ (∀ k, k < ws.heap.size → ¬ FPd k → w'.heap[k]? = ws.heap[k]?) ∧ (b = true → ∀ k, k < ws.heap.size → w'.heap[k]? = ws.heap[k]?)
theorem draw_ok2 {ops : Array Oper} {ws : World} {FPd : Nat → Prop} {wrd : Nat → Bool} {m0 : Mem} {mods Wr Er : List Nat} {B0 : Names} (hro : ∀ ad v, H ad = some v → ws.cell? ad = some v ∧ ad.block < ws.heap.size ∧ ¬ FPd ad.block) (hsel : Region.noSelect ops = true)
    (hWr : Wr.all (fun j => decide (j < ops.size)) = true) (hFP : ∀ k, FPd k → ∃ n ∈ mods, B0 n = some k) (hB0 : ∀ n ∈ mods, ∃ o, look m0 n = some o)
    (hws : Inv ws FPd wrd m0 nx H B0 ws)
    {K : Slots → Mem → Nat → Prop} {Q : Exit → Act → World → Prop} (hQ : ∀ c a w, ¬ Q (.panic c) a w) :
    ∀ (plan : List (Nat × Bool)) (fuel : Nat) (listed : Array Bool) {t : Slots} {m : Mem} {nx : Nat} {B : Names} {a : Act} {w : World}, plan.length ≤ fuel → listed.size = ops.size → planOk ops plan listed = true → (plan.all fun p => p.2 || !Wr.contains p.1) = true → chkE ops Wr Er plan listed = true →
      drawy P N wrd m0 mods Wr Er ops K plan t m nx → Inv ws FPd wrd m nx H B w → SlotsOk N H B t a → Ext H B0 H B → Sfl ws FPd (flg Wr listed) w →
      (∀ t' m' nx' B' a' w', a'.defers = a.defers → K t' m' nx' → Ext H B H B' → Inv ws FPd wrd m' nx' H B' w' → SlotsOk N H B' t' a' → Q .normal a' w') →
      wpAnyF P .any ops Q Wr (Sfl ws FPd) fuel listed a w
  | [], fuel, listed, t, m, nx, B, a, w, hl, hsz, hp, hpw, hck, h, hi, hs, hx0, hS, hq => wpAnyF_done (by simpa [planOk] using hp) (hq _ _ _ _ _ _ rfl h (Ext.refl _ _) hi hs) fuel
  | (i, single) :: r, 0, listed, t, m, nx, B, a, w, hl, hsz, hp, hpw, hck, h, hi, hs, hx0, hS, hq => by simp at hl
  | (i, single) :: r, fuel + 1, listed, t, m, nx, B, a, w, hl, hsz, hp, hpw, hck, h, hi, hs, hx0, hS, hq => by
    have hS10 : ∀ w, Sfl ws FPd true w → Sfl ws FPd false w := fun w h => ⟨h.1, h.2.1, fun e => by cases e⟩
    simp only [List.all_cons, Bool.and_eq_true] at hpw
    simp only [chkE, Bool.and_eq_true] at hck
    unfold drawy DyO at h
    split at h
    · exact h.elim
    · rename_i o ho
      obtain ⟨hd, h⟩ := h
      have hdef : ∀ v, (a.put o.dst v).defers = a.defers := fun v => by cases h : o.dst <;> rfl
      have hlr : r.length ≤ fuel := by simpa using hl
      have hilt : i < ops.size := (Array.getElem?_eq_some_iff.1 ho).1
      have hsz' : (listed.setIfInBounds i true).size = ops.size := by simpa using hsz
      cases single with
      | true =>
        simp only [planOk, Bool.and_eq_true, beq_iff_eq] at hp
        refine wpAnyF_all hp.1 (by simp) fun j hj => ?_
        have hji : j = i := by simpa using hj
        subst hji
        unfold wpOp
        simp only [ho]
        obtain ⟨t', hs, ⟨hw, h⟩ | ⟨hw, h⟩⟩ := wanted_of hs h
        · rw [if_pos hw]
          unfold DyE at h
          cases hjw : Wr.contains j with
          | true =>
            rw [hjw] at h
            have hfl : flg Wr (listed.setIfInBounds j true) = false := by
              rw [Bool.eq_false_iff]
              intro hf
              have := List.all_eq_true.1 hf j (List.contains_iff_mem.1 hjw)
              rw [Array.getD_eq_getD_getElem?, Array.getElem?_setIfInBounds_self_of_lt (by omega)] at this
              cases this
            refine .inl (gives_wp (opx_ok (fz := false) hi hs h) fun v av m' nx' B' H' w' hH h1 h2 h3 h4 => ?_)
            have hHe := hH rfl
            rw [hHe] at h1 h2 h3
            have hS' : Sfl ws FPd (flg Wr (listed.setIfInBounds j true)) w' := by rw [hfl]; exact ⟨h1.size, h1.frame, fun e => by cases e⟩
            refine ⟨hS', ?_⟩
            exact draw_ok2 hro hsel hWr hFP hB0 hws hQ r fuel _ hlr hsz' hp.2 hpw.2 hck.2 h4 h1 ((hs.mono h2).putd hd h3) (hx0.trans h2) hS' fun t' m'' nx'' B'' a' w'' hdf hk hx => hq t' m'' nx'' B'' a' w'' (hdf.trans (hdef v)) hk (h2.trans hx)
          | false =>
            rw [hjw] at h
            have hjW : j ∉ Wr := fun h' => by rw [List.contains_iff_mem.2 h'] at hjw; cases hjw
            have hst := draw_start hi (mods := []) (fun n hn => by cases hn) (ws := w) rfl
            refine .inl (gives_wp (opx_ok (fz := false) hst hs h) fun v av m' nx' B' H' w' hH h1 h2 h3 h4 => ?_)
            have hHe := hH rfl
            rw [hHe] at h1 h2 h3
            have hwn : ∀ n, nx' ≤ n → wrd n = true := fun n hn => by
              cases hwn : wrd n with
              | true => rfl
              | false =>
                obtain ⟨o1, ho1⟩ := hi.keep n hwn
                obtain ⟨c, hc, _⟩ := hi.obj n o1 ho1
                have := h2.nm _ _ hc
                rw [h1.fresh n hn] at this; cases this
            have h1' := draw_end hi (mods := []) (fun n hn => by cases hn) (ws := w) rfl rfl rfl rfl h2 hwn h1
            have hS' : Sfl ws FPd (flg Wr (listed.setIfInBounds j true)) w' := by
              refine ⟨h1'.size, h1'.frame, fun hf k hk => ?_⟩
              rw [flg_set hjW] at hf
              rw [h1.frame k (Nat.lt_of_lt_of_le hk hi.size) (fun ⟨n, hn, _⟩ => by cases hn)]
              exact hS.2.2 hf k hk
            refine ⟨hS', ?_⟩
            exact draw_ok2 hro hsel hWr hFP hB0 hws hQ r fuel _ hlr hsz' hp.2 hpw.2 hck.2 h4 h1' ((hs.mono h2).putd hd h3) (hx0.trans h2) hS' fun t' m'' nx'' B'' a' w'' hdf hk hx => hq t' m'' nx'' B'' a' w'' (hdf.trans (hdef v)) hk (h2.trans hx)
        · rw [if_neg (by rw [hw]; simp)]
          have hS' : Sfl ws FPd (flg Wr (listed.setIfInBounds j true)) w := by
            refine ⟨hS.1, hS.2.1, fun hf => hS.2.2 ?_⟩
            by_cases hjw : j ∈ Wr
            · have := List.all_eq_true.1 hf j hjw
              rw [Array.getD_eq_getD_getElem?, Array.getElem?_setIfInBounds_self_of_lt (by omega)] at this
              cases this
            · rwa [flg_set hjw] at hf
          refine ⟨hS', ?_⟩
          exact draw_ok2 hro hsel hWr hFP hB0 hws hQ r fuel _ hlr hsz' hp.2 hpw.2 hck.2 h hi (hs.putd hd undef_den) hx0 hS' fun t' m'' nx'' B'' a' w'' hdf => hq t' m'' nx'' B'' a' w'' (hdf.trans (hdef undef))
      | false =>
        simp only [planOk, Bool.and_eq_true] at hp
        have hiW : i ∉ Wr := fun h' => by
          have := hpw.1
          rw [List.contains_iff_mem.2 h'] at this
          cases this
        have hQ' : ∀ (v : Value) (c : List PanicEntry) (a : Act) (w : World), Q (.panic c) (a.put o.dst v) w → Q (.panic c) a w := fun v c a w h => absurd h (hQ _ _ _)
        have hSn : Sfl ws FPd (flg Wr (listed.setIfInBounds i true)) w := by rw [flg_set hiW]; exact hS
        have hE : Er.contains i = true → (∀ j ∈ Wr, j ∈ depsOf ops i) ∧ ∀ k ∈ depsOf ops i, listed.getD k true = false := fun he => by
          have h1 := hck.1
          rw [he] at h1
          simp only [Bool.false_or, Bool.not_true, Bool.and_eq_true, List.all_eq_true] at h1
          exact ⟨fun j hj => List.contains_iff_mem.1 (h1.1 j hj), fun k hk => by simpa using h1.2 k hk⟩
        have hfl : Er.contains i = true → flg Wr listed = true := fun he => List.all_eq_true.2 fun j hj => by
          rw [(hE he).2 j ((hE he).1 j hj)]; rfl
        obtain ⟨t', hs, ⟨hw, h⟩ | ⟨hw, h⟩⟩ := wanted_of hs h
        · unfold DyE at h
          obtain ⟨v, av, hr, hdv, hk⟩ := rdx_ok hi hs h
          refine wpAnyF_take (b := Er.contains i) (C := if Er.contains i then depsOf ops i else []) ho hS10 (by split; exact deps_ok ops i; exact fun k hk => by cases hk) (fun he => by rw [if_pos he]; exact (hE he).1) (by split; rename_i he; exact (hE he).2; exact fun k hk => by cases hk) hiW hsel hp.1.1 hp.1.2 hfl (hQ' v) (.inl ⟨hw, fun w' hw' => hr w' ⟨fun ad u e => ?_, fun n o' b hn hrd hb => ?_⟩⟩) hS ?_
          · obtain ⟨g1, g2, g3⟩ := hro ad u e
            exact (World.cell?_of_block (w := ws) (hw'.2.1 _ g2 g3)).trans g1
          · simp only [Bool.or_eq_true, Bool.not_eq_true', Bool.and_eq_true] at hrd
            rcases hrd with hrd | ⟨he, hmn⟩
            · obtain ⟨c, hc, _, _, _, r2⟩ := hi.obj n o' hn
              rw [hb] at hc; cases hc
              obtain ⟨g1, g2⟩ := r2 hrd
              rw [hw'.2.1 b g1 g2, hi.frame b g1 g2]
            · obtain ⟨o9, hlk⟩ := hB0 n (List.contains_iff_mem.1 hmn)
              obtain ⟨b1, hb1, _, hlt, _⟩ := hws.obj n _ hlk
              have := hx0.nm _ _ hb1
              rw [hb] at this; cases this
              rw [hw'.2.2 he b hlt, hS.2.2 (hfl he) b hlt]
          · exact draw_ok2 hro hsel hWr hFP hB0 hws hQ r fuel _ hlr hsz' hp.2 hpw.2 hck.2 hk hi (hs.putd hd hdv) hx0 hSn fun t' m'' nx'' B'' a' w'' hdf => hq t' m'' nx'' B'' a' w'' (hdf.trans (hdef v))
        · refine wpAnyF_take (b := false) (C := []) ho hS10 (fun k hk => by cases hk) (fun e => by cases e) (fun k hk => by cases hk) hiW hsel hp.1.1 hp.1.2 (fun e => by cases e) (hQ' undef) (.inr ⟨hw, rfl⟩) hS ?_
          exact draw_ok2 hro hsel hWr hFP hB0 hws hQ r fuel _ hlr hsz' hp.2 hpw.2 hck.2 h hi (hs.putd hd undef_den) hx0 hSn fun t' m'' nx'' B'' a' w'' hdf => hq t' m'' nx'' B'' a' w'' (hdf.trans (hdef undef))
theorem exec_ok {fz : Bool} {nf : Nat} : ∀ (c : Code) {K : Kx} {t : Slots} {m : Mem} {nx : Nat} {H : RO} {B : Names} {a : Act} {w : World}, exec P fz N nf wr c t m nx K → Inv w0 FP wr m nx H B w → SlotsOk N H B t a → c.wp P (Post fz nf w0 FP wr H B N a.defers K) a w := by
  intro c
  induction c with
  | skip => intro K t m nx H B a w h hi hs; exact wp_skip ⟨trivial, rfl, t, m, nx, B, H, h, fun _ _ _ e => e, ⟨fun _ _ e => e, fun _ => rfl⟩, hi, hs⟩
  | exit id => intro K t m nx H B a w h hi hs; exact wp_exit ⟨trivial, rfl, t, m, nx, B, H, h, fun _ _ _ e => e, ⟨fun _ _ e => e, fun _ => rfl⟩, hi, hs⟩
  | ret => intro K t m nx H B a w h hi hs; exact wp_ret ⟨trivial, rfl, t, m, nx, B, H, h, fun _ _ _ e => e, ⟨fun _ _ e => e, fun _ => rfl⟩, hi, hs⟩
  | region id ops draw =>
    intro K t m nx H B a w h hi hs
    cases draw with
    | false =>
      refine wp_region_list (opsx_ok ops.toList h hi hs fun t' m' nx' B' H' a' w' hd hk hz hx h1 h2 => ?_)
      exact ⟨trivial, hd, t', m', nx', B', H', hk, fun n b _ e => hx.nm n b e, ⟨hx.ro, hz⟩, h1, h2⟩
    | true =>
      obtain ⟨hmo, ⟨plan, mods, hB, hm, h⟩ | ⟨plan, mods, Wr, Er, hB, hY, hm, h⟩ | ⟨plan, mods, hB, hm, h⟩⟩ := h
      case inr.inl =>
        simp only [drawB, Bool.and_eq_true, decide_eq_true_eq] at hB
        simp only [planY, Bool.and_eq_true] at hY
        have hst := draw_start hi hm (ws := { w with drawn := w.drawn + 1 }) rfl
        have hfl0 : flg Wr (Array.replicate ops.size false) = true := by
          refine List.all_eq_true.2 fun j hj => ?_
          have hjs := of_decide_eq_true (List.all_eq_true.1 hY.2 j hj)
          rw [Array.getD_eq_getD_getElem?, Array.getElem?_replicate, if_pos hjs]
          rfl
        refine wp_region_flagged hmo (draw_ok2 (m0 := m) (B0 := B) (fun ad v e => ?_) hB.1.1 hY.2 (fun k hk => hk) (fun n hn => Option.isSome_iff_exists.1 (hm n hn).2) hst (fun c a w h => h.1) plan ops.size _ hB.1.2 (by simp) hB.2 hY.1.1 hY.1.2 h hst hs (Ext.refl _ _) (by rw [hfl0]; exact ⟨Nat.le_refl _, fun _ _ _ => rfl, fun _ _ _ => rfl⟩) fun t' m' nx' B' a' w' hd hk hx h1 h2 => ?_)
        · obtain ⟨g1, g2⟩ := hst.ro ad v e
          refine ⟨g1, block_lt_of_cell g1, ?_⟩
          rintro ⟨n, hn, hb⟩
          obtain ⟨o, ho⟩ := Option.isSome_iff_exists.1 (hm n hn).2
          exact g2 n o ho hb
        · refine ⟨trivial, hd, t', m', nx', B', H, hk, fun n b _ e => hx.nm n b e, ⟨fun _ _ e => e, fun _ => rfl⟩, ?_, h2⟩
          refine draw_end hi hm (ws := { w with drawn := w.drawn + 1 }) rfl rfl rfl rfl hx (fun n hn => ?_) h1
          cases hwn : wr n with
          | true => rfl
          | false =>
            obtain ⟨o1, ho1⟩ := hi.keep n hwn
            obtain ⟨c, hc, _⟩ := hi.obj n o1 ho1
            have := hx.nm _ _ hc
            rw [h1.fresh n hn] at this; cases this
      case inr.inr =>
        simp only [drawTB, Bool.and_eq_true, decide_eq_true_eq] at hB
        have hst := draw_start hi hm (ws := { w with drawn := w.drawn + 1 }) rfl
        refine wp_region_held hmo (S := _) (draw_okT (fun ad v e => ?_) hB.1.1 (fun c a w h => h.1) plan ops.size _ hB.1.2 hB.2 h hst hs fun t' m' nx' B' a' w' hd hk hx h1 h2 => ?_)
        · obtain ⟨g1, g2⟩ := hst.ro ad v e
          refine ⟨g1, block_lt_of_cell g1, ?_⟩
          rintro ⟨n, hn, hb⟩
          obtain ⟨o, ho⟩ := Option.isSome_iff_exists.1 (hm n hn).2
          exact g2 n o ho hb
        · refine ⟨trivial, hd, t', m', nx', B', H, hk, fun n b _ e => hx.nm n b e, ⟨fun _ _ e => e, fun _ => rfl⟩, ?_, h2⟩
          refine draw_end hi hm (ws := { w with drawn := w.drawn + 1 }) rfl rfl rfl rfl hx (fun n hn => ?_) h1
          cases hwn : wr n with
          | true => rfl
          | false =>
            obtain ⟨o1, ho1⟩ := hi.keep n hwn
            obtain ⟨c, hc, _⟩ := hi.obj n o1 ho1
            have := hx.nm _ _ hc
            rw [h1.fresh n hn] at this; cases this
      simp only [drawB, Bool.and_eq_true, decide_eq_true_eq] at hB
      have hst := draw_start hi hm (ws := { w with drawn := w.drawn + 1 }) rfl
      refine wp_region_held hmo (S := _) (draw_ok (fun ad v e => ?_) hB.1.1 (fun c a w h => h.1) plan ops.size _ hB.1.2 hB.2 h hst hs fun t' m' nx' B' a' w' hd hk hx h1 h2 => ?_)
      · obtain ⟨g1, g2⟩ := hst.ro ad v e
        refine ⟨g1, block_lt_of_cell g1, ?_⟩
        rintro ⟨n, hn, hb⟩
        obtain ⟨o, ho⟩ := Option.isSome_iff_exists.1 (hm n hn).2
        exact g2 n o ho hb
      · refine ⟨trivial, hd, t', m', nx', B', H, hk, fun n b _ e => hx.nm n b e, ⟨fun _ _ e => e, fun _ => rfl⟩, ?_, h2⟩
        refine draw_end hi hm (ws := { w with drawn := w.drawn + 1 }) rfl rfl rfl rfl hx (fun n hn => ?_) h1
        cases hwn : wr n with
        | true => rfl
        | false =>
          obtain ⟨o1, ho1⟩ := hi.keep n hwn
          obtain ⟨c, hc, _⟩ := hi.obj n o1 ho1
          have := hx.nm _ _ hc
          rw [h1.fresh n hn] at this; cases this
  | seq x y ihx ihy =>
    intro K t m nx H B a w h hi hs
    refine wp_seq (wp_mono (ihx h hi hs) fun e a' w' hp => ?_)
    obtain ⟨h0, hd, t', m', nx', B', H', hk, hx, hH, h1, h2⟩ := hp
    cases e with
    | normal =>
      have := ihy (K := K) hk h1 h2
      refine wp_mono this fun e a'' w'' ⟨g0, gd, t2, m2, nx2, B2, H2, gk, gx, gH, g⟩ => ⟨g0, gd.trans hd, t2, m2, nx2, B2, H2, gk, fun n b hn e => gx n b hn (hx n b hn e), ⟨fun ad v e => gH.1 ad v (hH.1 ad v e), fun e => (gH.2 e).trans (hH.2 e)⟩, g⟩
    | exit i => exact ⟨trivial, hd, t', m', nx', B', H', hk, hx, hH, h1, h2⟩
    | ret => exact ⟨trivial, hd, t', m', nx', B', H', hk, hx, hH, h1, h2⟩
    | goto l => exact h0.elim
    | panic ch => exact h0.elim
    | outgrown => exact h0.elim
  | cond c x y ihx ihy =>
    intro K t m nx H B a w h hi hs
    obtain ⟨v, e, h⟩ := withv_elim h
    split at h
    · rename_i q
      have hc := evx_ok hs e
      simp only [Den] at hc
      cases q with
      | true => exact wp_cond_true hc (ihx (h.1 rfl) hi hs)
      | false => exact wp_cond_false hc (ihy (h.2 rfl) hi hs)
    · exact h.elim
  | block id c ih =>
    intro K t m nx H B a w h hi hs
    refine wp_block (wp_mono (ih h hi hs) fun e a' w' hp => ?_)
    obtain ⟨h0, hd, t', m', nx', B', H', hk, hx, hH, h1, h2⟩ := hp
    cases e with
    | normal => exact ⟨trivial, hd, t', m', nx', B', H', hk, hx, hH, h1, h2⟩
    | exit i =>
      simp only [Exit.inBlock]
      unfold Blk at hk
      split
      · rename_i hid; simp only [hid, if_true] at hk; exact ⟨trivial, hd, t', m', nx', B', H', hk, hx, hH, h1, h2⟩
      · rename_i hid; simp only [hid, if_false] at hk; exact ⟨trivial, hd, t', m', nx', B', H', hk, hx, hH, h1, h2⟩
    | ret => exact ⟨trivial, hd, t', m', nx', B', H', hk, hx, hH, h1, h2⟩
    | goto l => exact h0.elim
    | panic ch => exact h0.elim
    | outgrown => exact h0.elim
  | loop c ih =>
    intro K t m nx H B a w h hi hs
    obtain ⟨ι, S, μ, ⟨i0, hle0⟩, hround⟩ := h
    obtain ⟨H0, B0, hH0, hi0, hs0, hx0⟩ : ∃ H' B', ((∀ ad v, H ad = some v → H' ad = some v) ∧ (fz = false → H' = H)) ∧ Inv w0 FP wr (S i0).2.1 (S i0).2.2 H' B' w ∧ SlotsOk N H' B' (S i0).1 a ∧ ExtN nf B B' := by
      rcases hle0 with ⟨l, h⟩ | ⟨hz, h⟩
      · obtain ⟨h1, h2, h3⟩ := h.ok hi hs
        exact ⟨H, _, ⟨fun _ _ e => e, fun _ => rfl⟩, h1, h2, h3⟩
      · obtain ⟨H', B', h0, h1, h2, h3⟩ := h.ok hi hs
        exact ⟨H', B', ⟨h0, fun e => by rw [hz] at e; cases e⟩, h1, h2, h3⟩
    refine wp_loop_ghost (fun n a' w' => a'.defers = a.defers ∧ ∃ i B' H', μ i = n ∧ ExtN nf B B' ∧ ((∀ ad v, H ad = some v → H' ad = some v) ∧ (fz = false → H' = H)) ∧ Inv w0 FP wr (S i).2.1 (S i).2.2 H' B' w' ∧ SlotsOk N H' B' (S i).1 a') (μ i0) ⟨rfl, i0, B0, H0, rfl, hx0, hH0, hi0, hs0⟩ ?_
    rintro n a' w' ⟨hd, i, B', H', rfl, hx, hH, h1, h2⟩
    refine wp_mono (ih (hround i) h1 h2) fun e a'' w'' hp => ?_
    obtain ⟨h0, hd', t', m', nx', B'', H'', hk, gx, gH, g1, g2⟩ := hp
    have hx' : ExtN nf B B'' := fun n b hn e => gx n b hn (hx n b hn e)
    have hH' : (∀ ad v, H ad = some v → H'' ad = some v) ∧ (fz = false → H'' = H) := ⟨fun ad v e => gH.1 ad v (hH.1 ad v e), fun e => (gH.2 e).trans (hH.2 e)⟩
    cases e with
    | normal =>
      obtain ⟨j, hj, l, hle⟩ := hk
      have h3 := hle.ok g1 g2
      exact ⟨μ j, hj, hd'.trans hd, j, _, H'', rfl, fun n b hn e => h3.2.2 n b hn (hx' n b hn e), hH', h3.1, h3.2.1⟩
    | exit i => exact ⟨trivial, hd'.trans hd, t', m', nx', B'', H'', hk, hx', hH', g1, g2⟩
    | ret => exact ⟨trivial, hd'.trans hd, t', m', nx', B'', H'', hk, hx', hH', g1, g2⟩
    | goto l => exact h0.elim
    | panic ch => exact h0.elim
    | outgrown => exact h0.elim
  | _ => intro K t m nx H B a w h hi hs; exact h.elim
end
end Go.Eng
