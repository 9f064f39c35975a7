/- The engine, part 2: operations that read, and yield a value. Own work. -/
import Derived.Test.YtmdeoikpiiambaaEng1
import Derived.Laws.IdiomStrings
import Derived.Laws.BytesArg
import Derived.WideLaws
import Derived.Laws.StructEq
import Derived.DeepKeys
set_option linter.unusedVariables false
set_option linter.unusedSimpArgs false
namespace Go.Eng
open Go

/-! Types -/
def sizeT (P : Program) (t : TypeId) : Option Nat := (P.info? t).map (·.size)
def bytesT (P : Program) (t : TypeId) : Option Nat := (P.info? t).map (·.bytes)
def undT (P : Program) (t : TypeId) : Option TypeDesc := P.underlying t
def aggT (P : Program) (t : TypeId) : Bool := match P.underlying t with | some (.struct _) => true | some (.array _ _) => true | _ => false
def elemT (P : Program) (t : TypeId) : Option TypeId := match P.underlying t with | some (.slice e) => some e | _ => none
def arrT (P : Program) (t : TypeId) : Option (Nat × TypeId) := match P.underlying t with | some (.array n e) => some (n, e) | _ => none
def intT (P : Program) (t : TypeId) : Option IntKind := match P.underlying t with | some (.int k) => some k | _ => none
def isStrT (P : Program) (t : TypeId) : Bool := match P.underlying t with | some .string => true | _ => false
def isBoolT (P : Program) (t : TypeId) : Bool := match P.underlying t with | some .bool => true | _ => false
def isPtrT (P : Program) (t : TypeId) : Bool := match P.underlying t with | some (.pointer _) => true | _ => false
def isFuncT (P : Program) (t : TypeId) : Bool := match P.underlying t with | some (.func _ _ _) => true | _ => false
def isIfaceT (P : Program) (t : TypeId) : Bool := match P.underlying t with | some (.interface _) => true | _ => false
def known (P : Program) (t : TypeId) : Bool := (P.underlying t).isSome
/-- a struct's field: where it begins, its type -/
def fieldT (P : Program) (t : TypeId) (i : Nat) : Option (Nat × TypeId) := match P.underlying t with | some (.struct fs) => (fs[i]?).map fun f => (f.offset, f.type) | _ => none
theorem elemT_some {P : Program} {t e : TypeId} (h : elemT P t = some e) : P.underlying t = some (.slice e) := by
  unfold elemT at h
  split at h
  · rename_i h'; cases h; exact h'
  · cases h
theorem arrT_some {P : Program} {t e n} (h : arrT P t = some (n, e)) : P.underlying t = some (.array n e) := by
  unfold arrT at h
  split at h
  · rename_i h'; cases h; exact h'
  · cases h
theorem intT_some {P : Program} {t k} (h : intT P t = some k) : P.underlying t = some (.int k) := by
  unfold intT at h
  split at h
  · rename_i h'; cases h; exact h'
  · cases h
theorem isStrT_some {P : Program} {t} (h : isStrT P t = true) : P.underlying t = some .string := by
  unfold isStrT at h
  split at h
  · assumption
  · cases h
theorem isBoolT_some {P : Program} {t} (h : isBoolT P t = true) : P.underlying t = some .bool := by
  unfold isBoolT at h
  split at h
  · assumption
  · cases h
theorem isPtrT_some {P : Program} {t} (h : isPtrT P t = true) : ∃ e, P.underlying t = some (.pointer e) := by
  unfold isPtrT at h
  split at h
  · exact ⟨_, by assumption⟩
  · cases h
theorem isFuncT_some {P : Program} {t} (h : isFuncT P t = true) : ∃ a b c, P.underlying t = some (.func a b c) := by
  unfold isFuncT at h
  split at h
  · exact ⟨_, _, _, by assumption⟩
  · cases h
theorem fieldT_some {P : Program} {t i o ft} (h : fieldT P t i = some (o, ft)) : ∃ fs f, P.underlying t = some (.struct fs) ∧ fs[i]? = some f ∧ f.offset = o ∧ f.type = ft := by
  unfold fieldT at h
  split at h
  · rename_i fs h'
    obtain ⟨f, hf, e⟩ := Option.map_eq_some_iff.1 h
    cases e
    exact ⟨fs, f, h', hf, rfl, rfl⟩
  · cases h
theorem sizeT_run {P : Program} {t n} (h : sizeT P t = some n) (w : World) : (sizeOf t).run P w = .ok n w := by
  unfold sizeT at h
  obtain ⟨i, hi, e⟩ := Option.map_eq_some_iff.1 h
  simp [sizeOf, typeInfo, hi, e]
theorem aggT_run {P : Program} {t b} (h : aggT P t = b) (hk : known P t = true) (w : World) : (isAgg t).run P w = .ok b w := by
  unfold known at hk
  obtain ⟨d, hd⟩ := Option.isSome_iff_exists.1 hk
  unfold aggT at h
  rw [hd] at h
  unfold isAgg
  rw [Sem.run_bind, run_underlying hd w]
  cases d <;> simp_all
theorem aggT_row {P : Program} {t} (h : aggT P t = true) : ∃ d, P.underlying t = some d ∧ d.isRow = true := by
  unfold aggT at h
  split at h
  · exact ⟨_, by assumption, rfl⟩
  · exact ⟨_, by assumption, rfl⟩
  · cases h

/-! Constants -/
def cst1 : Value → AV
  | .bool b => .bool b
  | .int k n => .int k n
  | .string s => .str s
  | .pointer none => .nilp
  | .slice none 0 0 => .nils
  | .nilFunc => .nilf
  | .nilIface => .nili
  | .map none => .nilm
  | v => .val v
def cst : Value → AV
  | .agg cs => .agg (cs.toList.map cst1)
  | .tuple cs => .tup (cs.toList.map cst1)
  | v => cst1 v
theorem den_cst1 (H : RO) (B : Names) (v : Value) : Den H B (cst1 v) v := by
  unfold cst1
  split <;> simp [Den]
theorem denL_cst1 (H : RO) (B : Names) : ∀ l : List Value, DenL H B (l.map cst1) l
  | [] => by simp [DenL]
  | v :: r => by simp only [List.map_cons, DenL]; exact ⟨v, r, rfl, den_cst1 H B v, denL_cst1 H B r⟩
theorem den_cst (H : RO) (B : Names) (v : Value) : Den H B (cst v) v := by
  unfold cst
  split
  · simp only [Den]; exact ⟨_, by simp, denL_cst1 H B _⟩
  · simp only [Den]; exact ⟨_, by simp, denL_cst1 H B _⟩
  · exact den_cst1 H B v
/-- a type's zero value, by cells -/
def zav (P : Program) (t : TypeId) : Option (List AV) := ((P.info? t).bind (·.zero)).map fun v => v.cells.toList.map cst1
theorem zav_run {P : Program} {t z} (h : zav P t = some z) (w : World) (H : RO) (B : Names) : ∃ v, (zeroValue t).run P w = .ok v w ∧ DenL H B z v.cells.toList := by
  unfold zav at h
  obtain ⟨v, hv, e⟩ := Option.map_eq_some_iff.1 h
  obtain ⟨i, hi, hz⟩ := Option.bind_eq_some_iff.1 hv
  refine ⟨v, by simp [zeroValue, typeInfo, hi, hz], ?_⟩
  rw [← e]
  exact denL_cst1 H B _
def dflt (P : Program) (t : TypeId) : AV := (((zav P t).bind (·.head?))).getD (.tup [])

def acells : AV → List AV
  | .agg l => l
  | v => [v]
def isTup : AV → Bool
  | .tup _ => true
  | .val (.agg _) => true
  | .val (.tuple _) => true
  | _ => false
theorem den_cells {H : RO} {B : Names} {a : AV} {v : Value} (h : Den H B a v) (ht : isTup a = false) : DenL H B (acells a) v.cells.toList := by
  cases a <;> simp only [Den] at h <;> simp only [acells]
  case agg l => obtain ⟨cs, rfl, h⟩ := h; simpa [Value.cells] using h
  case tup l => cases ht
  case val u => subst h; cases v <;> simp_all [isTup, Value.cells, DenL, Den]
  case bool => subst h; simp [Value.cells, DenL, Den]
  case int => subst h; simp [Value.cells, DenL, Den]
  case str => subst h; simp [Value.cells, DenL, Den]
  case ptr => obtain ⟨b, hb, rfl⟩ := h; simp [Value.cells, DenL, Den, hb]
  case nilp => subst h; simp [Value.cells, DenL, Den]
  case sl => obtain ⟨b, a, hb, rfl, hl⟩ := h; simp only [Value.cells, DenL, Den]; exact ⟨_, [], rfl, ⟨b, a, hb, rfl, hl⟩, rfl⟩
  case nils => subst h; simp [Value.cells, DenL, Den]
  case ro => obtain ⟨A, c, rfl, hl, hd⟩ := h; simp only [Value.cells, DenL, Den]; exact ⟨_, [], rfl, ⟨A, c, rfl, hl, hd⟩, rfl⟩
  case rop => obtain ⟨a, rfl, hd⟩ := h; simp [Value.cells, DenL, Den]; exact hd
  case fn => obtain ⟨p, q, rfl, h1, h2⟩ := h; simp only [Value.cells, DenL, Den]; exact ⟨_, [], rfl, ⟨p, q, rfl, h1, h2⟩, rfl⟩
  case nilf => subst h; simp [Value.cells, DenL, Den]
  case map => obtain ⟨b, hb, rfl⟩ := h; simp [Value.cells, DenL, Den, hb]
  case nilm => subst h; simp [Value.cells, DenL, Den]
  case iface => obtain ⟨y, rfl, h1⟩ := h; simp [Value.cells, DenL, Den, h1]
  case nili => subst h; simp [Value.cells, DenL, Den]
theorem den_one {H : RO} {B : Names} {a : AV} {v : Value} (h : Den H B a v) (ht : isTup a = false) (hg : ∀ l, a ≠ .agg l) : v.oneCell' = true := by
  cases a <;> simp only [Den] at h
  case agg l => exact absurd rfl (hg l)
  case tup l => cases ht
  case val u => subst h; cases v <;> simp_all [isTup, Value.oneCell']
  case ptr => obtain ⟨b, hb, rfl⟩ := h; rfl
  case sl => obtain ⟨b, a, hb, rfl, hl⟩ := h; rfl
  case ro => obtain ⟨A, c, rfl, hl, hd⟩ := h; rfl
  case rop => obtain ⟨a, rfl, hd⟩ := h; rfl
  case fn => obtain ⟨p, q, rfl, h1, h2⟩ := h; rfl
  case map => obtain ⟨b, hb, rfl⟩ := h; rfl
  case iface => obtain ⟨y, rfl, h1⟩ := h; rfl
  all_goals (subst h; rfl)

/-! Slots -/
def SlotsOk (N : Nat) (H : RO) (B : Names) (t : Slots) (a : Act) : Prop := a.tmps.size = N ∧ ∀ s av, look t s = some av → Den H B av (a.tmps.getD s undef)
def evx (t : Slots) : Operand → Option AV
  | .tmp s => look t s
  | .const v => some (cst v)
  | .func f => some (.fn (.func f) [] [])
  | .global _ => none
theorem evx_ok {N : Nat} {H : RO} {B : Names} {t : Slots} {a : Act} (h : SlotsOk N H B t a) {x : Operand} {av : AV} (e : evx t x = some av) : Den H B av (a.eval x) := by
  cases x with
  | tmp s => exact h.2 s av e
  | const v => simp only [evx] at e; cases e; exact den_cst H B v
  | global g => cases e
  | func f => simp only [evx] at e; cases e; simp only [Den]; exact ⟨[], [], rfl, by simp [DenL], by simp [DenL]⟩
theorem SlotsOk.mono {N : Nat} {H H' : RO} {B B' : Names} (x : Ext H B H' B') {t : Slots} {a : Act} (h : SlotsOk N H B t a) : SlotsOk N H' B' t a := ⟨h.1, fun s av e => (h.2 s av e).mono x⟩
theorem SlotsOk.put {N : Nat} {H : RO} {B : Names} {t : Slots} {a : Act} (h : SlotsOk N H B t a) {d : Nat} (hd : d < N) {av : AV} {v : Value} (hv : Den H B av v) : SlotsOk N H B ((d, av) :: t) (a.put (some d) v) := by
  refine ⟨by simp [Act.put, h.1], fun s u e => ?_⟩
  simp only [look] at e
  simp only [Act.put]
  by_cases hs : d = s
  · subst hs
    rw [if_pos rfl] at e
    cases e
    simpa [Array.getD, h.1, hd] using hv
  · rw [if_neg hs] at e
    have := h.2 s u e
    have e2 : (a.tmps.setIfInBounds d v).getD s undef = a.tmps.getD s undef := by
      simp only [Array.getD_eq_getD_getElem?, Array.getElem?_setIfInBounds, if_neg hs]
    rw [e2]; exact this
def withv (o : Option AV) (k : AV → Prop) : Prop := match o with | some v => k v | none => False
theorem withv_some (v : AV) (k : AV → Prop) : withv (some v) k = k v := rfl
theorem withv_none (k : AV → Prop) : withv none k = False := rfl
theorem withv_elim {o : Option AV} {k : AV → Prop} (h : withv o k) : ∃ v, o = some v ∧ k v := by
  cases o with
  | none => exact h.elim
  | some v => exact ⟨v, rfl, h⟩

/-! Arithmetic -/
def bitsI (op : BinOp) (k : IntKind) (x y : Int) : Int :=
  match op with
  | .and => k.wrap (BitVec.ofInt k.bits x &&& BitVec.ofInt k.bits y).toNat
  | .or => k.wrap (BitVec.ofInt k.bits x ||| BitVec.ofInt k.bits y).toNat
  | .xor => k.wrap (BitVec.ofInt k.bits x ^^^ BitVec.ofInt k.bits y).toNat
  | _ => k.wrap (BitVec.ofInt k.bits x &&& ~~~ (BitVec.ofInt k.bits y)).toNat
def shlI (k : IntKind) (x y : Int) : Int := k.wrap (x * 2 ^ (min y.toNat k.bits))
def shrI (k : IntKind) (x y : Int) : Int := x.fdiv (2 ^ (min y.toNat k.bits))
def notI (k : IntKind) (n : Int) : Int := bitsI .xor k (if k.signed then -1 else k.max) n
/-! structs and arrays of integers, bools and strings, cell by cell -/
def avVals : List AV → Option (List Value)
  | [] => some []
  | .int k n :: r => (avVals r).map fun l => .int k n :: l
  | .bool b :: r => (avVals r).map fun l => .bool b :: l
  | .str s :: r => (avVals r).map fun l => .string s :: l
  | _ => none
theorem avVals_den {H : RO} {B : Names} : ∀ {a : List AV} {vs cs : List Value}, avVals a = some vs → DenL H B a cs → cs = vs
  | [], vs, cs, h, hd => by simp only [avVals] at h; cases h; exact hd
  | x :: r, vs, cs, h, hd => by
    simp only [DenL] at hd
    obtain ⟨v, s, rfl, hv, hs⟩ := hd
    cases x <;> simp only [avVals, Option.map_eq_some_iff, reduceCtorEq] at h
    all_goals
      obtain ⟨l, hl, rfl⟩ := h
      simp only [Den] at hv
      subst hv
      rw [avVals_den hl hs]
def aggLits (P : Program) (t : TypeId) (a : List AV) : Option (List Lit) := (avVals a).bind fun vs => if (Value.agg vs.toArray).formed P t = true then P.keyLits 4 t vs else none
noncomputable def litEq (la lb : List Lit) : Bool := @decide (la = lb) (Classical.propDecidable _)
theorem litEq_iff {la lb : List Lit} : litEq la lb = true ↔ la = lb := @decide_eq_true_iff _ (Classical.propDecidable _)
theorem litEq_self (la : List Lit) : litEq la la = true := litEq_iff.2 rfl
theorem litEq_ne {la lb : List Lit} (h : la ≠ lb) : litEq la lb = false := by
  cases e : litEq la lb with
  | false => rfl
  | true => exact absurd (litEq_iff.1 e) h
def eqAggT (P : Program) (t : TypeId) : Bool := P.keyTypeAt 8 t && !(P.eqGuardType P.depth t)
theorem equal_agg {P : Program} {H : RO} {B : Names} {t : TypeId} (ht : eqAggT P t = true) {a b : List AV} {la lb : List Lit} (ha : aggLits P t a = some la) (hb : aggLits P t b = some lb) {x y : List Value} (hx : DenL H B a x) (hy : DenL H B b y) (w : World) :
    (Op.equal t (.agg x.toArray) (.agg y.toArray)).run P w = .ok (litEq la lb) w := by
  simp only [eqAggT, Bool.and_eq_true] at ht
  have key : ∀ {c : List AV} {l : List Lit} {z : List Value}, aggLits P t c = some l → DenL H B c z → (Value.agg z.toArray).formed P t = true ∧ P.keyLits 4 t (Value.agg z.toArray).cells.toList = some l := by
    intro c l z hc hz
    obtain ⟨vs, hv, hl⟩ := Option.bind_eq_some_iff.1 hc
    rw [avVals_den hv hz]
    split at hl
    · rename_i hf; exact ⟨hf, by simpa [Value.cells] using hl⟩
    · cases hl
  obtain ⟨f1, k1⟩ := key ha hx
  obtain ⟨f2, k2⟩ := key hb hy
  obtain ⟨r, hr, hi⟩ := run_equalIn_deep 9992 8 t ht.1 w 4 4 _ _ la lb f1 f2 k1 k2
  have e : r = litEq la lb := by
    cases r
    · exact (litEq_ne fun h => Bool.noConfusion (hi.2 h)).symm
    · exact (litEq_iff.2 (hi.1 rfl)).symm
  rw [← e]
  simpa only [Op.equal, Op.maxDepth] using hr
/-- two values of one operation -/
def binx (P : Program) (op : BinOp) (t : TypeId) (x y : AV) (k : AV → Prop) : Prop :=
  match op, x, y with
  | .shl, .int q a, .int _ b => 0 ≤ b ∧ k (.int q (shlI q a b))
  | .shr, .int q a, .int _ b => 0 ≤ b ∧ k (.int q (shrI q a b))
  | op, .int q a, .int q' b =>
    q = q' ∧ match op with
    | .add => k (.int q (q.wrap (a + b)))
    | .sub => k (.int q (q.wrap (a - b)))
    | .mul => k (.int q (q.wrap (a * b)))
    | .quo => b ≠ 0 ∧ k (.int q (q.wrap (a.tdiv b)))
    | .rem => b ≠ 0 ∧ k (.int q (a.tmod b))
    | .and => k (.int q (bitsI .and q a b))
    | .or => k (.int q (bitsI .or q a b))
    | .xor => k (.int q (bitsI .xor q a b))
    | .andNot => k (.int q (bitsI .andNot q a b))
    | .eql => k (.bool (a == b))
    | .neq => k (.bool (a != b))
    | .lss => k (.bool (decide (a < b)))
    | .leq => k (.bool (decide (a ≤ b)))
    | .gtr => k (.bool (decide (a > b)))
    | .geq => k (.bool (decide (a ≥ b)))
    | _ => False
  | .eql, .str a, .str b => k (.bool (a.toList == b.toList))
  | .neq, .str a, .str b => k (.bool (!(a.toList == b.toList)))
  | .eql, .bool a, .bool b => isBoolT P t = true ∧ k (.bool (a == b))
  | .neq, .bool a, .bool b => isBoolT P t = true ∧ k (.bool (!(a == b)))
  | .eql, .nilp, .nilp => isPtrT P t = true ∧ k (.bool true)
  | .neq, .nilp, .nilp => isPtrT P t = true ∧ k (.bool false)
  | .eql, .ptr _ _, .nilp => isPtrT P t = true ∧ k (.bool false)
  | .neq, .ptr _ _, .nilp => isPtrT P t = true ∧ k (.bool true)
  | .eql, .nilp, .ptr _ _ => isPtrT P t = true ∧ k (.bool false)
  | .neq, .nilp, .ptr _ _ => isPtrT P t = true ∧ k (.bool true)
  | .eql, .fn _ _ _, .nilf => isFuncT P t = true ∧ k (.bool false)
  | .neq, .fn _ _ _, .nilf => isFuncT P t = true ∧ k (.bool true)
  | .eql, .nilf, .nilf => isFuncT P t = true ∧ k (.bool true)
  | .neq, .nilf, .nilf => isFuncT P t = true ∧ k (.bool false)
  | .eql, .sl _ _ _ _, .nils => (elemT P t).isSome = true ∧ k (.bool false)
  | .neq, .sl _ _ _ _, .nils => (elemT P t).isSome = true ∧ k (.bool true)
  | .eql, .nils, .nils => (elemT P t).isSome = true ∧ k (.bool true)
  | .neq, .nils, .nils => (elemT P t).isSome = true ∧ k (.bool false)
  | .eql, .agg a, .agg b => eqAggT P t = true ∧ ∃ la, aggLits P t a = some la ∧ ∃ lb, aggLits P t b = some lb ∧ k (.bool (litEq la lb))
  | .neq, .agg a, .agg b => eqAggT P t = true ∧ ∃ la, aggLits P t a = some la ∧ ∃ lb, aggLits P t b = some lb ∧ k (.bool (!(litEq la lb)))
  | _, _, _ => False
def unx (op : UnOp) (x : AV) (k : AV → Prop) : Prop :=
  match op, x with
  | .neg, .int q n => k (.int q (q.wrap (0 - n)))
  | .xor, .int q n => k (.int q (notI q n))
  | .not, .bool b => k (.bool !b)
  | _, _ => False
section
variable {P : Program} {H : RO} {B : Names}
theorem give_int {S : Sem Value} {k : AV → Prop} {q : IntKind} {x : Int} (h : k (.int q x)) (hr : ∀ w', S.run P w' = .ok (.int q x) w') : ∃ v av, (∀ w', S.run P w' = .ok v w') ∧ Den H B av v ∧ k av := ⟨.int q x, .int q x, hr, by simp only [Den], h⟩
theorem give_bool {S : Sem Value} {k : AV → Prop} {x : Bool} (h : k (.bool x)) (hr : ∀ w', S.run P w' = .ok (.bool x) w') : ∃ v av, (∀ w', S.run P w' = .ok v w') ∧ Den H B av v ∧ k av := ⟨.bool x, .bool x, hr, by simp only [Den], h⟩
theorem unx_ok {op : UnOp} {x : AV} {k : AV → Prop} (h : unx op x k) {u : Value} (hu : Den H B x u) : ∃ v av, (∀ w', (Op.unary op u).run P w' = .ok v w') ∧ Den H B av v ∧ k av := by
  unfold unx at h
  split at h
  · simp only [Den] at hu; subst hu; exact give_int h fun w' => rfl
  · simp only [Den] at hu; subst hu; exact give_int h fun w' => rfl
  · simp only [Den] at hu; subst hu; exact give_bool h fun w' => rfl
  · exact h.elim
theorem eqGuard_int (op : BinOp) (t : TypeId) (x y : Operand) (k : IntKind) (a : Int) (v : Value) (w : World) : (eqGuard op t x y (.int k a) v).run P w = .ok () w := by
  unfold eqGuard; split <;> rfl
theorem eqGuard_str (op : BinOp) (t : TypeId) (x y : Operand) (a : ByteArray) (v : Value) (w : World) : (eqGuard op t x y (.string a) v).run P w = .ok () w := by
  unfold eqGuard; split <;> rfl
theorem eqGuard_bool (op : BinOp) (t : TypeId) (x y : Operand) (a : Bool) (v : Value) (w : World) : (eqGuard op t x y (.bool a) v).run P w = .ok () w := by
  unfold eqGuard; split <;> rfl
theorem eqGuard_ptr (op : BinOp) (t : TypeId) (x y : Operand) (a : Option Addr) (v : Value) (w : World) : (eqGuard op t x y (.pointer a) v).run P w = .ok () w := by
  unfold eqGuard; split <;> rfl
theorem eqGuard_fn (op : BinOp) (t : TypeId) (x y : Operand) (f : Fn) (a b : Array Value) (v : Value) (w : World) : (eqGuard op t x y (.func f a b) v).run P w = .ok () w := by
  unfold eqGuard; split <;> rfl
theorem eqGuard_nilfn (op : BinOp) (t : TypeId) (x y : Operand) (v : Value) (w : World) : (eqGuard op t x y .nilFunc v).run P w = .ok () w := by
  unfold eqGuard; split <;> rfl
theorem run_eq_of {t : TypeId} {x y : Value} {r : Bool} {o1 o2 : Operand} {w : World} (hg : (eqGuard .eql t o1 o2 x y).run P w = .ok () w) (hb : binOp .eql t x y = do pure (.bool (← Op.equal t x y))) (h : (Op.equal t x y).run P w = .ok r w) :
    (do eqGuard .eql t o1 o2 x y; binOp .eql t x y : Sem Value).run P w = .ok (.bool r) w := by
  rw [Sem.run_bind, hg, Result.andThen_ok, hb, Sem.run_bind, h]; rfl
theorem run_ne_of {t : TypeId} {x y : Value} {r : Bool} {o1 o2 : Operand} {w : World} (hg : (eqGuard .neq t o1 o2 x y).run P w = .ok () w) (hb : binOp .neq t x y = do pure (.bool (!(← Op.equal t x y)))) (h : (Op.equal t x y).run P w = .ok r w) :
    (do eqGuard .neq t o1 o2 x y; binOp .neq t x y : Sem Value).run P w = .ok (.bool !r) w := by
  rw [Sem.run_bind, hg, Result.andThen_ok, hb, Sem.run_bind, h]; rfl
theorem equal_bool {t : TypeId} (ht : isBoolT P t = true) (a b : Bool) (w : World) : (Op.equal t (.bool a) (.bool b)).run P w = .ok (a == b) w := by
  unfold Op.equal Op.maxDepth; rw [Op.equalIn, Sem.run_bind, run_underlying (isBoolT_some ht)]; rfl
theorem equal_pp {t : TypeId} (ht : isPtrT P t = true) (w : World) : (Op.equal t (.pointer none) (.pointer none)).run P w = .ok true w := by
  obtain ⟨e, he⟩ := isPtrT_some ht
  unfold Op.equal Op.maxDepth; rw [Op.equalIn, Sem.run_bind, run_underlying he]; rfl
theorem equal_pa {t : TypeId} (ht : isPtrT P t = true) (a : Addr) (w : World) : (Op.equal t (.pointer none) (.pointer (some a))).run P w = .ok false w := by
  obtain ⟨e, he⟩ := isPtrT_some ht
  unfold Op.equal Op.maxDepth; rw [Op.equalIn, Sem.run_bind, run_underlying he]; rfl
theorem equal_ap {t : TypeId} (ht : isPtrT P t = true) (a : Addr) (w : World) : (Op.equal t (.pointer (some a)) (.pointer none)).run P w = .ok false w := by
  obtain ⟨e, he⟩ := isPtrT_some ht
  unfold Op.equal Op.maxDepth; rw [Op.equalIn, Sem.run_bind, run_underlying he]; rfl
theorem equal_fn {t : TypeId} (ht : isFuncT P t = true) (f : Fn) (x y : Array Value) (w : World) : (Op.equal t (.func f x y) .nilFunc).run P w = .ok false w := by
  obtain ⟨_, _, _, he⟩ := isFuncT_some ht
  unfold Op.equal Op.maxDepth; rw [Op.equalIn, Sem.run_bind, run_underlying he]; rfl
theorem equal_nf {t : TypeId} (ht : isFuncT P t = true) (w : World) : (Op.equal t .nilFunc .nilFunc).run P w = .ok true w := by
  obtain ⟨_, _, _, he⟩ := isFuncT_some ht
  unfold Op.equal Op.maxDepth; rw [Op.equalIn, Sem.run_bind, run_underlying he]; rfl
theorem eqGuard_slice (op : BinOp) (t : TypeId) (x y : Operand) (a : Option Addr) (l c : Nat) (v : Value) (w : World) : (eqGuard op t x y (.slice a l c) v).run P w = .ok () w := by
  unfold eqGuard; split <;> rfl
theorem equal_sn {t : TypeId} (ht : (elemT P t).isSome = true) (a : Addr) (l c l' c' : Nat) (w : World) : (Op.equal t (.slice (some a) l c) (.slice none l' c')).run P w = .ok false w := by
  obtain ⟨e, he⟩ := Option.isSome_iff_exists.1 ht
  unfold Op.equal Op.maxDepth; rw [Op.equalIn, Sem.run_bind, run_underlying (elemT_some he)]; rfl
theorem equal_nn {t : TypeId} (ht : (elemT P t).isSome = true) (l c l' c' : Nat) (w : World) : (Op.equal t (.slice none l c) (.slice none l' c')).run P w = .ok true w := by
  obtain ⟨e, he⟩ := Option.isSome_iff_exists.1 ht
  unfold Op.equal Op.maxDepth; rw [Op.equalIn, Sem.run_bind, run_underlying (elemT_some he)]; rfl
theorem int_ok {op : BinOp} {t : TypeId} {q : IntKind} {a b : Int} {o1 o2 : Operand} {v : Value} (hb : ∀ w', (binOp op t (.int q a) (.int q b)).run P w' = .ok v w') (w' : World) :
    (do eqGuard op t o1 o2 (.int q a) (.int q b); binOp op t (.int q a) (.int q b) : Sem Value).run P w' = .ok v w' := by
  rw [Sem.run_bind, eqGuard_int, Result.andThen_ok]; exact hb w'
theorem binx_ok {op : BinOp} {t : TypeId} {x y : AV} {k : AV → Prop} (h : binx P op t x y k) {u1 u2 : Value} (h1 : Den H B x u1) (h2 : Den H B y u2) (o1 o2 : Operand) :
    ∃ v av, (∀ w', (do eqGuard op t o1 o2 u1 u2; binOp op t u1 u2 : Sem Value).run P w' = .ok v w') ∧ Den H B av v ∧ k av := by
  unfold binx at h
  split at h <;> (try simp only [Den] at h1 h2)
  · obtain ⟨hb, h⟩ := h; subst h1; subst h2
    refine give_int h fun w' => ?_
    rw [Sem.run_bind, eqGuard_int, Result.andThen_ok]
    simp [binOp, Op.shift, shlI]; omega
  · obtain ⟨hb, h⟩ := h; subst h1; subst h2
    refine give_int h fun w' => ?_
    rw [Sem.run_bind, eqGuard_int, Result.andThen_ok]
    simp [binOp, Op.shift, shrI]; omega
  · rename_i n1 n2
    obtain ⟨rfl, h⟩ := h; subst h1; subst h2
    cases op
    case shl => exact (n1 rfl).elim
    case shr => exact (n2 rfl).elim
    case quo => exact give_int h.2 (int_ok fun w' => by simp [binOp, Op.intDiv, h.1])
    case rem => exact give_int h.2 (int_ok fun w' => by simp [binOp, Op.intDiv, h.1])
    all_goals first
      | exact h.elim
      | exact give_int h (int_ok fun w' => by simp only [binOp, ne_eq, not_true_eq_false, if_false]; rfl)
      | exact give_bool h (int_ok fun w' => by simp only [binOp, ne_eq, not_true_eq_false, if_false]; rfl)
  · subst h1; subst h2; exact give_bool h fun w' => by rw [Sem.run_bind, eqGuard_str, Result.andThen_ok]; rfl
  · subst h1; subst h2; exact give_bool h fun w' => by rw [Sem.run_bind, eqGuard_str, Result.andThen_ok]; rfl
  · obtain ⟨ht, h⟩ := h; subst h1; subst h2; exact give_bool h fun w' => run_eq_of (eqGuard_bool _ _ _ _ _ _ _) rfl (equal_bool ht _ _ _)
  · obtain ⟨ht, h⟩ := h; subst h1; subst h2; exact give_bool h fun w' => run_ne_of (eqGuard_bool _ _ _ _ _ _ _) rfl (equal_bool ht _ _ _)
  · obtain ⟨ht, h⟩ := h; subst h1; subst h2; exact give_bool h fun w' => run_eq_of (eqGuard_ptr _ _ _ _ _ _ _) rfl (equal_pp ht _)
  · obtain ⟨ht, h⟩ := h; subst h1; subst h2; exact give_bool h fun w' => run_ne_of (r := true) (eqGuard_ptr _ _ _ _ _ _ _) rfl (equal_pp ht _)
  · obtain ⟨ht, h⟩ := h; obtain ⟨b, _, rfl⟩ := h1; subst h2; exact give_bool h fun w' => run_eq_of (eqGuard_ptr _ _ _ _ _ _ _) rfl (equal_ap ht _ _)
  · obtain ⟨ht, h⟩ := h; obtain ⟨b, _, rfl⟩ := h1; subst h2; exact give_bool h fun w' => run_ne_of (r := false) (eqGuard_ptr _ _ _ _ _ _ _) rfl (equal_ap ht _ _)
  · obtain ⟨ht, h⟩ := h; subst h1; obtain ⟨b, _, rfl⟩ := h2; exact give_bool h fun w' => run_eq_of (eqGuard_ptr _ _ _ _ _ _ _) rfl (equal_pa ht _ _)
  · obtain ⟨ht, h⟩ := h; subst h1; obtain ⟨b, _, rfl⟩ := h2; exact give_bool h fun w' => run_ne_of (r := false) (eqGuard_ptr _ _ _ _ _ _ _) rfl (equal_pa ht _ _)
  · obtain ⟨ht, h⟩ := h; obtain ⟨p, q, rfl, _, _⟩ := h1; subst h2; exact give_bool h fun w' => run_eq_of (eqGuard_fn _ _ _ _ _ _ _ _ _) rfl (equal_fn ht _ _ _ _)
  · obtain ⟨ht, h⟩ := h; obtain ⟨p, q, rfl, _, _⟩ := h1; subst h2; exact give_bool h fun w' => run_ne_of (r := false) (eqGuard_fn _ _ _ _ _ _ _ _ _) rfl (equal_fn ht _ _ _ _)
  · obtain ⟨ht, h⟩ := h; subst h1; subst h2; exact give_bool h fun w' => run_eq_of (eqGuard_nilfn _ _ _ _ _ _) rfl (equal_nf ht _)
  · obtain ⟨ht, h⟩ := h; subst h1; subst h2; exact give_bool h fun w' => run_ne_of (r := true) (eqGuard_nilfn _ _ _ _ _ _) rfl (equal_nf ht _)
  · obtain ⟨ht, h⟩ := h; obtain ⟨b, ad, _, rfl, _, _⟩ := h1; subst h2; exact give_bool h fun w' => run_eq_of (eqGuard_slice _ _ _ _ _ _ _ _ _) rfl (equal_sn ht _ _ _ _ _ _)
  · obtain ⟨ht, h⟩ := h; obtain ⟨b, ad, _, rfl, _, _⟩ := h1; subst h2; exact give_bool h fun w' => run_ne_of (r := false) (eqGuard_slice _ _ _ _ _ _ _ _ _) rfl (equal_sn ht _ _ _ _ _ _)
  · obtain ⟨ht, h⟩ := h; subst h1; subst h2; exact give_bool h fun w' => run_eq_of (eqGuard_slice _ _ _ _ _ _ _ _ _) rfl (equal_nn ht _ _ _ _ _)
  · obtain ⟨ht, h⟩ := h; subst h1; subst h2; exact give_bool h fun w' => run_ne_of (r := true) (eqGuard_slice _ _ _ _ _ _ _ _ _) rfl (equal_nn ht _ _ _ _ _)
  · obtain ⟨ht, la, ha, lb, hb, h⟩ := h
    obtain ⟨x, rfl, hx⟩ := h1
    obtain ⟨y, rfl, hy⟩ := h2
    have hg : P.eqGuardType P.depth t = false := by simp only [eqAggT, Bool.and_eq_true, Bool.not_eq_true'] at ht; exact ht.2
    exact give_bool h fun w' => run_eq_of (run_eqGuard_agg _ _ _ _ _ _ _ hg) rfl (equal_agg ht ha hb hx hy _)
  · obtain ⟨ht, la, ha, lb, hb, h⟩ := h
    obtain ⟨x, rfl, hx⟩ := h1
    obtain ⟨y, rfl, hy⟩ := h2
    have hg : P.eqGuardType P.depth t = false := by simp only [eqAggT, Bool.and_eq_true, Bool.not_eq_true'] at ht; exact ht.2
    exact give_bool h fun w' => run_ne_of (run_eqGuard_agg _ _ _ _ _ _ _ hg) rfl (equal_agg ht ha hb hx hy _)
  · exact h.elim
end
end Go.Eng
