/- Part 1 of the proof of the statement UnmodelReads: Eng1, Eng2, Eng3, Eng4, Eng5, Eng6, Eng36, Eng16, Eng30, Eng7, Eng8, Eng20. -/
import Derived.Calls
import Derived.Tactics
import Derived.Tactics2
import Derived.OrdersHeld
import Derived.Below
import Derived.Laws.Rows
import Derived.Laws.IdiomCopy
import Derived.Laws.NewBlocks
import Derived.Laws.ResultCell
import Derived.Laws.Slices
import Derived.Deep.MidRow
import Derived.KernelRfl
import Derived.RowKit3
import Derived.Laws.IdiomStrings
import Derived.Laws.BytesArg
import Derived.WideLaws
import Derived.Laws.StructEq
import Derived.DeepKeys
import Derived.Maps.AppendAt
import Derived.Laws.OwnMore
import Derived.Laws.MakeOwn
import Derived.Laws.CopyRow
import Derived.Lib.AppendZerosOnto
import Derived.MapKept
import Derived.Carry
import Derived.DeepKeys3
section
/- The engine, part 1: abstract values and memory, what they stand for, and the invariant that a walk keeps. Own work. -/
set_option linter.unusedVariables false
set_option linter.unusedSimpArgs false
namespace Go.Eng
open Go

/-- An abstract value: numbers are plain Lean terms, memory has names. -/
inductive AV where
  | bool (b : Bool)
  | int (k : IntKind) (n : Int)
  | str (s : ByteArray)
  | ptr (n off : Nat)
  | nilp
  | sl (n off len cap : Nat)
  | nils
  | ro (len : Nat) (xs : List AV)
  | rop (xs : List AV)
  | fn (f : Fn) (fi ca : List AV)
  | nilf
  | map (n : Nat)
  | nilm
  | iface (t : TypeId) (v : AV)
  | nili
  | agg (l : List AV)
  | tup (l : List AV)
  | val (v : Value)
  deriving Inhabited

abbrev RO := Addr → Option Value
abbrev Names := Nat → Option Nat

mutual
def Den (H : RO) (B : Names) : AV → Value → Prop
  | .bool b, v => v = .bool b
  | .int k n, v => v = .int k n
  | .str s, v => v = .string s
  | .ptr n off, v => ∃ b, B n = some b ∧ v = .pointer (some ⟨b, off, none⟩)
  | .nilp, v => v = .pointer none
  | .sl n off len cap, v => ∃ b a, B n = some b ∧ v = .slice (some a) len cap ∧ len ≤ cap ∧ (cap ≠ 0 → a = ⟨b, off, none⟩)
  | .nils, v => v = .slice none 0 0
  | .ro len xs, v => ∃ A cap, v = .slice A len cap ∧ len ≤ cap ∧ DenAt H B A 0 xs
  | .rop xs, v => ∃ a, v = .pointer (some a) ∧ DenAt H B (some a) 0 xs
  | .fn f fi ca, v => ∃ x y : List Value, v = .func f x.toArray y.toArray ∧ DenL H B fi x ∧ DenL H B ca y
  | .nilf, v => v = .nilFunc
  | .map n, v => ∃ b, B n = some b ∧ v = .map (some b)
  | .nilm, v => v = .map none
  | .iface t x, v => ∃ y, v = .iface t y ∧ Den H B x y
  | .nili, v => v = .nilIface
  | .agg l, v => ∃ cs : List Value, v = .agg cs.toArray ∧ DenL H B l cs
  | .tup l, v => ∃ cs : List Value, v = .tuple cs.toArray ∧ DenL H B l cs
  | .val u, v => v = u
def DenL (H : RO) (B : Names) : List AV → List Value → Prop
  | [], vs => vs = []
  | x :: r, vs => ∃ v s, vs = v :: s ∧ Den H B x v ∧ DenL H B r s
def DenAt (H : RO) (B : Names) (A : Option Addr) (i : Nat) : List AV → Prop
  | [] => True
  | x :: r => (∃ a v, A = some a ∧ H (a.add i) = some v ∧ Den H B x v) ∧ DenAt H B A (i + 1) r
end

structure Ext (H : RO) (B : Names) (H' : RO) (B' : Names) : Prop where
  ro : ∀ a v, H a = some v → H' a = some v
  nm : ∀ n b, B n = some b → B' n = some b
theorem Ext.refl (H : RO) (B : Names) : Ext H B H B := ⟨fun _ _ h => h, fun _ _ h => h⟩
theorem Ext.trans {H H' H'' : RO} {B B' B'' : Names} (h : Ext H B H' B') (k : Ext H' B' H'' B'') : Ext H B H'' B'' :=
  ⟨fun _ _ e => k.ro _ _ (h.ro _ _ e), fun _ _ e => k.nm _ _ (h.nm _ _ e)⟩

mutual
theorem Den.mono {H H' : RO} {B B' : Names} (x : Ext H B H' B') : ∀ (a : AV) {v : Value}, Den H B a v → Den H' B' a v
  | .bool _, _, h => by simpa [Den] using h
  | .int _ _, _, h => by simpa [Den] using h
  | .str _, _, h => by simpa [Den] using h
  | .ptr _ _, _, h => by
    simp only [Den] at h ⊢
    obtain ⟨b, hb, e⟩ := h
    exact ⟨b, x.nm _ _ hb, e⟩
  | .nilp, _, h => by simpa [Den] using h
  | .sl _ _ _ _, _, h => by
    simp only [Den] at h ⊢
    obtain ⟨b, a, hb, e⟩ := h
    exact ⟨b, a, x.nm _ _ hb, e⟩
  | .nils, _, h => by simpa [Den] using h
  | .ro _ xs, _, h => by
    simp only [Den] at h ⊢
    obtain ⟨A, c, e, hl, hd⟩ := h
    exact ⟨A, c, e, hl, DenAt.mono x xs hd⟩
  | .rop xs, _, h => by
    simp only [Den] at h ⊢
    obtain ⟨a, e, hd⟩ := h
    exact ⟨a, e, DenAt.mono x xs hd⟩
  | .fn _ fi ca, _, h => by
    simp only [Den] at h ⊢
    obtain ⟨p, q, e, h1, h2⟩ := h
    exact ⟨p, q, e, DenL.mono x fi h1, DenL.mono x ca h2⟩
  | .nilf, _, h => by simpa [Den] using h
  | .map _, _, h => by
    simp only [Den] at h ⊢
    obtain ⟨b, hb, e⟩ := h
    exact ⟨b, x.nm _ _ hb, e⟩
  | .nilm, _, h => by simpa [Den] using h
  | .iface _ y, _, h => by
    simp only [Den] at h ⊢
    obtain ⟨p, e, h1⟩ := h
    exact ⟨p, e, Den.mono x y h1⟩
  | .nili, _, h => by simpa [Den] using h
  | .agg l, _, h => by
    simp only [Den] at h ⊢
    obtain ⟨p, e, h1⟩ := h
    exact ⟨p, e, DenL.mono x l h1⟩
  | .tup l, _, h => by
    simp only [Den] at h ⊢
    obtain ⟨p, e, h1⟩ := h
    exact ⟨p, e, DenL.mono x l h1⟩
  | .val _, _, h => by simpa [Den] using h
theorem DenL.mono {H H' : RO} {B B' : Names} (x : Ext H B H' B') : ∀ (l : List AV) {vs : List Value}, DenL H B l vs → DenL H' B' l vs
  | [], _, h => by simpa [DenL] using h
  | y :: r, _, h => by
    simp only [DenL] at h ⊢
    obtain ⟨v, s, e, h1, h2⟩ := h
    exact ⟨v, s, e, Den.mono x y h1, DenL.mono x r h2⟩
theorem DenAt.mono {H H' : RO} {B B' : Names} (x : Ext H B H' B') {A : Option Addr} : ∀ (l : List AV) {i : Nat}, DenAt H B A i l → DenAt H' B' A i l
  | [], _, h => by simp [DenAt]
  | y :: r, _, h => by
    simp only [DenAt] at h ⊢
    obtain ⟨⟨a, v, e, h0, h1⟩, h2⟩ := h
    exact ⟨⟨a, v, e, x.ro _ _ h0, Den.mono x y h1⟩, DenAt.mono x r h2⟩
end

/-! Lists of cells -/
section
variable {H : RO} {B : Names}
theorem DenL.length : ∀ {l : List AV} {vs : List Value}, DenL H B l vs → vs.length = l.length
  | [], _, h => by simp only [DenL] at h; simp [h]
  | _ :: r, _, h => by
    simp only [DenL] at h
    obtain ⟨v, s, rfl, _, h2⟩ := h
    simp [DenL.length h2]
theorem DenL.get : ∀ {l : List AV} {vs : List Value}, DenL H B l vs → ∀ (i : Nat) (a : AV), l[i]? = some a → ∃ v, vs[i]? = some v ∧ Den H B a v
  | [], _, _, i, a, e => by simp at e
  | x :: r, _, h, i, a, e => by
    simp only [DenL] at h
    obtain ⟨v, s, rfl, h1, h2⟩ := h
    cases i with
    | zero => simp at e; subst e; exact ⟨v, rfl, h1⟩
    | succ i => simp at e; obtain ⟨u, hu, hd⟩ := DenL.get h2 i a e; exact ⟨u, by simpa using hu, hd⟩
theorem DenL.of_get : ∀ {l : List AV} {vs : List Value}, vs.length = l.length → (∀ (i : Nat) (a : AV) (v : Value), l[i]? = some a → vs[i]? = some v → Den H B a v) → DenL H B l vs
  | [], vs, hl, _ => by simp only [DenL]; exact List.eq_nil_of_length_eq_zero hl
  | x :: r, [], hl, _ => by simp at hl
  | x :: r, v :: s, hl, h => by
    simp only [DenL]
    exact ⟨v, s, rfl, h 0 x v rfl rfl, DenL.of_get (by simpa using hl) fun i a u h1 h2 => h (i + 1) a u (by simpa using h1) (by simpa using h2)⟩
theorem DenL.set {l : List AV} {vs : List Value} (h : DenL H B l vs) (i : Nat) {a : AV} {v : Value} (hd : Den H B a v) : DenL H B (l.set i a) (vs.set i v) := by
  refine DenL.of_get (by simp [h.length]) fun j b u h1 h2 => ?_
  rw [List.getElem?_set] at h1 h2
  by_cases e : i = j
  · subst e
    by_cases hi : i < l.length
    · rw [if_pos rfl, if_pos hi] at h1
      rw [if_pos rfl, if_pos (by rw [h.length]; exact hi)] at h2
      cases h1; cases h2; exact hd
    · rw [if_pos rfl, if_neg hi] at h1; cases h1
  · rw [if_neg e] at h1 h2
    obtain ⟨u', hu', hd'⟩ := h.get j b h1
    rw [h2] at hu'; cases hu'; exact hd'
theorem DenL.append {l l' : List AV} {vs vs' : List Value} (h : DenL H B l vs) (h' : DenL H B l' vs') : DenL H B (l ++ l') (vs ++ vs') := by
  refine DenL.of_get (by simp [h.length, h'.length]) fun j b u h1 h2 => ?_
  by_cases e : j < l.length
  · rw [List.getElem?_append_left e] at h1
    rw [List.getElem?_append_left (by rw [h.length]; exact e)] at h2
    obtain ⟨u', hu', hd'⟩ := h.get j b h1
    rw [h2] at hu'; cases hu'; exact hd'
  · rw [List.getElem?_append_right (by omega)] at h1
    rw [List.getElem?_append_right (by rw [h.length]; omega), h.length] at h2
    obtain ⟨u', hu', hd'⟩ := h'.get _ b h1
    rw [h2] at hu'; cases hu'; exact hd'
theorem DenL.drop {l : List AV} {vs : List Value} (h : DenL H B l vs) (n : Nat) : DenL H B (l.drop n) (vs.drop n) := by
  refine DenL.of_get (by simp [h.length]) fun j b u h1 h2 => ?_
  rw [List.getElem?_drop] at h1 h2
  obtain ⟨u', hu', hd'⟩ := h.get _ b h1
  rw [h2] at hu'; cases hu'; exact hd'
theorem DenL.take {l : List AV} {vs : List Value} (h : DenL H B l vs) (n : Nat) : DenL H B (l.take n) (vs.take n) := by
  refine DenL.of_get (by simp [h.length]) fun j b u h1 h2 => ?_
  rw [List.getElem?_take] at h1 h2
  by_cases e : j < n
  · rw [if_pos e] at h1 h2
    obtain ⟨u', hu', hd'⟩ := h.get _ b h1
    rw [h2] at hu'; cases hu'; exact hd'
  · rw [if_neg e] at h1; cases h1
theorem DenL.replicate {a : AV} {v : Value} (hd : Den H B a v) (n : Nat) : DenL H B (List.replicate n a) (List.replicate n v) := by
  refine DenL.of_get (by simp) fun j b u h1 h2 => ?_
  rw [List.getElem?_replicate] at h1 h2
  split at h1
  · cases h1; rw [if_pos (by assumption)] at h2; cases h2; exact hd
  · cases h1
theorem DenAt.get {A : Option Addr} : ∀ {l : List AV} {i : Nat}, DenAt H B A i l → ∀ (j : Nat) (x : AV), l[j]? = some x → ∃ a v, A = some a ∧ H (a.add (i + j)) = some v ∧ Den H B x v
  | [], _, _, j, x, e => by simp at e
  | y :: r, i, h, j, x, e => by
    simp only [DenAt] at h
    obtain ⟨h0, h2⟩ := h
    cases j with
    | zero => simp at e; subst e; exact h0
    | succ j => simp at e; have := DenAt.get h2 j x e; rwa [show i + 1 + j = i + (j + 1) by omega] at this
theorem DenAt.of_get {A : Option Addr} : ∀ {l : List AV} {i : Nat}, (∀ (j : Nat) (x : AV), l[j]? = some x → ∃ a v, A = some a ∧ H (a.add (i + j)) = some v ∧ Den H B x v) → DenAt H B A i l
  | [], _, _ => by simp [DenAt]
  | y :: r, i, h => by
    simp only [DenAt]
    exact ⟨h 0 y rfl, DenAt.of_get fun j x e => by rw [show i + 1 + j = i + (j + 1) by omega]; exact h (j + 1) x (by simpa using e)⟩
end

theorem add_add' (a : Addr) (i j : Nat) : (a.add i).add j = a.add (i + j) := by
  unfold Addr.add
  by_cases hi : i = 0
  · simp [hi]
  · by_cases hj : j = 0
    · simp [hi, hj]
    · simp [hi, hj, Nat.add_assoc]

/-! Objects, memory, slots -/
/-- a map's key: a number, or two bytes -/
inductive Key where
  | i (k : IntKind) (z : Int)
  | b (x y : BitVec 8)
  deriving DecidableEq
inductive KD where
  | i (k : IntKind)
  | b
  deriving DecidableEq
def Key.kd : Key → KD
  | .i k _ => .i k
  | .b _ _ => .b
def Key.val : Key → Value
  | .i k z => .int k z
  | .b x y => .agg #[.int .u8 (x.toNat : Int), .int .u8 (y.toNat : Int)]
inductive AObj where
  | cells (l : List AV) (ty : TypeId)
  | opq (o : Obj)
  | fz (l : List AV) (ty : TypeId)
  | mp (k : IntKind) (keys : List Int) (vals : List AV)
  | mx (kd : KD) (keys : List Key) (vals : List AV) (born : List Nat)
  deriving Inhabited
abbrev Mem := List (Nat × AObj)
abbrev Slots := List (Nat × AV)
def look {α : Type} : List (Nat × α) → Nat → Option α
  | [], _ => none
  | (k, x) :: r, n => if k = n then some x else look r n
def upd : Mem → Nat → AObj → Mem
  | [], _, _ => []
  | (k, x) :: r, n, o => if k = n then (k, o) :: r else (k, x) :: upd r n o
def del : Mem → Nat → Mem
  | [], _ => []
  | (k, x) :: r, n => if k = n then del r n else (k, x) :: del r n
theorem look_cons {α : Type} (k : Nat) (x : α) (r : List (Nat × α)) (n : Nat) : look ((k, x) :: r) n = if k = n then some x else look r n := rfl
theorem look_nil {α : Type} (n : Nat) : look ([] : List (Nat × α)) n = none := rfl
theorem look_upd_same {m : Mem} {n : Nat} {o : AObj} (p : AObj) : look m n = some o → look (upd m n p) n = some p := by
  induction m with
  | nil => simp [look]
  | cons x r ih =>
    obtain ⟨k, y⟩ := x
    intro h
    simp only [look] at h
    simp only [upd]
    by_cases e : k = n
    · simp [e, look]
    · rw [if_neg e] at h; rw [if_neg e]; simp [look, e, ih h]
theorem look_upd_other {m : Mem} {n n' : Nat} (p : AObj) (hne : n ≠ n') : look (upd m n p) n' = look m n' := by
  induction m with
  | nil => simp [upd, look]
  | cons x r ih =>
    obtain ⟨k, y⟩ := x
    simp only [upd]
    by_cases e : k = n
    · subst e; simp [look, hne]
    · rw [if_neg e]; simp [look, ih]
theorem look_del_same (m : Mem) (n : Nat) : look (del m n) n = none := by
  induction m with
  | nil => rfl
  | cons x r ih =>
    obtain ⟨k, y⟩ := x
    simp only [del]
    by_cases e : k = n
    · rw [if_pos e]; exact ih
    · rw [if_neg e]; simp [look, e, ih]
theorem look_del_other {m : Mem} {n n' : Nat} (hne : n ≠ n') : look (del m n) n' = look m n' := by
  induction m with
  | nil => rfl
  | cons x r ih =>
    obtain ⟨k, y⟩ := x
    simp only [del]
    by_cases e : k = n
    · subst e; rw [if_pos rfl, ih]; simp [look, hne]
    · rw [if_neg e]; simp [look, ih]

def HoldsO (H : RO) (B : Names) (w : World) (b : Nat) : AObj → Prop
  | .cells l ty => ∃ cs : List Value, w.heap[b]? = some (.cells cs.toArray ty (0, 0)) ∧ DenL H B l cs
  | .opq o => w.heap[b]? = some o
  | .mp k keys vals => ∃ (ms : List MapEntry) (clock : Nat), w.heap[b]? = some (.map ms.toArray clock) ∧ ms.map (·.key) = keys.map (Value.int k) ∧ DenL H B vals (ms.map (·.val))
  | .fz l ty => ∃ (cs : List Value) (fr : Nat × Nat), w.heap[b]? = some (.cells cs.toArray ty fr) ∧ DenL H B l cs
  | .mx kd keys vals born => ∃ (ms : List MapEntry) (clock : Nat), w.heap[b]? = some (.map ms.toArray clock) ∧ ms.map (·.key) = keys.map Key.val ∧ ms.map (·.born) = born ∧ born.Nodup ∧ (∀ x ∈ born, x < clock) ∧ (∀ k ∈ keys, k.kd = kd) ∧ DenL H B vals (ms.map (·.val))
theorem HoldsO.mono {H H' : RO} {B B' : Names} (x : Ext H B H' B') {w w' : World} {b : Nat} (hw : w'.heap[b]? = w.heap[b]?) : ∀ {o : AObj}, HoldsO H B w b o → HoldsO H' B' w' b o
  | .cells l ty, ⟨cs, h1, h2⟩ => ⟨cs, hw.trans h1, h2.mono x⟩
  | .opq o, h => hw.trans h
  | .fz l ty, ⟨cs, fr, h1, h2⟩ => ⟨cs, fr, hw.trans h1, h2.mono x⟩
  | .mp k keys vals, ⟨ms, c, h1, h2, h3⟩ => ⟨ms, c, hw.trans h1, h2, h3.mono x⟩
  | .mx kd keys vals born, ⟨ms, c, h1, h2, h3, h4, h5, h6, h7⟩ => ⟨ms, c, hw.trans h1, h2, h3, h4, h5, h6, h7.mono x⟩

/-- What a walk keeps. w0: the world at the begin; FP: blocks that may be written though they were there; wr: the names that may be written. -/
structure Inv (w0 : World) (FP : Nat → Prop) (wr : Nat → Bool) (m : Mem) (nx : Nat) (H : RO) (B : Names) (w : World) : Prop where
  size : w0.heap.size ≤ w.heap.size
  os : w.os = w0.os
  tape : w.tape = w0.tape
  out : w.output = w0.output
  frame : ∀ b, b < w0.heap.size → ¬ FP b → w.heap[b]? = w0.heap[b]?
  ro : ∀ a v, H a = some v → w.cell? a = some v ∧ ∀ n o, look m n = some o → B n ≠ some a.block
  obj : ∀ n o, look m n = some o → ∃ b, B n = some b ∧ HoldsO H B w b o ∧ b < w.heap.size ∧ (wr n = true → FP b ∨ w0.heap.size ≤ b) ∧ (wr n = false → b < w0.heap.size ∧ ¬ FP b)
  inj : ∀ n n' o o', look m n = some o → look m n' = some o' → B n = B n' → n = n'
  fresh : ∀ n, nx ≤ n → B n = none
  wrn : ∀ n, nx ≤ n → wr n = true
  keep : ∀ n, wr n = false → ∃ o, look m n = some o

theorem HoldsO.lt {H : RO} {B : Names} {w : World} {b : Nat} : ∀ {o : AObj}, HoldsO H B w b o → b < w.heap.size
  | .cells l ty, ⟨cs, h1, _⟩ => (Array.getElem?_eq_some_iff.1 h1).1
  | .opq o, h => (Array.getElem?_eq_some_iff.1 h).1
  | .fz l ty, ⟨cs, fr, h1, _⟩ => (Array.getElem?_eq_some_iff.1 h1).1
  | .mp k keys vals, ⟨ms, c, h1, _⟩ => (Array.getElem?_eq_some_iff.1 h1).1
  | .mx kd keys vals born, ⟨ms, c, h1, _⟩ => (Array.getElem?_eq_some_iff.1 h1).1

section
variable {w0 w : World} {FP : Nat → Prop} {wr : Nat → Bool} {m : Mem} {nx : Nat} {H : RO} {B : Names}
theorem Inv.lt_nx (h : Inv w0 FP wr m nx H B w) {n : Nat} {o : AObj} (hn : look m n = some o) : n < nx := by
  obtain ⟨b, hb, _⟩ := h.obj n o hn
  rcases Nat.lt_or_ge n nx with h' | h'
  · exact h'
  · rw [h.fresh n h'] at hb; cases hb
/-- A draw. -/
theorem Inv.drew (h : Inv w0 FP wr m nx H B w) {w' : World} (h1 : w'.heap = w.heap) (h2 : w'.os = w.os) (h3 : w'.tape = w.tape) (h4 : w'.output = w.output) : Inv w0 FP wr m nx H B w' := by
  refine ⟨by rw [h1]; exact h.size, h2.trans h.os, h3.trans h.tape, h4.trans h.out, fun b hb hf => by rw [h1]; exact h.frame b hb hf, fun a v e => ?_, fun n o e => ?_, h.inj, h.fresh, h.wrn, h.keep⟩
  · exact ⟨(World.cell?_of_block (w := w) (by rw [h1])).trans (h.ro a v e).1, (h.ro a v e).2⟩
  · obtain ⟨b, hb, ho, hl, r⟩ := h.obj n o e
    exact ⟨b, hb, ho.mono (Ext.refl _ _) (by rw [h1]), by rw [h1]; exact hl, r⟩
/-- A new block gets the next name. -/
theorem Inv.alloc (h : Inv w0 FP wr m nx H B w) (p : Obj) (o : AObj) {w' : World} (hw : w' = { w with heap := w.heap.push p })
    (ho : HoldsO H (fun n => if n = nx then some w.heap.size else B n) w' w.heap.size o) :
    Inv w0 FP wr ((nx, o) :: m) (nx + 1) H (fun n => if n = nx then some w.heap.size else B n) w' ∧ Ext H B H (fun n => if n = nx then some w.heap.size else B n) := by
  subst hw
  have hx : Ext H B H (fun n => if n = nx then some w.heap.size else B n) := ⟨fun _ _ e => e, fun n b e => by
    have : n ≠ nx := fun hn => by rw [hn, h.fresh nx (Nat.le_refl _)] at e; cases e
    simp [this, e]⟩
  have hsz : (w.heap.push p).size = w.heap.size + 1 := by simp
  have hold : ∀ b, b < w.heap.size → (w.heap.push p)[b]? = w.heap[b]? := fun b hb => by rw [Array.getElem?_push, if_neg (by omega)]
  refine ⟨⟨?_, h.os, h.tape, h.out, ?_, ?_, ?_, ?_, ?_, ?_, ?_⟩, hx⟩
  · show w0.heap.size ≤ (w.heap.push p).size; rw [hsz]; have := h.size; omega
  · intro b hb hf
    exact (hold b (Nat.lt_of_lt_of_le hb h.size)).trans (h.frame b hb hf)
  · intro a v e
    obtain ⟨h1, h2⟩ := h.ro a v e
    have hlt : a.block < w.heap.size := block_lt_of_cell h1
    refine ⟨(World.cell?_of_block (w := w) (hold _ hlt)).trans h1, fun n o' hn => ?_⟩
    by_cases hnn : n = nx
    · subst hnn
      simp only [if_true]
      intro e'; injection e' with e'; omega
    · simp only [look, Ne.symm hnn, if_false] at hn
      simp only [hnn, if_false]
      exact h2 n o' hn
  · intro n o' hn
    by_cases hnn : n = nx
    · subst hnn
      simp only [look, if_true] at hn
      injection hn with hn
      subst hn
      refine ⟨w.heap.size, by simp, ho, by show _ < (w.heap.push p).size; rw [hsz]; omega, fun _ => .inr h.size, fun e => ?_⟩
      rw [h.wrn n (Nat.le_refl _)] at e; cases e
    · simp only [look, Ne.symm hnn, if_false] at hn
      obtain ⟨b, hb, ho', hl, r⟩ := h.obj n o' hn
      exact ⟨b, hx.nm _ _ hb, ho'.mono hx (hold b hl), by show _ < (w.heap.push p).size; rw [hsz]; omega, r⟩
  · intro n n' o1 o2 h1 h2 e
    by_cases a1 : n = nx <;> by_cases a2 : n' = nx
    · rw [a1, a2]
    · simp only [look, Ne.symm a2, if_false] at h2
      obtain ⟨b, hb, _, hl, _⟩ := h.obj n' o2 h2
      simp only [a1, a2, if_true, if_false, hb] at e
      injection e with e; omega
    · simp only [look, Ne.symm a1, if_false] at h1
      obtain ⟨b, hb, _, hl, _⟩ := h.obj n o1 h1
      simp only [a1, a2, if_true, if_false, hb] at e
      injection e with e; omega
    · simp only [look, Ne.symm a1, if_false] at h1
      simp only [look, Ne.symm a2, if_false] at h2
      simp only [a1, a2, if_false] at e
      exact h.inj _ _ _ _ h1 h2 e
  · intro n hn
    have : n ≠ nx := by omega
    simp only [this, if_false]
    exact h.fresh n (by omega)
  · intro n hn
    exact h.wrn n (by omega)
  · intro n hn
    obtain ⟨o', ho'⟩ := h.keep n hn
    by_cases e : nx = n
    · exact ⟨o, by simp [look, e]⟩
    · exact ⟨o', by simp [look, e, ho']⟩
/-- A named block is written. -/
theorem Inv.write (h : Inv w0 FP wr m nx H B w) {n : Nat} {o : AObj} (hn : look m n = some o) (hw : wr n = true) {b : Nat} (hb : B n = some b) {w' : World} (o' : AObj)
    (h1 : w'.heap.size = w.heap.size) (h2 : w'.os = w.os) (h3 : w'.tape = w.tape) (h4 : w'.output = w.output) (hf : ∀ k, k ≠ b → w'.heap[k]? = w.heap[k]?) (ho : HoldsO H B w' b o') :
    Inv w0 FP wr (upd m n o') nx H B w' := by
  have hown : ∀ k o'', look (upd m n o') k = some o'' → k ≠ n → look m k = some o'' := fun k o'' e hk => by rwa [look_upd_other o' (Ne.symm hk)] at e
  have hlk : ∀ k o'', look (upd m n o') k = some o'' → ∃ o3, look m k = some o3 := fun k o'' e => by
    by_cases hk : k = n
    · subst hk; exact ⟨o, hn⟩
    · exact ⟨o'', hown k o'' e hk⟩
  obtain ⟨b', hb', _, hl', hfp, _⟩ := h.obj n o hn
  have ebb : b' = b := by rw [hb] at hb'; injection hb' with e; exact e.symm
  subst ebb
  refine ⟨by rw [h1]; exact h.size, h2.trans h.os, h3.trans h.tape, h4.trans h.out, ?_, ?_, ?_, ?_, h.fresh, h.wrn, fun k hk => by
    obtain ⟨o3, h3'⟩ := h.keep k hk
    have hkn : n ≠ k := fun e => by rw [← e, hw] at hk; cases hk
    exact ⟨o3, by rw [look_upd_other o' hkn]; exact h3'⟩⟩
  · intro k hk hfk
    have : k ≠ b' := fun e => by
      subst e
      rcases hfp hw with h' | h'
      · exact hfk h'
      · omega
    exact (hf k this).trans (h.frame k hk hfk)
  · intro a v e
    obtain ⟨g1, g2⟩ := h.ro a v e
    refine ⟨(World.cell?_of_block (w := w) (hf _ fun e' => g2 n o hn (by rw [hb, e']))).trans g1, fun k o'' hk => ?_⟩
    obtain ⟨o3, h3'⟩ := hlk k o'' hk
    exact g2 k o3 h3'
  · intro k o'' hk
    by_cases hkn : k = n
    · subst hkn
      rw [look_upd_same o' hn] at hk
      injection hk with hk
      subst hk
      exact ⟨b', hb, ho, by rw [h1]; exact hl', fun _ => hfp hw, fun e => by rw [hw] at e; cases e⟩
    · have hk' := hown k o'' hk hkn
      obtain ⟨c, hc, hho, hcl, r⟩ := h.obj k o'' hk'
      have hne : c ≠ b' := fun e => hkn (h.inj k n _ _ hk' hn (by rw [hc, hb, e]))
      exact ⟨c, hc, hho.mono (Ext.refl _ _) (hf c hne), by rw [h1]; exact hcl, r⟩
  · intro k k' p p' e1 e2 e
    obtain ⟨_, g1⟩ := hlk k p e1
    obtain ⟨_, g2⟩ := hlk k' p' e2
    exact h.inj k k' _ _ g1 g2 e
/-- Names may be forgotten. -/
theorem Inv.less (h : Inv w0 FP wr m nx H B w) {m' : Mem} (hm : ∀ n o, look m' n = some o → look m n = some o) (hk : ∀ n, wr n = false → ∃ o, look m' n = some o) : Inv w0 FP wr m' nx H B w :=
  ⟨h.size, h.os, h.tape, h.out, h.frame, fun a v e => ⟨(h.ro a v e).1, fun n o hn => (h.ro a v e).2 n o (hm n o hn)⟩, fun n o hn => h.obj n o (hm n o hn), fun n n' o o' h1 h2 e => h.inj n n' o o' (hm _ _ h1) (hm _ _ h2) e, h.fresh, h.wrn, hk⟩
end

end Go.Eng
end
section
/- The engine, part 2: operations that read, and yield a value. Own work. -/
set_option linter.unusedVariables false
set_option linter.unusedSimpArgs false
namespace Go.Eng
open Go

/-! Types -/
def sizeT (P : Program) (t : TypeId) : Option Nat := (P.info? t).map (·.size)
def bytesT (P : Program) (t : TypeId) : Option Nat := (P.info? t).map (·.bytes)
def undT (P : Program) (t : TypeId) : Option TypeDesc := P.underlying t
def aggT (P : Program) (t : TypeId) : Bool := match P.underlying t with | some (.struct _) => true | some (.array _ _) => true | _ => false
def elemT (P : Program) (t : TypeId) : Option TypeId := match P.underlying t with | some (.slice e) => some e | _ => none
def arrT (P : Program) (t : TypeId) : Option (Nat × TypeId) := match P.underlying t with | some (.array n e) => some (n, e) | _ => none
def intT (P : Program) (t : TypeId) : Option IntKind := match P.underlying t with | some (.int k) => some k | _ => none
def isStrT (P : Program) (t : TypeId) : Bool := match P.underlying t with | some .string => true | _ => false
def isBoolT (P : Program) (t : TypeId) : Bool := match P.underlying t with | some .bool => true | _ => false
def isPtrT (P : Program) (t : TypeId) : Bool := match P.underlying t with | some (.pointer _) => true | _ => false
def isFuncT (P : Program) (t : TypeId) : Bool := match P.underlying t with | some (.func _ _ _) => true | _ => false
def isIfaceT (P : Program) (t : TypeId) : Bool := match P.underlying t with | some (.interface _) => true | _ => false
def known (P : Program) (t : TypeId) : Bool := (P.underlying t).isSome
/-- a struct's field: where it begins, its type -/
def fieldT (P : Program) (t : TypeId) (i : Nat) : Option (Nat × TypeId) := match P.underlying t with | some (.struct fs) => (fs[i]?).map fun f => (f.offset, f.type) | _ => none
theorem elemT_some {P : Program} {t e : TypeId} (h : elemT P t = some e) : P.underlying t = some (.slice e) := by
  unfold elemT at h
  split at h
  · rename_i h'; cases h; exact h'
  · cases h
theorem arrT_some {P : Program} {t e n} (h : arrT P t = some (n, e)) : P.underlying t = some (.array n e) := by
  unfold arrT at h
  split at h
  · rename_i h'; cases h; exact h'
  · cases h
theorem intT_some {P : Program} {t k} (h : intT P t = some k) : P.underlying t = some (.int k) := by
  unfold intT at h
  split at h
  · rename_i h'; cases h; exact h'
  · cases h
theorem isStrT_some {P : Program} {t} (h : isStrT P t = true) : P.underlying t = some .string := by
  unfold isStrT at h
  split at h
  · assumption
  · cases h
theorem isBoolT_some {P : Program} {t} (h : isBoolT P t = true) : P.underlying t = some .bool := by
  unfold isBoolT at h
  split at h
  · assumption
  · cases h
theorem isPtrT_some {P : Program} {t} (h : isPtrT P t = true) : ∃ e, P.underlying t = some (.pointer e) := by
  unfold isPtrT at h
  split at h
  · exact ⟨_, by assumption⟩
  · cases h
theorem isFuncT_some {P : Program} {t} (h : isFuncT P t = true) : ∃ a b c, P.underlying t = some (.func a b c) := by
  unfold isFuncT at h
  split at h
  · exact ⟨_, _, _, by assumption⟩
  · cases h
theorem fieldT_some {P : Program} {t i o ft} (h : fieldT P t i = some (o, ft)) : ∃ fs f, P.underlying t = some (.struct fs) ∧ fs[i]? = some f ∧ f.offset = o ∧ f.type = ft := by
  unfold fieldT at h
  split at h
  · rename_i fs h'
    obtain ⟨f, hf, e⟩ := Option.map_eq_some_iff.1 h
    cases e
    exact ⟨fs, f, h', hf, rfl, rfl⟩
  · cases h
theorem sizeT_run {P : Program} {t n} (h : sizeT P t = some n) (w : World) : (sizeOf t).run P w = .ok n w := by
  unfold sizeT at h
  obtain ⟨i, hi, e⟩ := Option.map_eq_some_iff.1 h
  simp [sizeOf, typeInfo, hi, e]
theorem aggT_run {P : Program} {t b} (h : aggT P t = b) (hk : known P t = true) (w : World) : (isAgg t).run P w = .ok b w := by
  unfold known at hk
  obtain ⟨d, hd⟩ := Option.isSome_iff_exists.1 hk
  unfold aggT at h
  rw [hd] at h
  unfold isAgg
  rw [Sem.run_bind, run_underlying hd w]
  cases d <;> simp_all
theorem aggT_row {P : Program} {t} (h : aggT P t = true) : ∃ d, P.underlying t = some d ∧ d.isRow = true := by
  unfold aggT at h
  split at h
  · exact ⟨_, by assumption, rfl⟩
  · exact ⟨_, by assumption, rfl⟩
  · cases h

/-! Constants -/
def cst1 : Value → AV
  | .bool b => .bool b
  | .int k n => .int k n
  | .string s => .str s
  | .pointer none => .nilp
  | .slice none 0 0 => .nils
  | .nilFunc => .nilf
  | .nilIface => .nili
  | .map none => .nilm
  | v => .val v
def cst : Value → AV
  | .agg cs => .agg (cs.toList.map cst1)
  | .tuple cs => .tup (cs.toList.map cst1)
  | v => cst1 v
theorem den_cst1 (H : RO) (B : Names) (v : Value) : Den H B (cst1 v) v := by
  unfold cst1
  split <;> simp [Den]
theorem denL_cst1 (H : RO) (B : Names) : ∀ l : List Value, DenL H B (l.map cst1) l
  | [] => by simp [DenL]
  | v :: r => by simp only [List.map_cons, DenL]; exact ⟨v, r, rfl, den_cst1 H B v, denL_cst1 H B r⟩
theorem den_cst (H : RO) (B : Names) (v : Value) : Den H B (cst v) v := by
  unfold cst
  split
  · simp only [Den]; exact ⟨_, by simp, denL_cst1 H B _⟩
  · simp only [Den]; exact ⟨_, by simp, denL_cst1 H B _⟩
  · exact den_cst1 H B v
/-- a type's zero value, by cells -/
def zav (P : Program) (t : TypeId) : Option (List AV) := ((P.info? t).bind (·.zero)).map fun v => v.cells.toList.map cst1
theorem zav_run {P : Program} {t z} (h : zav P t = some z) (w : World) (H : RO) (B : Names) : ∃ v, (zeroValue t).run P w = .ok v w ∧ DenL H B z v.cells.toList := by
  unfold zav at h
  obtain ⟨v, hv, e⟩ := Option.map_eq_some_iff.1 h
  obtain ⟨i, hi, hz⟩ := Option.bind_eq_some_iff.1 hv
  refine ⟨v, by simp [zeroValue, typeInfo, hi, hz], ?_⟩
  rw [← e]
  exact denL_cst1 H B _
def dflt (P : Program) (t : TypeId) : AV := (((zav P t).bind (·.head?))).getD (.tup [])

def acells : AV → List AV
  | .agg l => l
  | v => [v]
def isTup : AV → Bool
  | .tup _ => true
  | .val (.agg _) => true
  | .val (.tuple _) => true
  | _ => false
theorem den_cells {H : RO} {B : Names} {a : AV} {v : Value} (h : Den H B a v) (ht : isTup a = false) : DenL H B (acells a) v.cells.toList := by
  cases a <;> simp only [Den] at h <;> simp only [acells]
  case agg l => obtain ⟨cs, rfl, h⟩ := h; simpa [Value.cells] using h
  case tup l => cases ht
  case val u => subst h; cases v <;> simp_all [isTup, Value.cells, DenL, Den]
  case bool => subst h; simp [Value.cells, DenL, Den]
  case int => subst h; simp [Value.cells, DenL, Den]
  case str => subst h; simp [Value.cells, DenL, Den]
  case ptr => obtain ⟨b, hb, rfl⟩ := h; simp [Value.cells, DenL, Den, hb]
  case nilp => subst h; simp [Value.cells, DenL, Den]
  case sl => obtain ⟨b, a, hb, rfl, hl⟩ := h; simp only [Value.cells, DenL, Den]; exact ⟨_, [], rfl, ⟨b, a, hb, rfl, hl⟩, rfl⟩
  case nils => subst h; simp [Value.cells, DenL, Den]
  case ro => obtain ⟨A, c, rfl, hl, hd⟩ := h; simp only [Value.cells, DenL, Den]; exact ⟨_, [], rfl, ⟨A, c, rfl, hl, hd⟩, rfl⟩
  case rop => obtain ⟨a, rfl, hd⟩ := h; simp [Value.cells, DenL, Den]; exact hd
  case fn => obtain ⟨p, q, rfl, h1, h2⟩ := h; simp only [Value.cells, DenL, Den]; exact ⟨_, [], rfl, ⟨p, q, rfl, h1, h2⟩, rfl⟩
  case nilf => subst h; simp [Value.cells, DenL, Den]
  case map => obtain ⟨b, hb, rfl⟩ := h; simp [Value.cells, DenL, Den, hb]
  case nilm => subst h; simp [Value.cells, DenL, Den]
  case iface => obtain ⟨y, rfl, h1⟩ := h; simp [Value.cells, DenL, Den, h1]
  case nili => subst h; simp [Value.cells, DenL, Den]
theorem den_one {H : RO} {B : Names} {a : AV} {v : Value} (h : Den H B a v) (ht : isTup a = false) (hg : ∀ l, a ≠ .agg l) : v.oneCell' = true := by
  cases a <;> simp only [Den] at h
  case agg l => exact absurd rfl (hg l)
  case tup l => cases ht
  case val u => subst h; cases v <;> simp_all [isTup, Value.oneCell']
  case ptr => obtain ⟨b, hb, rfl⟩ := h; rfl
  case sl => obtain ⟨b, a, hb, rfl, hl⟩ := h; rfl
  case ro => obtain ⟨A, c, rfl, hl, hd⟩ := h; rfl
  case rop => obtain ⟨a, rfl, hd⟩ := h; rfl
  case fn => obtain ⟨p, q, rfl, h1, h2⟩ := h; rfl
  case map => obtain ⟨b, hb, rfl⟩ := h; rfl
  case iface => obtain ⟨y, rfl, h1⟩ := h; rfl
  all_goals (subst h; rfl)

/-! Slots -/
def SlotsOk (N : Nat) (H : RO) (B : Names) (t : Slots) (a : Act) : Prop := a.tmps.size = N ∧ ∀ s av, look t s = some av → Den H B av (a.tmps.getD s undef)
def evx (t : Slots) : Operand → Option AV
  | .tmp s => look t s
  | .const v => some (cst v)
  | .func f => some (.fn (.func f) [] [])
  | .global _ => none
theorem evx_ok {N : Nat} {H : RO} {B : Names} {t : Slots} {a : Act} (h : SlotsOk N H B t a) {x : Operand} {av : AV} (e : evx t x = some av) : Den H B av (a.eval x) := by
  cases x with
  | tmp s => exact h.2 s av e
  | const v => simp only [evx] at e; cases e; exact den_cst H B v
  | global g => cases e
  | func f => simp only [evx] at e; cases e; simp only [Den]; exact ⟨[], [], rfl, by simp [DenL], by simp [DenL]⟩
theorem SlotsOk.mono {N : Nat} {H H' : RO} {B B' : Names} (x : Ext H B H' B') {t : Slots} {a : Act} (h : SlotsOk N H B t a) : SlotsOk N H' B' t a := ⟨h.1, fun s av e => (h.2 s av e).mono x⟩
theorem SlotsOk.put {N : Nat} {H : RO} {B : Names} {t : Slots} {a : Act} (h : SlotsOk N H B t a) {d : Nat} (hd : d < N) {av : AV} {v : Value} (hv : Den H B av v) : SlotsOk N H B ((d, av) :: t) (a.put (some d) v) := by
  refine ⟨by simp [Act.put, h.1], fun s u e => ?_⟩
  simp only [look] at e
  simp only [Act.put]
  by_cases hs : d = s
  · subst hs
    rw [if_pos rfl] at e
    cases e
    simpa [Array.getD, h.1, hd] using hv
  · rw [if_neg hs] at e
    have := h.2 s u e
    have e2 : (a.tmps.setIfInBounds d v).getD s undef = a.tmps.getD s undef := by
      simp only [Array.getD_eq_getD_getElem?, Array.getElem?_setIfInBounds, if_neg hs]
    rw [e2]; exact this
def withv (o : Option AV) (k : AV → Prop) : Prop := match o with | some v => k v | none => False
theorem withv_some (v : AV) (k : AV → Prop) : withv (some v) k = k v := rfl
theorem withv_none (k : AV → Prop) : withv none k = False := rfl
theorem withv_elim {o : Option AV} {k : AV → Prop} (h : withv o k) : ∃ v, o = some v ∧ k v := by
  cases o with
  | none => exact h.elim
  | some v => exact ⟨v, rfl, h⟩

/-! Arithmetic -/
def bitsI (op : BinOp) (k : IntKind) (x y : Int) : Int :=
  match op with
  | .and => k.wrap (BitVec.ofInt k.bits x &&& BitVec.ofInt k.bits y).toNat
  | .or => k.wrap (BitVec.ofInt k.bits x ||| BitVec.ofInt k.bits y).toNat
  | .xor => k.wrap (BitVec.ofInt k.bits x ^^^ BitVec.ofInt k.bits y).toNat
  | _ => k.wrap (BitVec.ofInt k.bits x &&& ~~~ (BitVec.ofInt k.bits y)).toNat
def shlI (k : IntKind) (x y : Int) : Int := k.wrap (x * 2 ^ (min y.toNat k.bits))
def shrI (k : IntKind) (x y : Int) : Int := x.fdiv (2 ^ (min y.toNat k.bits))
def notI (k : IntKind) (n : Int) : Int := bitsI .xor k (if k.signed then -1 else k.max) n
/-! structs and arrays of integers, bools and strings, cell by cell -/
def avVals : List AV → Option (List Value)
  | [] => some []
  | .int k n :: r => (avVals r).map fun l => .int k n :: l
  | .bool b :: r => (avVals r).map fun l => .bool b :: l
  | .str s :: r => (avVals r).map fun l => .string s :: l
  | _ => none
theorem avVals_den {H : RO} {B : Names} : ∀ {a : List AV} {vs cs : List Value}, avVals a = some vs → DenL H B a cs → cs = vs
  | [], vs, cs, h, hd => by simp only [avVals] at h; cases h; exact hd
  | x :: r, vs, cs, h, hd => by
    simp only [DenL] at hd
    obtain ⟨v, s, rfl, hv, hs⟩ := hd
    cases x <;> simp only [avVals, Option.map_eq_some_iff, reduceCtorEq] at h
    all_goals
      obtain ⟨l, hl, rfl⟩ := h
      simp only [Den] at hv
      subst hv
      rw [avVals_den hl hs]
def aggLits (P : Program) (t : TypeId) (a : List AV) : Option (List Lit) := (avVals a).bind fun vs => if (Value.agg vs.toArray).formed P t = true then P.keyLits 4 t vs else none
noncomputable def litEq (la lb : List Lit) : Bool := @decide (la = lb) (Classical.propDecidable _)
theorem litEq_iff {la lb : List Lit} : litEq la lb = true ↔ la = lb := @decide_eq_true_iff _ (Classical.propDecidable _)
theorem litEq_self (la : List Lit) : litEq la la = true := litEq_iff.2 rfl
theorem litEq_ne {la lb : List Lit} (h : la ≠ lb) : litEq la lb = false := by
  cases e : litEq la lb with
  | false => rfl
  | true => exact absurd (litEq_iff.1 e) h
def eqAggT (P : Program) (t : TypeId) : Bool := P.keyTypeAt 8 t && !(P.eqGuardType P.depth t)
theorem equal_agg {P : Program} {H : RO} {B : Names} {t : TypeId} (ht : eqAggT P t = true) {a b : List AV} {la lb : List Lit} (ha : aggLits P t a = some la) (hb : aggLits P t b = some lb) {x y : List Value} (hx : DenL H B a x) (hy : DenL H B b y) (w : World) :
    (Op.equal t (.agg x.toArray) (.agg y.toArray)).run P w = .ok (litEq la lb) w := by
  simp only [eqAggT, Bool.and_eq_true] at ht
  have key : ∀ {c : List AV} {l : List Lit} {z : List Value}, aggLits P t c = some l → DenL H B c z → (Value.agg z.toArray).formed P t = true ∧ P.keyLits 4 t (Value.agg z.toArray).cells.toList = some l := by
    intro c l z hc hz
    obtain ⟨vs, hv, hl⟩ := Option.bind_eq_some_iff.1 hc
    rw [avVals_den hv hz]
    split at hl
    · rename_i hf; exact ⟨hf, by simpa [Value.cells] using hl⟩
    · cases hl
  obtain ⟨f1, k1⟩ := key ha hx
  obtain ⟨f2, k2⟩ := key hb hy
  obtain ⟨r, hr, hi⟩ := run_equalIn_deep 9992 8 t ht.1 w 4 4 _ _ la lb f1 f2 k1 k2
  have e : r = litEq la lb := by
    cases r
    · exact (litEq_ne fun h => Bool.noConfusion (hi.2 h)).symm
    · exact (litEq_iff.2 (hi.1 rfl)).symm
  rw [← e]
  simpa only [Op.equal, Op.maxDepth] using hr
/-- two values of one operation -/
def binx (P : Program) (op : BinOp) (t : TypeId) (x y : AV) (k : AV → Prop) : Prop :=
  match op, x, y with
  | .shl, .int q a, .int _ b => 0 ≤ b ∧ k (.int q (shlI q a b))
  | .shr, .int q a, .int _ b => 0 ≤ b ∧ k (.int q (shrI q a b))
  | op, .int q a, .int q' b =>
    q = q' ∧ match op with
    | .add => k (.int q (q.wrap (a + b)))
    | .sub => k (.int q (q.wrap (a - b)))
    | .mul => k (.int q (q.wrap (a * b)))
    | .quo => b ≠ 0 ∧ k (.int q (q.wrap (a.tdiv b)))
    | .rem => b ≠ 0 ∧ k (.int q (a.tmod b))
    | .and => k (.int q (bitsI .and q a b))
    | .or => k (.int q (bitsI .or q a b))
    | .xor => k (.int q (bitsI .xor q a b))
    | .andNot => k (.int q (bitsI .andNot q a b))
    | .eql => k (.bool (a == b))
    | .neq => k (.bool (a != b))
    | .lss => k (.bool (decide (a < b)))
    | .leq => k (.bool (decide (a ≤ b)))
    | .gtr => k (.bool (decide (a > b)))
    | .geq => k (.bool (decide (a ≥ b)))
    | _ => False
  | .eql, .str a, .str b => k (.bool (a.toList == b.toList))
  | .neq, .str a, .str b => k (.bool (!(a.toList == b.toList)))
  | .eql, .bool a, .bool b => isBoolT P t = true ∧ k (.bool (a == b))
  | .neq, .bool a, .bool b => isBoolT P t = true ∧ k (.bool (!(a == b)))
  | .eql, .nilp, .nilp => isPtrT P t = true ∧ k (.bool true)
  | .neq, .nilp, .nilp => isPtrT P t = true ∧ k (.bool false)
  | .eql, .ptr _ _, .nilp => isPtrT P t = true ∧ k (.bool false)
  | .neq, .ptr _ _, .nilp => isPtrT P t = true ∧ k (.bool true)
  | .eql, .nilp, .ptr _ _ => isPtrT P t = true ∧ k (.bool false)
  | .neq, .nilp, .ptr _ _ => isPtrT P t = true ∧ k (.bool true)
  | .eql, .fn _ _ _, .nilf => isFuncT P t = true ∧ k (.bool false)
  | .neq, .fn _ _ _, .nilf => isFuncT P t = true ∧ k (.bool true)
  | .eql, .nilf, .nilf => isFuncT P t = true ∧ k (.bool true)
  | .neq, .nilf, .nilf => isFuncT P t = true ∧ k (.bool false)
  | .eql, .sl _ _ _ _, .nils => (elemT P t).isSome = true ∧ k (.bool false)
  | .neq, .sl _ _ _ _, .nils => (elemT P t).isSome = true ∧ k (.bool true)
  | .eql, .nils, .nils => (elemT P t).isSome = true ∧ k (.bool true)
  | .neq, .nils, .nils => (elemT P t).isSome = true ∧ k (.bool false)
  | .eql, .iface _ _, .nili => isIfaceT P t = true ∧ k (.bool false)
  | .neq, .iface _ _, .nili => isIfaceT P t = true ∧ k (.bool true)
  | .eql, .agg a, .agg b => eqAggT P t = true ∧ ∃ la, aggLits P t a = some la ∧ ∃ lb, aggLits P t b = some lb ∧ k (.bool (litEq la lb))
  | .neq, .agg a, .agg b => eqAggT P t = true ∧ ∃ la, aggLits P t a = some la ∧ ∃ lb, aggLits P t b = some lb ∧ k (.bool (!(litEq la lb)))
  | _, _, _ => False
def unx (op : UnOp) (x : AV) (k : AV → Prop) : Prop :=
  match op, x with
  | .neg, .int q n => k (.int q (q.wrap (0 - n)))
  | .xor, .int q n => k (.int q (notI q n))
  | .not, .bool b => k (.bool !b)
  | _, _ => False
section
variable {P : Program} {H : RO} {B : Names}
theorem give_int {S : Sem Value} {k : AV → Prop} {q : IntKind} {x : Int} (h : k (.int q x)) (hr : ∀ w', S.run P w' = .ok (.int q x) w') : ∃ v av, (∀ w', S.run P w' = .ok v w') ∧ Den H B av v ∧ k av := ⟨.int q x, .int q x, hr, by simp only [Den], h⟩
theorem give_bool {S : Sem Value} {k : AV → Prop} {x : Bool} (h : k (.bool x)) (hr : ∀ w', S.run P w' = .ok (.bool x) w') : ∃ v av, (∀ w', S.run P w' = .ok v w') ∧ Den H B av v ∧ k av := ⟨.bool x, .bool x, hr, by simp only [Den], h⟩
theorem unx_ok {op : UnOp} {x : AV} {k : AV → Prop} (h : unx op x k) {u : Value} (hu : Den H B x u) : ∃ v av, (∀ w', (Op.unary op u).run P w' = .ok v w') ∧ Den H B av v ∧ k av := by
  unfold unx at h
  split at h
  · simp only [Den] at hu; subst hu; exact give_int h fun w' => rfl
  · simp only [Den] at hu; subst hu; exact give_int h fun w' => rfl
  · simp only [Den] at hu; subst hu; exact give_bool h fun w' => rfl
  · exact h.elim
theorem eqGuard_int (op : BinOp) (t : TypeId) (x y : Operand) (k : IntKind) (a : Int) (v : Value) (w : World) : (eqGuard op t x y (.int k a) v).run P w = .ok () w := by
  unfold eqGuard; split <;> rfl
theorem eqGuard_str (op : BinOp) (t : TypeId) (x y : Operand) (a : ByteArray) (v : Value) (w : World) : (eqGuard op t x y (.string a) v).run P w = .ok () w := by
  unfold eqGuard; split <;> rfl
theorem eqGuard_bool (op : BinOp) (t : TypeId) (x y : Operand) (a : Bool) (v : Value) (w : World) : (eqGuard op t x y (.bool a) v).run P w = .ok () w := by
  unfold eqGuard; split <;> rfl
theorem eqGuard_ptr (op : BinOp) (t : TypeId) (x y : Operand) (a : Option Addr) (v : Value) (w : World) : (eqGuard op t x y (.pointer a) v).run P w = .ok () w := by
  unfold eqGuard; split <;> rfl
theorem eqGuard_fn (op : BinOp) (t : TypeId) (x y : Operand) (f : Fn) (a b : Array Value) (v : Value) (w : World) : (eqGuard op t x y (.func f a b) v).run P w = .ok () w := by
  unfold eqGuard; split <;> rfl
theorem eqGuard_nilfn (op : BinOp) (t : TypeId) (x y : Operand) (v : Value) (w : World) : (eqGuard op t x y .nilFunc v).run P w = .ok () w := by
  unfold eqGuard; split <;> rfl
theorem run_eq_of {t : TypeId} {x y : Value} {r : Bool} {o1 o2 : Operand} {w : World} (hg : (eqGuard .eql t o1 o2 x y).run P w = .ok () w) (hb : binOp .eql t x y = do pure (.bool (← Op.equal t x y))) (h : (Op.equal t x y).run P w = .ok r w) :
    (do eqGuard .eql t o1 o2 x y; binOp .eql t x y : Sem Value).run P w = .ok (.bool r) w := by
  rw [Sem.run_bind, hg, Result.andThen_ok, hb, Sem.run_bind, h]; rfl
theorem run_ne_of {t : TypeId} {x y : Value} {r : Bool} {o1 o2 : Operand} {w : World} (hg : (eqGuard .neq t o1 o2 x y).run P w = .ok () w) (hb : binOp .neq t x y = do pure (.bool (!(← Op.equal t x y)))) (h : (Op.equal t x y).run P w = .ok r w) :
    (do eqGuard .neq t o1 o2 x y; binOp .neq t x y : Sem Value).run P w = .ok (.bool !r) w := by
  rw [Sem.run_bind, hg, Result.andThen_ok, hb, Sem.run_bind, h]; rfl
theorem equal_bool {t : TypeId} (ht : isBoolT P t = true) (a b : Bool) (w : World) : (Op.equal t (.bool a) (.bool b)).run P w = .ok (a == b) w := by
  unfold Op.equal Op.maxDepth; rw [Op.equalIn, Sem.run_bind, run_underlying (isBoolT_some ht)]; rfl
theorem equal_pp {t : TypeId} (ht : isPtrT P t = true) (w : World) : (Op.equal t (.pointer none) (.pointer none)).run P w = .ok true w := by
  obtain ⟨e, he⟩ := isPtrT_some ht
  unfold Op.equal Op.maxDepth; rw [Op.equalIn, Sem.run_bind, run_underlying he]; rfl
theorem equal_pa {t : TypeId} (ht : isPtrT P t = true) (a : Addr) (w : World) : (Op.equal t (.pointer none) (.pointer (some a))).run P w = .ok false w := by
  obtain ⟨e, he⟩ := isPtrT_some ht
  unfold Op.equal Op.maxDepth; rw [Op.equalIn, Sem.run_bind, run_underlying he]; rfl
theorem equal_ap {t : TypeId} (ht : isPtrT P t = true) (a : Addr) (w : World) : (Op.equal t (.pointer (some a)) (.pointer none)).run P w = .ok false w := by
  obtain ⟨e, he⟩ := isPtrT_some ht
  unfold Op.equal Op.maxDepth; rw [Op.equalIn, Sem.run_bind, run_underlying he]; rfl
theorem equal_fn {t : TypeId} (ht : isFuncT P t = true) (f : Fn) (x y : Array Value) (w : World) : (Op.equal t (.func f x y) .nilFunc).run P w = .ok false w := by
  obtain ⟨_, _, _, he⟩ := isFuncT_some ht
  unfold Op.equal Op.maxDepth; rw [Op.equalIn, Sem.run_bind, run_underlying he]; rfl
theorem eqGuard_iface (op : BinOp) (t : TypeId) (x y : Operand) (ty : TypeId) (a : Value) (v : Value) (w : World) : (eqGuard op t x y (.iface ty a) v).run P w = .ok () w := by
  unfold eqGuard; split <;> rfl
theorem equal_in {t : TypeId} (ht : isIfaceT P t = true) (ty : TypeId) (x : Value) (w : World) : (Op.equal t (.iface ty x) .nilIface).run P w = .ok false w := by
  unfold isIfaceT at ht
  split at ht
  · rename_i ms he
    unfold Op.equal Op.maxDepth; rw [Op.equalIn, Sem.run_bind, run_underlying he]; rfl
  · cases ht
theorem equal_nf {t : TypeId} (ht : isFuncT P t = true) (w : World) : (Op.equal t .nilFunc .nilFunc).run P w = .ok true w := by
  obtain ⟨_, _, _, he⟩ := isFuncT_some ht
  unfold Op.equal Op.maxDepth; rw [Op.equalIn, Sem.run_bind, run_underlying he]; rfl
theorem eqGuard_slice (op : BinOp) (t : TypeId) (x y : Operand) (a : Option Addr) (l c : Nat) (v : Value) (w : World) : (eqGuard op t x y (.slice a l c) v).run P w = .ok () w := by
  unfold eqGuard; split <;> rfl
theorem equal_sn {t : TypeId} (ht : (elemT P t).isSome = true) (a : Addr) (l c l' c' : Nat) (w : World) : (Op.equal t (.slice (some a) l c) (.slice none l' c')).run P w = .ok false w := by
  obtain ⟨e, he⟩ := Option.isSome_iff_exists.1 ht
  unfold Op.equal Op.maxDepth; rw [Op.equalIn, Sem.run_bind, run_underlying (elemT_some he)]; rfl
theorem equal_nn {t : TypeId} (ht : (elemT P t).isSome = true) (l c l' c' : Nat) (w : World) : (Op.equal t (.slice none l c) (.slice none l' c')).run P w = .ok true w := by
  obtain ⟨e, he⟩ := Option.isSome_iff_exists.1 ht
  unfold Op.equal Op.maxDepth; rw [Op.equalIn, Sem.run_bind, run_underlying (elemT_some he)]; rfl
theorem int_ok {op : BinOp} {t : TypeId} {q : IntKind} {a b : Int} {o1 o2 : Operand} {v : Value} (hb : ∀ w', (binOp op t (.int q a) (.int q b)).run P w' = .ok v w') (w' : World) :
    (do eqGuard op t o1 o2 (.int q a) (.int q b); binOp op t (.int q a) (.int q b) : Sem Value).run P w' = .ok v w' := by
  rw [Sem.run_bind, eqGuard_int, Result.andThen_ok]; exact hb w'
theorem binx_ok {op : BinOp} {t : TypeId} {x y : AV} {k : AV → Prop} (h : binx P op t x y k) {u1 u2 : Value} (h1 : Den H B x u1) (h2 : Den H B y u2) (o1 o2 : Operand) :
    ∃ v av, (∀ w', (do eqGuard op t o1 o2 u1 u2; binOp op t u1 u2 : Sem Value).run P w' = .ok v w') ∧ Den H B av v ∧ k av := by
  unfold binx at h
  split at h <;> (try simp only [Den] at h1 h2)
  · obtain ⟨hb, h⟩ := h; subst h1; subst h2
    refine give_int h fun w' => ?_
    rw [Sem.run_bind, eqGuard_int, Result.andThen_ok]
    simp [binOp, Op.shift, shlI]; omega
  · obtain ⟨hb, h⟩ := h; subst h1; subst h2
    refine give_int h fun w' => ?_
    rw [Sem.run_bind, eqGuard_int, Result.andThen_ok]
    simp [binOp, Op.shift, shrI]; omega
  · rename_i n1 n2
    obtain ⟨rfl, h⟩ := h; subst h1; subst h2
    cases op
    case shl => exact (n1 rfl).elim
    case shr => exact (n2 rfl).elim
    case quo => exact give_int h.2 (int_ok fun w' => by simp [binOp, Op.intDiv, h.1])
    case rem => exact give_int h.2 (int_ok fun w' => by simp [binOp, Op.intDiv, h.1])
    all_goals first
      | exact h.elim
      | exact give_int h (int_ok fun w' => by simp only [binOp, ne_eq, not_true_eq_false, if_false]; rfl)
      | exact give_bool h (int_ok fun w' => by simp only [binOp, ne_eq, not_true_eq_false, if_false]; rfl)
  · subst h1; subst h2; exact give_bool h fun w' => by rw [Sem.run_bind, eqGuard_str, Result.andThen_ok]; rfl
  · subst h1; subst h2; exact give_bool h fun w' => by rw [Sem.run_bind, eqGuard_str, Result.andThen_ok]; rfl
  · obtain ⟨ht, h⟩ := h; subst h1; subst h2; exact give_bool h fun w' => run_eq_of (eqGuard_bool _ _ _ _ _ _ _) rfl (equal_bool ht _ _ _)
  · obtain ⟨ht, h⟩ := h; subst h1; subst h2; exact give_bool h fun w' => run_ne_of (eqGuard_bool _ _ _ _ _ _ _) rfl (equal_bool ht _ _ _)
  · obtain ⟨ht, h⟩ := h; subst h1; subst h2; exact give_bool h fun w' => run_eq_of (eqGuard_ptr _ _ _ _ _ _ _) rfl (equal_pp ht _)
  · obtain ⟨ht, h⟩ := h; subst h1; subst h2; exact give_bool h fun w' => run_ne_of (r := true) (eqGuard_ptr _ _ _ _ _ _ _) rfl (equal_pp ht _)
  · obtain ⟨ht, h⟩ := h; obtain ⟨b, _, rfl⟩ := h1; subst h2; exact give_bool h fun w' => run_eq_of (eqGuard_ptr _ _ _ _ _ _ _) rfl (equal_ap ht _ _)
  · obtain ⟨ht, h⟩ := h; obtain ⟨b, _, rfl⟩ := h1; subst h2; exact give_bool h fun w' => run_ne_of (r := false) (eqGuard_ptr _ _ _ _ _ _ _) rfl (equal_ap ht _ _)
  · obtain ⟨ht, h⟩ := h; subst h1; obtain ⟨b, _, rfl⟩ := h2; exact give_bool h fun w' => run_eq_of (eqGuard_ptr _ _ _ _ _ _ _) rfl (equal_pa ht _ _)
  · obtain ⟨ht, h⟩ := h; subst h1; obtain ⟨b, _, rfl⟩ := h2; exact give_bool h fun w' => run_ne_of (r := false) (eqGuard_ptr _ _ _ _ _ _ _) rfl (equal_pa ht _ _)
  · obtain ⟨ht, h⟩ := h; obtain ⟨p, q, rfl, _, _⟩ := h1; subst h2; exact give_bool h fun w' => run_eq_of (eqGuard_fn _ _ _ _ _ _ _ _ _) rfl (equal_fn ht _ _ _ _)
  · obtain ⟨ht, h⟩ := h; obtain ⟨p, q, rfl, _, _⟩ := h1; subst h2; exact give_bool h fun w' => run_ne_of (r := false) (eqGuard_fn _ _ _ _ _ _ _ _ _) rfl (equal_fn ht _ _ _ _)
  · obtain ⟨ht, h⟩ := h; subst h1; subst h2; exact give_bool h fun w' => run_eq_of (eqGuard_nilfn _ _ _ _ _ _) rfl (equal_nf ht _)
  · obtain ⟨ht, h⟩ := h; subst h1; subst h2; exact give_bool h fun w' => run_ne_of (r := true) (eqGuard_nilfn _ _ _ _ _ _) rfl (equal_nf ht _)
  · obtain ⟨ht, h⟩ := h; obtain ⟨b, ad, _, rfl, _, _⟩ := h1; subst h2; exact give_bool h fun w' => run_eq_of (eqGuard_slice _ _ _ _ _ _ _ _ _) rfl (equal_sn ht _ _ _ _ _ _)
  · obtain ⟨ht, h⟩ := h; obtain ⟨b, ad, _, rfl, _, _⟩ := h1; subst h2; exact give_bool h fun w' => run_ne_of (r := false) (eqGuard_slice _ _ _ _ _ _ _ _ _) rfl (equal_sn ht _ _ _ _ _ _)
  · obtain ⟨ht, h⟩ := h; subst h1; subst h2; exact give_bool h fun w' => run_eq_of (eqGuard_slice _ _ _ _ _ _ _ _ _) rfl (equal_nn ht _ _ _ _ _)
  · obtain ⟨ht, h⟩ := h; subst h1; subst h2; exact give_bool h fun w' => run_ne_of (r := true) (eqGuard_slice _ _ _ _ _ _ _ _ _) rfl (equal_nn ht _ _ _ _ _)
  · obtain ⟨ht, h⟩ := h; obtain ⟨y, rfl, _⟩ := h1; subst h2; exact give_bool h fun w' => run_eq_of (eqGuard_iface _ _ _ _ _ _ _ _) rfl (equal_in ht _ _ _)
  · obtain ⟨ht, h⟩ := h; obtain ⟨y, rfl, _⟩ := h1; subst h2; exact give_bool h fun w' => run_ne_of (r := false) (eqGuard_iface _ _ _ _ _ _ _ _) rfl (equal_in ht _ _ _)
  · obtain ⟨ht, la, ha, lb, hb, h⟩ := h
    obtain ⟨x, rfl, hx⟩ := h1
    obtain ⟨y, rfl, hy⟩ := h2
    have hg : P.eqGuardType P.depth t = false := by simp only [eqAggT, Bool.and_eq_true, Bool.not_eq_true'] at ht; exact ht.2
    exact give_bool h fun w' => run_eq_of (run_eqGuard_agg _ _ _ _ _ _ _ hg) rfl (equal_agg ht ha hb hx hy _)
  · obtain ⟨ht, la, ha, lb, hb, h⟩ := h
    obtain ⟨x, rfl, hx⟩ := h1
    obtain ⟨y, rfl, hy⟩ := h2
    have hg : P.eqGuardType P.depth t = false := by simp only [eqAggT, Bool.and_eq_true, Bool.not_eq_true'] at ht; exact ht.2
    exact give_bool h fun w' => run_ne_of (run_eqGuard_agg _ _ _ _ _ _ _ hg) rfl (equal_agg ht ha hb hx hy _)
  · exact h.elim
end
end Go.Eng
end
section
/- The engine, part 3: operations that read memory. Own work. -/
set_option linter.unusedVariables false
set_option linter.unusedSimpArgs false
namespace Go.Eng
open Go

/-- The worlds in which reading comes to the same: what is read-only, and the named objects that may be read (rd), are as in w. -/
structure Sees (H : RO) (B : Names) (m : Mem) (rd : Nat → Bool) (w w' : World) : Prop where
  ro : ∀ a v, H a = some v → w'.cell? a = some v
  obj : ∀ n o b, look m n = some o → rd n = true → B n = some b → w'.heap[b]? = w.heap[b]?
theorem Inv.sees {w0 w : World} {FP : Nat → Prop} {wr : Nat → Bool} {m : Mem} {nx : Nat} {H : RO} {B : Names} (h : Inv w0 FP wr m nx H B w) (rd : Nat → Bool) : Sees H B m rd w w :=
  ⟨fun a v e => (h.ro a v e).1, fun _ _ _ _ _ _ => rfl⟩

section
variable {P : Program} {w0 w : World} {FP : Nat → Prop} {wr rd : Nat → Bool} {m : Mem} {nx : Nat} {H : RO} {B : Names}

theorem obj_cells (hi : Inv w0 FP wr m nx H B w) {n : Nat} {l : List AV} {ty : TypeId} (hn : look m n = some (.cells l ty)) :
    ∃ b cs, B n = some b ∧ w.heap[b]? = some (.cells cs.toArray ty (0, 0)) ∧ DenL H B l cs := by
  obtain ⟨b, hb, ⟨cs, h1, h2⟩, _⟩ := hi.obj n _ hn
  exact ⟨b, cs, hb, h1, h2⟩
theorem obj_fz (hi : Inv w0 FP wr m nx H B w) {n : Nat} {l : List AV} {ty : TypeId} (hn : look m n = some (.fz l ty)) :
    ∃ b cs fr, B n = some b ∧ w.heap[b]? = some (.cells cs.toArray ty fr) ∧ DenL H B l cs := by
  obtain ⟨b, hb, ⟨cs, fr, h1, h2⟩, _⟩ := hi.obj n _ hn
  exact ⟨b, cs, fr, hb, h1, h2⟩
theorem cell_at (w' : World) {b : Nat} {cs : List Value} {ty : TypeId} {fr : Nat × Nat} (h : w'.heap[b]? = some (.cells cs.toArray ty fr)) (o : Nat) : w'.cell? ⟨b, o, none⟩ = cs[o]? := by
  simp [World.cell?, h]
theorem load_agg {ty : TypeId} {s : Nat} {a : Addr} {cs : List Value} (hk : known P ty = true) (hg : aggT P ty = true) (hs : sizeT P ty = some s) (hl : cs.length = s) (w' : World) (h : ∀ j v, cs[j]? = some v → w'.cell? (a.add j) = some v) :
    (Instr.loadAt ty (.pointer (some a))).run P w' = .ok (.agg cs.toArray) w' := by
  have h1 := run_loadCells_list (P := P) w' a cs h
  rw [hl] at h1
  simp only [Instr.loadAt, Instr.sureAddr, loadVar, Sem.run_bind, Sem.run_pure, Result.andThen_ok, aggT_run hg hk w', if_true, sizeT_run hs w', h1]
theorem load_one {ty : TypeId} {a : Addr} {v : Value} (hk : known P ty = true) (hg : aggT P ty = false) (w' : World) (h : w'.cell? a = some v) :
    (Instr.loadAt ty (.pointer (some a))).run P w' = .ok v w' := by
  simp only [Instr.loadAt, Instr.sureAddr, loadVar, Sem.run_bind, Sem.run_pure, Result.andThen_ok, aggT_run hg hk w', Bool.false_eq_true, if_false, run_load, h]

def pickx (agg : Bool) (P : Program) (ty : TypeId) (l : List AV) (off : Nat) (k : AV → Prop) : Prop :=
  match agg with
  | true => ∃ s, sizeT P ty = some s ∧ off + s ≤ l.length ∧ k (.agg ((l.drop off).take s))
  | false => off < l.length ∧ k (l.getD off (dflt P ty))
def loadx (P : Program) (rd : Nat → Bool) (m : Mem) (ty : TypeId) (p : AV) (k : AV → Prop) : Prop :=
  match p with
  | .ptr n off => match look m n with
    | some (.cells l _) => rd n = true ∧ known P ty = true ∧ pickx (aggT P ty) P ty l off k
    | some (.fz l _) => rd n = true ∧ known P ty = true ∧ pickx (aggT P ty) P ty l off k
    | _ => False
  | .rop xs => known P ty = true ∧ pickx (aggT P ty) P ty xs 0 k
  | _ => False
theorem loadx_ok (hi : Inv w0 FP wr m nx H B w) {ty : TypeId} {p : AV} {k : AV → Prop} (h : loadx P rd m ty p k) {u : Value} (hu : Den H B p u) :
    ∃ v av, (∀ w', Sees H B m rd w w' → (Instr.loadAt ty u).run P w' = .ok v w') ∧ Den H B av v ∧ k av := by
  unfold loadx at h
  split at h
  · rename_i n off
    split at h
    · rename_i l ty' hn
      obtain ⟨hrd, hk, h⟩ := h
      simp only [Den] at hu
      obtain ⟨b, hb, rfl⟩ := hu
      obtain ⟨b', cs, hb', hc, hd⟩ := obj_cells hi hn
      rw [hb] at hb'; injection hb' with hb'; subst hb'
      have hcell : ∀ w', Sees H B m rd w w' → ∀ j, w'.cell? (⟨b, off, none⟩ : Addr) = cs[off]? ∧ w'.cell? ((⟨b, off, none⟩ : Addr).add j) = cs[off + j]? := fun w' hw j => by
        have e := (hw.obj n _ b hn hrd hb).trans hc
        exact ⟨cell_at w' e off, by rw [Addr.add_mid]; exact cell_at w' e (off + j)⟩
      unfold pickx at h
      split at h
      · rename_i hg
        obtain ⟨s, hs, hle, h⟩ := h
        have hdd := (hd.drop off).take s
        have hlen : ((cs.drop off).take s).length = s := by simp [hd.length]; omega
        refine ⟨.agg ((cs.drop off).take s).toArray, _, fun w' hw => load_agg hk hg hs hlen w' fun j v hj => ?_, by simp only [Den]; exact ⟨_, rfl, hdd⟩, h⟩
        rw [(hcell w' hw j).2]
        have hjs : j < s := by have := (List.getElem?_eq_some_iff.1 hj).1; omega
        rw [List.getElem?_take, if_pos hjs, List.getElem?_drop] at hj
        exact hj
      · rename_i hg
        obtain ⟨hlt, h⟩ := h
        have hx : l[off]? = some (l.getD off (dflt P ty)) := by simp [List.getD_eq_getElem?_getD, List.getElem?_eq_getElem hlt]
        obtain ⟨v, hv, hdv⟩ := hd.get off _ hx
        exact ⟨v, _, fun w' hw => load_one hk hg w' ((hcell w' hw 0).1.trans hv), hdv, h⟩
    · rename_i l ty' hn
      obtain ⟨hrd, hk, h⟩ := h
      simp only [Den] at hu
      obtain ⟨b, hb, rfl⟩ := hu
      obtain ⟨b', cs, fr, hb', hc, hd⟩ := obj_fz hi hn
      rw [hb] at hb'; injection hb' with hb'; subst hb'
      have hcell : ∀ w', Sees H B m rd w w' → ∀ j, w'.cell? (⟨b, off, none⟩ : Addr) = cs[off]? ∧ w'.cell? ((⟨b, off, none⟩ : Addr).add j) = cs[off + j]? := fun w' hw j => by
        have e := (hw.obj n _ b hn hrd hb).trans hc
        exact ⟨cell_at w' e off, by rw [Addr.add_mid]; exact cell_at w' e (off + j)⟩
      unfold pickx at h
      split at h
      · rename_i hg
        obtain ⟨s, hs, hle, h⟩ := h
        have hdd := (hd.drop off).take s
        have hlen : ((cs.drop off).take s).length = s := by simp [hd.length]; omega
        refine ⟨.agg ((cs.drop off).take s).toArray, _, fun w' hw => load_agg hk hg hs hlen w' fun j v hj => ?_, by simp only [Den]; exact ⟨_, rfl, hdd⟩, h⟩
        rw [(hcell w' hw j).2]
        have hjs : j < s := by have := (List.getElem?_eq_some_iff.1 hj).1; omega
        rw [List.getElem?_take, if_pos hjs, List.getElem?_drop] at hj
        exact hj
      · rename_i hg
        obtain ⟨hlt, h⟩ := h
        have hx : l[off]? = some (l.getD off (dflt P ty)) := by simp [List.getD_eq_getElem?_getD, List.getElem?_eq_getElem hlt]
        obtain ⟨v, hv, hdv⟩ := hd.get off _ hx
        exact ⟨v, _, fun w' hw => load_one hk hg w' ((hcell w' hw 0).1.trans hv), hdv, h⟩
    · exact h.elim
  · rename_i xs
    obtain ⟨hk, h⟩ := h
    simp only [Den] at hu
    obtain ⟨a, rfl, hd⟩ := hu
    unfold pickx at h
    split at h
    · rename_i hg
      obtain ⟨s, hs, hle, h⟩ := h
      have hex : ∀ j : Nat, ∃ v : Value, j < s → ∃ x, xs[j]? = some x ∧ H (a.add j) = some v ∧ Den H B x v := fun j => by
        by_cases hj : j < s
        · have hx : xs[j]? = some (xs[j]'(by omega)) := List.getElem?_eq_getElem (by omega)
          obtain ⟨a', v, e, h1, h2⟩ := hd.get j _ hx
          cases e
          rw [Nat.zero_add] at h1
          exact ⟨v, fun _ => ⟨_, hx, h1, h2⟩⟩
        · exact ⟨undef, fun h => absurd h hj⟩
      obtain ⟨f, hf⟩ := Classical.axiomOfChoice hex
      have hlen : ((List.range s).map f).length = s := by simp
      refine ⟨.agg ((List.range s).map f).toArray, _, fun w' hw => load_agg hk hg hs hlen w' fun j v hj => ?_, ?_, h⟩
      · have hjs : j < s := by have := (List.getElem?_eq_some_iff.1 hj).1; omega
        obtain ⟨x, _, h1, _⟩ := hf j hjs
        simp [List.getElem?_range hjs] at hj
        subst hj
        exact hw.ro _ _ h1
      · simp only [Den, List.drop_zero]
        refine ⟨_, rfl, DenL.of_get (by simp; omega) fun i x v h1 h2 => ?_⟩
        have his : i < s := by have := (List.getElem?_eq_some_iff.1 h2).1; simpa using this
        obtain ⟨x', hx', _, h3⟩ := hf i his
        rw [List.getElem?_take, if_pos his, hx'] at h1
        cases h1
        simp [List.getElem?_range his] at h2
        subst h2
        exact h3
    · rename_i hg
      obtain ⟨hlt, h⟩ := h
      have hx : xs[0]? = some (xs.getD 0 (dflt P ty)) := by simp [List.getD_eq_getElem?_getD, List.getElem?_eq_getElem hlt]
      obtain ⟨a', v, e, h1, h2⟩ := hd.get 0 _ hx
      cases e
      have h0 : a.add 0 = a := by simp [Addr.add]
      rw [Nat.zero_add, h0] at h1
      exact ⟨v, _, fun w' hw => load_one hk hg w' (hw.ro _ _ h1), h2, h⟩
  · exact h.elim

/-! addresses -/
def idxx (P : Program) (t : TypeId) (x i : AV) (k : AV → Prop) : Prop :=
  match x, i with
  | .sl n off len cap, .int _ i => ∃ e, elemT P t = some e ∧ ∃ s, sizeT P e = some s ∧ (0 ≤ i ∧ i < len) ∧ k (.ptr n (off + i.toNat * s))
  | .ptr n off, .int _ i => ∃ q, arrT P t = some q ∧ ∃ s, sizeT P q.2 = some s ∧ (0 ≤ i ∧ i < q.1) ∧ k (.ptr n (off + i.toNat * s))
  | .ro len xs, .int _ i => ∃ e, elemT P t = some e ∧ ∃ s, sizeT P e = some s ∧ (0 ≤ i ∧ i < len) ∧ i.toNat * s < xs.length ∧ k (.rop (xs.drop (i.toNat * s)))
  | .rop xs, .int _ i => ∃ q, arrT P t = some q ∧ ∃ s, sizeT P q.2 = some s ∧ (0 ≤ i ∧ i < q.1) ∧ k (.rop (xs.drop (i.toNat * s)))
  | _, _ => False
theorem rop_ok {a : Addr} {xs : List AV} (hd : DenAt H B (some a) 0 xs) (n : Nat) : Den H B (.rop (xs.drop n)) (.pointer (some (a.add n))) := by
  simp only [Den]
  refine ⟨_, rfl, DenAt.of_get fun j x hx => ?_⟩
  rw [List.getElem?_drop] at hx
  obtain ⟨a', v, e, h1, h2⟩ := hd.get _ x hx
  cases e
  exact ⟨_, v, rfl, by rw [add_add']; simpa using h1, h2⟩
theorem idxx_ok {t : TypeId} {x i : AV} {k : AV → Prop} (h : idxx P t x i k) {u1 u2 : Value} (h1 : Den H B x u1) (h2 : Den H B i u2) :
    ∃ v av, (∀ w', (Instr.indexAt t u1 u2).run P w' = .ok v w') ∧ Den H B av v ∧ k av := by
  unfold idxx at h
  split at h
  · obtain ⟨e, he, s, hs, hb, h⟩ := h
    simp only [Den] at h1 h2
    obtain ⟨b, a, hb1, rfl, hl, ha⟩ := h1; subst h2
    rename_i n off len cap _ i
    have hc : cap ≠ 0 := by omega
    rw [ha hc]
    refine ⟨.pointer (some ⟨b, off + i.toNat * s, none⟩), _, fun w' => ?_, ?_, h⟩
    · simp only [Instr.indexAt, asIntOf, Sem.run_bind, Sem.run_pure, Result.andThen_ok, run_underlying (elemT_some he), sizeT_run hs]
      rw [if_pos hb]
      simp only [Sem.run_bind, sizeT_run hs, Result.andThen_ok, Sem.run_pure, Addr.add_mid]
    · simp only [Den]; exact ⟨b, hb1, rfl⟩
  · obtain ⟨q, he, s, hs, hb, h⟩ := h
    simp only [Den] at h1 h2
    obtain ⟨b, hb1, rfl⟩ := h1; subst h2
    rename_i n off _ i
    refine ⟨.pointer (some ⟨b, off + i.toNat * s, none⟩), _, fun w' => ?_, ?_, h⟩
    · simp only [Instr.indexAt, asIntOf, Instr.sureAddr, Sem.run_bind, Sem.run_pure, Result.andThen_ok, run_underlying (arrT_some he), sizeT_run hs]
      rw [if_pos hb]
      simp only [Sem.run_bind, sizeT_run hs, Result.andThen_ok, Sem.run_pure, Addr.add_mid]
    · simp only [Den]; exact ⟨b, hb1, rfl⟩
  · rename_i xs _ i
    obtain ⟨e, he, s, hs, hb, hlt, h⟩ := h
    simp only [Den] at h1 h2
    obtain ⟨A, cap, rfl, hl, hd⟩ := h1; subst h2
    obtain ⟨a, v0, rfl, _, _⟩ := hd.get _ _ (List.getElem?_eq_getElem hlt)
    refine ⟨_, _, fun w' => ?_, rop_ok hd _, h⟩
    simp only [Instr.indexAt, asIntOf, Sem.run_bind, Sem.run_pure, Result.andThen_ok, run_underlying (elemT_some he), sizeT_run hs]
    rw [if_pos hb]
    simp only [Sem.run_bind, sizeT_run hs, Result.andThen_ok, Sem.run_pure]
  · obtain ⟨q, he, s, hs, hb, h⟩ := h
    simp only [Den] at h1 h2
    obtain ⟨a, rfl, hd⟩ := h1; subst h2
    refine ⟨_, _, fun w' => ?_, rop_ok hd _, h⟩
    simp only [Instr.indexAt, asIntOf, Instr.sureAddr, Sem.run_bind, Sem.run_pure, Result.andThen_ok, run_underlying (arrT_some he), sizeT_run hs]
    rw [if_pos hb]
    simp only [Sem.run_bind, sizeT_run hs, Result.andThen_ok, Sem.run_pure]
  · exact h.elim
def fldx (P : Program) (t : TypeId) (x : AV) (f : Nat) (k : AV → Prop) : Prop :=
  match x with
  | .ptr n off => ∃ q, fieldT P t f = some q ∧ ∃ s, sizeT P q.2 = some s ∧ s ≠ 0 ∧ k (.ptr n (off + q.1))
  | .rop xs => ∃ q, fieldT P t f = some q ∧ ∃ s, sizeT P q.2 = some s ∧ s ≠ 0 ∧ k (.rop (xs.drop q.1))
  | _ => False
theorem fldx_ok {t : TypeId} {x : AV} {f : Nat} {k : AV → Prop} (h : fldx P t x f k) {u : Value} (h1 : Den H B x u) :
    ∃ v av, (∀ w', (Instr.fieldAt t u f).run P w' = .ok v w') ∧ Den H B av v ∧ k av := by
  have key : ∀ {q : Nat × TypeId} {s : Nat} {a : Addr} (w' : World), fieldT P t f = some q → sizeT P q.2 = some s → s ≠ 0 → (Instr.fieldAt t (.pointer (some a)) f).run P w' = .ok (.pointer (some (a.add q.1))) w' := by
    intro q s a w' hq hs h0
    obtain ⟨fs, g, hu, hg, e1, e2⟩ := fieldT_some (show fieldT P t f = some (q.1, q.2) from hq)
    rw [← e2] at hs
    simp only [Instr.fieldAt, Sem.run_bind, run_underlying hu, Result.andThen_ok, hg, Instr.sureAddr, Sem.run_pure, fieldPlace, sizeT_run hs, if_neg h0, e1]
  unfold fldx at h
  split at h
  · obtain ⟨q, hq, s, hs, h0, h⟩ := h
    simp only [Den] at h1
    obtain ⟨b, hb1, rfl⟩ := h1
    exact ⟨_, _, fun w' => key w' hq hs h0, by simp only [Den]; exact ⟨b, hb1, by rw [Addr.add_mid]⟩, h⟩
  · obtain ⟨q, hq, s, hs, h0, h⟩ := h
    simp only [Den] at h1
    obtain ⟨a, rfl, hd⟩ := h1
    exact ⟨_, _, fun w' => key w' hq hs h0, rop_ok hd _, h⟩
  · exact h.elim

/-! parts of values -/
def partx (P : Program) (ty : TypeId) (l : List AV) (off : Nat) (k : AV → Prop) : Prop := known P ty = true ∧ pickx (aggT P ty) P ty l off k
theorem partx_ok {ty : TypeId} {l : List AV} {off : Nat} {k : AV → Prop} (h : partx P ty l off k) {cs : List Value} (hd : DenL H B l cs) :
    ∃ v av, (∀ w', (part ty cs.toArray off).run P w' = .ok v w') ∧ Den H B av v ∧ k av := by
  obtain ⟨hk, h⟩ := h
  unfold pickx at h
  split at h
  · rename_i hg
    obtain ⟨s, hs, hle, h⟩ := h
    refine ⟨.agg ((cs.drop off).take s).toArray, _, fun w' => ?_, by simp only [Den]; exact ⟨_, rfl, (hd.drop off).take s⟩, h⟩
    simp only [part, Sem.run_bind, aggT_run hg hk w', Result.andThen_ok, if_true, sizeT_run hs w', Sem.run_pure]
    congr 2
    apply Array.ext'
    simp [List.take_drop]
  · rename_i hg
    obtain ⟨hlt, h⟩ := h
    have hx : l[off]? = some (l.getD off (dflt P ty)) := by simp [List.getD_eq_getElem?_getD, List.getElem?_eq_getElem hlt]
    obtain ⟨v, hv, hdv⟩ := hd.get off _ hx
    refine ⟨v, _, fun w' => ?_, hdv, h⟩
    have hv' : cs.toArray[off]? = some v := by simpa using hv
    simp only [part, Sem.run_bind, aggT_run hg hk w', Result.andThen_ok, Bool.false_eq_true, if_false, hv', Sem.run_pure]
def fieldx (P : Program) (t : TypeId) (x : AV) (f : Nat) (k : AV → Prop) : Prop :=
  match x with
  | .agg l => ∃ q, fieldT P t f = some q ∧ partx P q.2 l q.1 k
  | _ => False
theorem fieldx_ok {t : TypeId} {x : AV} {f : Nat} {k : AV → Prop} (h : fieldx P t x f k) {u : Value} (h1 : Den H B x u) :
    ∃ v av, (∀ w', (Instr.field t u f).run P w' = .ok v w') ∧ Den H B av v ∧ k av := by
  unfold fieldx at h
  split at h
  · obtain ⟨q, hq, h⟩ := h
    simp only [Den] at h1
    obtain ⟨cs, rfl, hd⟩ := h1
    obtain ⟨fs, g, hu, hg, e1, e2⟩ := fieldT_some (show fieldT P t f = some (q.1, q.2) from hq)
    obtain ⟨v, av, hr, hdv, hk⟩ := partx_ok h hd
    refine ⟨v, av, fun w' => ?_, hdv, hk⟩
    simp only [Instr.field, Sem.run_bind, run_underlying hu, Result.andThen_ok, hg, asAgg, Sem.run_pure, e1, e2, hr]
  · exact h.elim
def indexx (P : Program) (t : TypeId) (x i : AV) (k : AV → Prop) : Prop :=
  match x, i with
  | .agg l, .int _ i => ∃ q, arrT P t = some q ∧ ∃ s, sizeT P q.2 = some s ∧ (0 ≤ i ∧ i < q.1) ∧ partx P q.2 l (i.toNat * s) k
  | .str s, .int _ i => isStrT P t = true ∧ 0 ≤ i ∧ i.toNat < s.data.toList.length ∧ k (.int .u8 ((s.data.toList.getD i.toNat 0).toNat : Int))
  | _, _ => False
theorem indexx_ok {t : TypeId} {x i : AV} {k : AV → Prop} (h : indexx P t x i k) {u1 u2 : Value} (h1 : Den H B x u1) (h2 : Den H B i u2) :
    ∃ v av, (∀ w', (Instr.index t u1 u2).run P w' = .ok v w') ∧ Den H B av v ∧ k av := by
  unfold indexx at h
  split at h
  · obtain ⟨q, hq, s, hs, hb, h⟩ := h
    simp only [Den] at h1 h2
    obtain ⟨cs, rfl, hd⟩ := h1; subst h2
    obtain ⟨v, av, hr, hdv, hk⟩ := partx_ok h hd
    refine ⟨v, av, fun w' => ?_, hdv, hk⟩
    simp only [Instr.index, asIntOf, Sem.run_bind, Sem.run_pure, Result.andThen_ok, run_underlying (arrT_some hq)]
    rw [if_pos hb]
    simp only [Sem.run_bind, sizeT_run hs, Result.andThen_ok, hr]
  · rename_i s _ i
    obtain ⟨ht, h0, hlt, h⟩ := h
    simp only [Den] at h1 h2
    subst h1; subst h2
    refine give_int h fun w' => ?_
    have hb : s[i.toNat]? = some (s.data.toList.getD i.toNat 0) := by
      have : i.toNat < s.size := by simpa using hlt
      rw [getElem?_pos s i.toNat this]
      simp [List.getD_eq_getElem?_getD, List.getElem?_eq_getElem hlt]
      rfl
    simp only [Instr.index, asIntOf, Sem.run_bind, Sem.run_pure, Result.andThen_ok, run_underlying (isStrT_some ht)]
    rw [if_pos h0, hb]
    rfl
  · exact h.elim

/-! slicing -/
def loI : Option AV → Option Int
  | none => some 0
  | some (.int _ i) => some i
  | _ => none
def hiI (d : Int) : Option AV → Option Int
  | none => some d
  | some (.int _ i) => some i
  | _ => none
def slcx (P : Program) (t : TypeId) (x : AV) (lo hi : Option AV) (k : AV → Prop) : Prop :=
  match x with
  | .sl n off len cap => ∃ e, elemT P t = some e ∧ ∃ s, sizeT P e = some s ∧ ∃ l, loI lo = some l ∧ ∃ h, hiI len hi = some h ∧ (0 ≤ l ∧ l ≤ h ∧ h ≤ cap) ∧ k (.sl n (off + l.toNat * s) (h.toNat - l.toNat) (cap - l.toNat))
  | .nils => ∃ e, elemT P t = some e ∧ ∃ s, sizeT P e = some s ∧ loI lo = some 0 ∧ hiI 0 hi = some 0 ∧ k .nils
  | .ro len xs => ∃ e, elemT P t = some e ∧ ∃ s, sizeT P e = some s ∧ ∃ l, loI lo = some l ∧ ∃ h, hiI len hi = some h ∧ (0 ≤ l ∧ l ≤ h ∧ h ≤ len) ∧ k (.ro (h.toNat - l.toNat) ((xs.drop (l.toNat * s)).take ((h.toNat - l.toNat) * s)))
  | .ptr n off => ∃ q, arrT P t = some q ∧ ∃ s, sizeT P q.2 = some s ∧ ∃ l, loI lo = some l ∧ ∃ h, hiI q.1 hi = some h ∧ (0 ≤ l ∧ l ≤ h ∧ h ≤ q.1) ∧ k (.sl n (off + l.toNat * s) (h.toNat - l.toNat) (q.1 - l.toNat))
  | .str s => isStrT P t = true ∧ ∃ l, loI lo = some l ∧ ∃ h, hiI s.size hi = some h ∧ (0 ≤ l ∧ l ≤ h ∧ h ≤ s.size) ∧ k (.str (s.extract l.toNat h.toNat))
  | _ => False
theorem lo_form {lo : Option AV} {l : Int} (h : loI lo = some l) {u : Option Value} (hu : ∀ a, lo = some a → ∃ v, u = some v ∧ Den H B a v) (hn : lo = none → u = none) : (u = none ∧ l = 0) ∨ ∃ k, u = some (.int k l) := by
  unfold loI at h
  split at h
  · cases h; exact .inl ⟨hn rfl, rfl⟩
  · cases h
    obtain ⟨v, rfl, hd⟩ := hu _ rfl
    simp only [Den] at hd
    subst hd
    exact .inr ⟨_, rfl⟩
  · cases h
theorem hi_form {hi : Option AV} {d : Int} {l : Int} (h : hiI d hi = some l) {u : Option Value} (hu : ∀ a, hi = some a → ∃ v, u = some v ∧ Den H B a v) (hn : hi = none → u = none) : (u = none ∧ l = d) ∨ ∃ k, u = some (.int k l) := by
  unfold hiI at h
  split at h
  · cases h; exact .inl ⟨hn rfl, rfl⟩
  · cases h
    obtain ⟨v, rfl, hd⟩ := hu _ rfl
    simp only [Den] at hd
    subst hd
    exact .inr ⟨_, rfl⟩
  · cases h
theorem bound_int (k : IntKind) {l : Int} {y : Nat} (c : BoundsCode) (hb : 0 ≤ l ∧ l ≤ y) (w' : World) : (Instr.sliceBound (.int k l) y c).run P w' = .ok l.toNat w' := by
  simp only [Instr.sliceBound, asIntOf, Sem.run_bind, Sem.run_pure, Result.andThen_ok, if_pos hb]
theorem bounds_ok {lo hi : Option AV} {l h : Int} {d y : Nat} (hl : loI lo = some l) (hh : hiI d hi = some h) {u1 u2 : Option Value} (h1 : ∀ a, lo = some a → ∃ v, u1 = some v ∧ Den H B a v) (n1 : lo = none → u1 = none)
    (h2 : ∀ a, hi = some a → ∃ v, u2 = some v ∧ Den H B a v) (n2 : hi = none → u2 = none) (hb : 0 ≤ l ∧ l ≤ h ∧ h ≤ y) (b : Bool) (w' : World) :
    (Instr.sliceBounds b d y u1 u2 none).run P w' = .ok (l.toNat, h.toNat, y) w' := by
  rcases lo_form hl h1 n1 with ⟨rfl, rfl⟩ | ⟨k1, rfl⟩ <;> rcases hi_form hh h2 n2 with ⟨rfl, rfl⟩ | ⟨k2, rfl⟩ <;> unfold Instr.sliceBounds
  · simp
  · simp [bound_int k2 _ (show 0 ≤ h ∧ h ≤ (y : Int) from by omega)]
  · simp [bound_int k1 _ (show 0 ≤ l ∧ l ≤ (d : Int) from by omega)]
  · simp [bound_int k2 _ (show 0 ≤ h ∧ h ≤ (y : Int) from by omega), bound_int k1 (y := h.toNat) _ (show 0 ≤ l ∧ l ≤ (h.toNat : Int) from by omega)]
theorem slcx_ok {t : TypeId} {x : AV} {lo hi : Option AV} {k : AV → Prop} (h : slcx P t x lo hi k) {u : Value} (hu : Den H B x u) {u1 u2 : Option Value} (h1 : ∀ a, lo = some a → ∃ v, u1 = some v ∧ Den H B a v) (n1 : lo = none → u1 = none)
    (h2 : ∀ a, hi = some a → ∃ v, u2 = some v ∧ Den H B a v) (n2 : hi = none → u2 = none) :
    ∃ v av, (∀ w', (Instr.sliceAt t u u1 u2 none).run P w' = .ok v w') ∧ Den H B av v ∧ k av := by
  unfold slcx at h
  split at h
  · obtain ⟨e, he, s, hs, l, hl, g, hg, hb, h⟩ := h
    simp only [Den] at hu
    obtain ⟨b, a, hb1, rfl, hle, ha⟩ := hu
    rename_i n off len cap
    refine ⟨.slice (some (if cap = l.toNat then a else a.add (l.toNat * s))) (g.toNat - l.toNat) (cap - l.toNat), _, fun w' => ?_, ?_, h⟩
    · simp only [Instr.sliceAt, Sem.run_bind, run_underlying (elemT_some he), Result.andThen_ok, Instr.slice, bounds_ok hl hg h1 n1 h2 n2 hb true w', sizeT_run hs, Sem.run_pure]
      by_cases hc : cap = l.toNat
      · simp only [if_pos hc]
      · simp only [if_neg hc, Option.map_some]
    · 
      simp only [Den]
      by_cases hc : cap = l.toNat
      · rw [if_pos hc]; exact ⟨b, a, hb1, rfl, by omega, fun h0 => absurd h0 (by omega)⟩
      · rw [if_neg hc]
        have := ha (by omega)
        subst this
        exact ⟨b, _, hb1, rfl, by omega, fun _ => by rw [Addr.add_mid]⟩
  · obtain ⟨e, he, s, hs, hl, hg, h⟩ := h
    simp only [Den] at hu
    subst hu
    refine ⟨.slice none 0 0, _, fun w' => ?_, ?_, h⟩
    · simp only [Instr.sliceAt, Sem.run_bind, run_underlying (elemT_some he), Result.andThen_ok, Instr.slice, bounds_ok (d := 0) (y := 0) hl hg h1 n1 h2 n2 (by omega) true w', sizeT_run hs, Sem.run_pure]
      rfl
    · simp only [Den]
  · rename_i len xs
    obtain ⟨e, he, s, hs, l, hl, g, hg, hb, h⟩ := h
    simp only [Den] at hu
    obtain ⟨A, cap, rfl, hle, hd⟩ := hu
    refine ⟨.slice (if cap = l.toNat then A else A.map (·.add (l.toNat * s))) (g.toNat - l.toNat) (cap - l.toNat), _, fun w' => ?_, ?_, h⟩
    · simp only [Instr.sliceAt, Sem.run_bind, run_underlying (elemT_some he), Result.andThen_ok, Instr.slice, bounds_ok (y := cap) hl hg h1 n1 h2 n2 (by omega) true w', sizeT_run hs, Sem.run_pure]
    · simp only [Den]
      refine ⟨_, _, rfl, by omega, DenAt.of_get fun j x hx => ?_⟩
      have hj := (List.getElem?_eq_some_iff.1 hx).1
      simp only [List.length_take] at hj
      have hj1 : j < (g.toNat - l.toNat) * s := by omega
      have hpos : 0 < g.toNat - l.toNat := by
        rcases Nat.eq_zero_or_pos (g.toNat - l.toNat) with h0 | h0
        · rw [h0] at hj1; omega
        · exact h0
      rw [if_neg (by omega)]
      rw [List.getElem?_take, if_pos hj1, List.getElem?_drop] at hx
      obtain ⟨a, v, rfl, h3, h4⟩ := hd.get _ x hx
      exact ⟨_, v, rfl, by rw [add_add']; simpa using h3, h4⟩
  · obtain ⟨q, hq, s, hs, l, hl, g, hg, hb, h⟩ := h
    simp only [Den] at hu
    obtain ⟨b, hb1, rfl⟩ := hu
    rename_i n off
    refine ⟨.slice (some (if q.1 = l.toNat then ⟨b, off, none⟩ else (⟨b, off, none⟩ : Addr).add (l.toNat * s))) (g.toNat - l.toNat) (q.1 - l.toNat), _, fun w' => ?_, ?_, h⟩
    · simp only [Instr.sliceAt, Sem.run_bind, run_underlying (arrT_some hq), Result.andThen_ok, Instr.sureAddr, Sem.run_pure, bounds_ok hl hg h1 n1 h2 n2 hb false w', sizeT_run hs]
    · simp only [Den]
      by_cases hc : q.1 = l.toNat
      · rw [if_pos hc]; exact ⟨b, _, hb1, rfl, by omega, fun h0 => absurd h0 (by omega)⟩
      · rw [if_neg hc]; exact ⟨b, _, hb1, rfl, by omega, fun _ => by rw [Addr.add_mid]⟩
  · obtain ⟨ht, l, hl, g, hg, hb, h⟩ := h
    simp only [Den] at hu
    subst hu
    rename_i s
    refine ⟨.string (s.extract l.toNat g.toNat), _, fun w' => ?_, ?_, h⟩
    · simp only [Instr.sliceAt, Sem.run_bind, run_underlying (isStrT_some ht), Result.andThen_ok, Instr.slice, Option.isSome_none, Bool.false_eq_true, if_false, Sem.run_pure]
      simp only [bounds_ok hl hg h1 n1 h2 n2 hb false w', Result.andThen_ok, Sem.run_pure]
    · simp only [Den]
  · exact h.elim
end
end Go.Eng
end
section
/- The engine, part 4: all operations that read and yield a value, as one. Own work. -/
set_option linter.unusedVariables false
set_option linter.unusedSimpArgs false
namespace Go.Eng
open Go

def byv (b : UInt8) : AV := .int .u8 (b.toNat : Int)
def u8s : List AV → Option (List UInt8)
  | [] => some []
  | .int .u8 n :: r => if 0 ≤ n ∧ n < 256 then (u8s r).map (UInt8.ofNat n.toNat :: ·) else none
  | _ => none
theorem u8s_map (l : List UInt8) : u8s (l.map byv) = some l := by
  induction l with
  | nil => rfl
  | cons b r ih =>
    have h := b.toNat_lt
    show (if (0 : Int) ≤ (b.toNat : Int) ∧ (b.toNat : Int) < 256 then (u8s (r.map byv)).map (UInt8.ofNat (b.toNat : Int).toNat :: ·) else none) = _
    rw [if_pos ⟨by omega, by omega⟩, ih]
    simp
theorem u8s_get : ∀ {l : List AV} {bs : List UInt8}, u8s l = some bs → bs.length = l.length ∧ ∀ (i : Nat) (h : i < bs.length), l[i]? = some (.int .u8 (bs[i].toNat : Int))
  | [], bs, h => by simp [u8s] at h; subst h; exact ⟨rfl, fun i h => by simp at h⟩
  | x :: r, bs, h => by
    unfold u8s at h
    split at h
    · rename_i e; cases e
    · rename_i n r' e
      cases e
      split at h
      · rename_i hn
        obtain ⟨bs', hb, rfl⟩ := Option.map_eq_some_iff.1 h
        obtain ⟨h1, h2⟩ := u8s_get hb
        refine ⟨by simp [h1], fun i hi => ?_⟩
        cases i with
        | zero =>
          simp
          omega
        | succ i => simpa using h2 i (by simpa using hi)
      · cases h
    · cases h

section
variable {P : Program} {w0 w : World} {FP : Nat → Prop} {wr rd : Nat → Bool} {m : Mem} {nx : Nat} {H : RO} {B : Names} {N : Nat} {t : Slots} {a : Act}

def convx (P : Program) (rd : Nat → Bool) (m : Mem) (src dst : TypeId) (x : AV) (k : AV → Prop) : Prop :=
  match x with
  | .int _ n => ∃ q, intT P dst = some q ∧ known P src = true ∧ k (.int q (q.wrap n))
  | .str s => isStrT P dst = true ∧ isStrT P src = true ∧ k (.str s)
  | .sl n off len cap => match look m n with
    | some (.cells l _) => rd n = true ∧ ∃ e, elemT P src = some e ∧ intT P e = some .u8 ∧ isStrT P dst = true ∧ off + len ≤ l.length ∧ ∃ bs, u8s ((l.drop off).take len) = some bs ∧ k (.str ⟨bs.toArray⟩)
    | _ => False
  | .nils => ∃ e, elemT P src = some e ∧ intT P e = some .u8 ∧ isStrT P dst = true ∧ k (.str ⟨#[]⟩)
  | .ro len xs => ∃ e, elemT P src = some e ∧ intT P e = some .u8 ∧ isStrT P dst = true ∧ len ≤ xs.length ∧ ∃ bs, u8s (xs.take len) = some bs ∧ k (.str ⟨bs.toArray⟩)
  | _ => False
theorem convx_ok (hi : Inv w0 FP wr m nx H B w) {src dst : TypeId} {x : AV} {k : AV → Prop} (h : convx P rd m src dst x k) {u : Value} (hu : Den H B x u) :
    ∃ v av, (∀ w', Sees H B m rd w w' → (convert src dst u).run P w' = .ok v w') ∧ Den H B av v ∧ k av := by
  unfold convx at h
  split at h
  · rename_i q0 n
    obtain ⟨q, hq, hk, h⟩ := h
    simp only [Den] at hu
    subst hu
    obtain ⟨d, hd⟩ := Option.isSome_iff_exists.1 hk
    refine ⟨.int q (q.wrap n), _, fun w' _ => ?_, by simp only [Den], h⟩
    simp [convert, run_underlying hd, run_underlying (intT_some hq), Conv.intToInt]
  · rename_i s
    obtain ⟨hd, hs, h⟩ := h
    simp only [Den] at hu
    subst hu
    refine ⟨.string s, _, fun w' _ => ?_, by simp only [Den], h⟩
    simp [convert, run_underlying (isStrT_some hs), run_underlying (isStrT_some hd)]
  · rename_i n off len cap
    split at h
    · rename_i l ty hn
      obtain ⟨hrd, e, he, hq, hd, hle, bs, hbs, h⟩ := h
      obtain ⟨hlen, hget⟩ := u8s_get hbs
      have hlen' : bs.length = len := by rw [hlen]; simp; omega
      simp only [Den] at hu
      obtain ⟨b, ad, hb, rfl, hlc, had⟩ := hu
      obtain ⟨b', cs, hb', hc, hdn⟩ := obj_cells hi hn
      rw [hb] at hb'; injection hb' with hb'; subst hb'
      refine ⟨.string ⟨bs.toArray⟩, _, fun w' hw => ?_, by simp only [Den], h⟩
      subst hlen'
      refine run_convert_bytes_back w' src dst e ad cap bs (elemT_some he) (intT_some hq) (isStrT_some hd) fun j hj => ?_
      have hcz : cap ≠ 0 := by omega
      rw [had hcz, Addr.add_mid, cell_at w' ((hw.obj n _ b hn hrd hb).trans hc)]
      have h1 := hget j hj
      rw [List.getElem?_take, if_pos (by omega), List.getElem?_drop] at h1
      obtain ⟨v, hv, hdv⟩ := hdn.get _ _ h1
      simp only [Den] at hdv
      rw [hv, hdv]
    · exact h.elim
  · obtain ⟨e, he, hq, hd, h⟩ := h
    simp only [Den] at hu
    subst hu
    refine ⟨.string ByteArray.empty, _, fun w' hw => run_convert_bytes_nil w' src e (elemT_some he) (intT_some hq) 0 0 dst (isStrT_some hd), by simp only [Den]; rfl, h⟩
  · rename_i len xs
    obtain ⟨e, he, hq, hd, hle, bs, hbs, h⟩ := h
    obtain ⟨hlen, hget⟩ := u8s_get hbs
    have hlen' : bs.length = len := by rw [hlen]; simp; omega
    simp only [Den] at hu
    obtain ⟨A, cap, rfl, hlc, hda⟩ := hu
    cases A with
    | none =>
      have h0 : bs = [] := by
        cases bs with
        | nil => rfl
        | cons b r =>
          have h1 := hget 0 (by simp)
          rw [List.getElem?_take] at h1
          split at h1
          · obtain ⟨a, v, e, _⟩ := hda.get 0 _ h1; cases e
          · cases h1
      subst h0
      refine ⟨.string ByteArray.empty, _, fun w' hw => run_convert_bytes_nil w' src e (elemT_some he) (intT_some hq) _ _ dst (isStrT_some hd), by simp only [Den]; rfl, h⟩
    | some ad =>
      refine ⟨.string ⟨bs.toArray⟩, _, fun w' hw => ?_, by simp only [Den], h⟩
      subst hlen'
      refine run_convert_bytes_back w' src dst e ad cap bs (elemT_some he) (intT_some hq) (isStrT_some hd) fun j hj => ?_
      have h1 := hget j hj
      rw [List.getElem?_take, if_pos (by omega)] at h1
      obtain ⟨a, v, e, hv, hdv⟩ := hda.get j _ h1
      cases e
      rw [Nat.zero_add] at hv
      simp only [Den] at hdv
      rw [hw.ro _ _ hv, hdv]
  · exact h.elim

def lenx (P : Program) (ty : TypeId) (x : AV) (k : AV → Prop) : Prop :=
  match x with
  | .sl _ _ len _ => (elemT P ty).isSome = true ∧ k (.int .i64 len)
  | .nils => (elemT P ty).isSome = true ∧ k (.int .i64 0)
  | .ro len _ => (elemT P ty).isSome = true ∧ k (.int .i64 len)
  | .str s => isStrT P ty = true ∧ k (.int .i64 s.size)
  | .agg _ => ∃ q, arrT P ty = some q ∧ k (.int .i64 q.1)
  | _ => False
theorem lenx_ok {ty ty' : TypeId} {x : AV} {k : AV → Prop} (h : lenx P ty x k) {u : Value} (hu : Den H B x u) :
    ∃ v av, (∀ w', (Builtin.len_ #[ty] ty' #[u]).run P w' = .ok v w') ∧ Den H B av v ∧ k av := by
  unfold lenx at h
  split at h
  · obtain ⟨he, h⟩ := h
    obtain ⟨e, he⟩ := Option.isSome_iff_exists.1 he
    simp only [Den] at hu
    obtain ⟨b, a, hb, rfl, hl⟩ := hu
    exact give_int h fun w' => by simp [Builtin.len_, run_underlying (elemT_some he), goInt]
  · obtain ⟨he, h⟩ := h
    obtain ⟨e, he⟩ := Option.isSome_iff_exists.1 he
    simp only [Den] at hu
    subst hu
    exact give_int h fun w' => by simp [Builtin.len_, run_underlying (elemT_some he), goInt]
  · obtain ⟨he, h⟩ := h
    obtain ⟨e, he⟩ := Option.isSome_iff_exists.1 he
    simp only [Den] at hu
    obtain ⟨A, c, rfl, hl⟩ := hu
    exact give_int h fun w' => by simp [Builtin.len_, run_underlying (elemT_some he), goInt]
  · obtain ⟨he, h⟩ := h
    simp only [Den] at hu
    subst hu
    exact give_int h fun w' => by simp [Builtin.len_, run_underlying (isStrT_some he), goInt]
  · obtain ⟨q, he, h⟩ := h
    simp only [Den] at hu
    obtain ⟨cs, rfl, hl⟩ := hu
    exact give_int h fun w' => by simp [Builtin.len_, run_underlying (arrT_some he), goInt]
  · exact h.elim
def mmI (mx : Bool) : Int → List AV → Option Int
  | x, [] => some x
  | x, .int _ y :: r => mmI mx (if mx then (if y > x then y else x) else (if y < x then y else x)) r
  | _, _ => none
def mmx (mx : Bool) (l : List AV) (k : AV → Prop) : Prop :=
  match l with
  | .int q x :: r => ∃ y, mmI mx x r = some y ∧ k (.int q y)
  | _ => False
theorem min_ok : ∀ {r : List AV} {vs : List Value} {x y : Int} (q : IntKind), mmI false x r = some y → DenL H B r vs → ∀ w', (vs.foldlM Builtin.min2 (.int q x) : Sem Value).run P w' = .ok (.int q y) w'
  | [], vs, x, y, q, h, hd, w' => by simp only [DenL] at hd; subst hd; simp [mmI] at h; subst h; rfl
  | .int q' z :: r, vs, x, y, q, h, hd, w' => by
    simp only [DenL, Den] at hd
    obtain ⟨v, s, rfl, rfl, hd⟩ := hd
    simp only [List.foldlM_cons, Builtin.min2, Sem.run_bind, Sem.run_pure, Result.andThen_ok]
    exact min_ok q (by simpa [mmI] using h) hd w'
theorem max_ok : ∀ {r : List AV} {vs : List Value} {x y : Int} (q : IntKind), mmI true x r = some y → DenL H B r vs → ∀ w', (vs.foldlM Builtin.max2 (.int q x) : Sem Value).run P w' = .ok (.int q y) w'
  | [], vs, x, y, q, h, hd, w' => by simp only [DenL] at hd; subst hd; simp [mmI] at h; subst h; rfl
  | .int q' z :: r, vs, x, y, q, h, hd, w' => by
    simp only [DenL, Den] at hd
    obtain ⟨v, s, rfl, rfl, hd⟩ := hd
    simp only [List.foldlM_cons, Builtin.max2, Sem.run_bind, Sem.run_pure, Result.andThen_ok]
    exact max_ok q (by simpa [mmI] using h) hd w'
def evs (t : Slots) : List Operand → Option (List AV)
  | [] => some []
  | x :: r => match evx t x, evs t r with
    | some v, some s => some (v :: s)
    | _, _ => none
theorem evs_ok (hs : SlotsOk N H B t a) : ∀ {l : List Operand} {vs : List AV}, evs t l = some vs → DenL H B vs (l.map a.eval)
  | [], vs, h => by simp [evs] at h; subst h; simp [DenL]
  | x :: r, vs, h => by
    unfold evs at h
    split at h
    · rename_i v s h1 h2
      cases h
      simp only [List.map_cons, DenL]
      exact ⟨_, _, rfl, evx_ok hs h1, evs_ok hs h2⟩
    · cases h
def withl (o : Option (List AV)) (k : List AV → Prop) : Prop := match o with | some v => k v | none => False
theorem withl_some (v : List AV) (k : List AV → Prop) : withl (some v) k = k v := rfl
theorem withl_elim {o : Option (List AV)} {k : List AV → Prop} (h : withl o k) : ∃ v, o = some v ∧ k v := by
  cases o with
  | none => exact h.elim
  | some v => exact ⟨v, rfl, h⟩
def bltx (P : Program) (b : Builtin) (ts : Array TypeId) (l : List AV) (k : AV → Prop) : Prop :=
  match b with
  | .len => match ts.toList, l with
    | [ty], [x] => lenx P ty x k
    | _, _ => False
  | .min => mmx false l k
  | .max => mmx true l k
  | _ => False
theorem bltx_ok {b : Builtin} {ts : Array TypeId} {l : List AV} {k : AV → Prop} (h : bltx P b ts l k) {vs : List Value} (hd : DenL H B l vs) (ty : TypeId) (cc : Array Bool) :
    ∃ v av, (∀ w', (builtin b ts ty cc vs.toArray).run P w' = .ok (.value v) w') ∧ Den H B av v ∧ k av := by
  unfold bltx at h
  split at h
  · split at h
    · rename_i ty' x hts
      simp only [DenL] at hd
      obtain ⟨u, s, rfl, hu, rfl⟩ := hd
      obtain ⟨v, av, hr, hdv, hk⟩ := lenx_ok (ty' := ty) h hu
      have hts' : ts = #[ty'] := by rw [← Array.toArray_toList (xs := ts), hts]
      subst hts'
      refine ⟨v, av, fun w' => ?_, hdv, hk⟩
      simp only [builtin, Sem.run_bind, hr, Result.andThen_ok, Sem.run_pure]
    · exact h.elim
  · unfold mmx at h
    split at h
    · rename_i q x r
      obtain ⟨y, hy, h⟩ := h
      simp only [DenL, Den] at hd
      obtain ⟨u, s, rfl, rfl, hd⟩ := hd
      refine ⟨.int q y, _, fun w' => ?_, by simp only [Den], h⟩
      simp only [builtin, Sem.run_bind, Builtin.min_, min_ok q hy hd, Result.andThen_ok, Sem.run_pure]
    · exact h.elim
  · unfold mmx at h
    split at h
    · rename_i q x r
      obtain ⟨y, hy, h⟩ := h
      simp only [DenL, Den] at hd
      obtain ⟨u, s, rfl, rfl, hd⟩ := hd
      refine ⟨.int q y, _, fun w' => ?_, by simp only [Den], h⟩
      simp only [builtin, Sem.run_bind, Builtin.max_, max_ok q hy hd, Result.andThen_ok, Sem.run_pure]
    · exact h.elim
  · exact h.elim

/-! build -/
def setMany (l : List AV) (off : Nat) : List AV → List AV
  | [] => l
  | v :: r => setMany (l.set off v) (off + 1) r
def fillA (place : Nat → Option (Nat × Nat)) (cells : List AV) : List (Nat × AV) → Option (List AV)
  | [] => some cells
  | (i, v) :: rest => match place i with
    | none => none
    | some (off, size) => if isTup v = false ∧ (acells v).length = size ∧ off + (acells v).length ≤ cells.length then fillA place (setMany cells off (acells v)) rest else none
theorem setMany_den : ∀ {vs : List AV} {us : List Value} {l : List AV} {cs : List Value} {off : Nat}, DenL H B vs us → DenL H B l cs → ∀ j, DenL H B (setMany l (off + j) vs) (us.zipIdx j |>.foldl (fun cs (c, i) => cs.set (off + i) c) cs)
  | [], us, l, cs, off, h1, h2, j => by simp only [DenL] at h1; subst h1; simpa [setMany] using h2
  | v :: r, us, l, cs, off, h1, h2, j => by
    simp only [DenL] at h1
    obtain ⟨u, s, rfl, hu, hr⟩ := h1
    simp only [setMany, List.zipIdx_cons, List.foldl_cons]
    exact setMany_den hr (h2.set _ hu) (j + 1)
theorem setMany_length : ∀ (vs l : List AV) (off : Nat), (setMany l off vs).length = l.length
  | [], l, off => rfl
  | v :: r, l, off => by simp [setMany, setMany_length r]
theorem foldl_toArray (us : List Value) : ∀ (j off : Nat) (cs : List Value), (us.zipIdx j).foldl (fun (cs : Array Value) (x : Value × Nat) => cs.setIfInBounds (off + x.2) x.1) cs.toArray = ((us.zipIdx j).foldl (fun (cs : List Value) (x : Value × Nat) => cs.set (off + x.2) x.1) cs).toArray := by
  induction us with
  | nil => intro j off cs; rfl
  | cons u r ih =>
    intro j off cs
    simp only [List.zipIdx_cons, List.foldl_cons, List.setIfInBounds_toArray]
    exact ih (j + 1) off _
theorem fillA_ok {place : Nat → Option (Nat × Nat)} : ∀ {parts : List (Nat × AV)} {vals : List (Nat × Value)} {l l' : List AV} {cs : List Value}, fillA place l parts = some l' → DenL H B l cs →
    vals.length = parts.length → (∀ (j i : Nat) (x : AV) (u : Value) (i' : Nat), parts[j]? = some (i, x) → vals[j]? = some (i', u) → i' = i ∧ Den H B x u) → ∃ cs', Instr.fill place cs.toArray vals = some cs'.toArray ∧ DenL H B l' cs'
  | [], vals, l, l', cs, h, hd, hl, hv => by
    have : vals = [] := List.eq_nil_of_length_eq_zero (by simpa using hl)
    subst this
    simp [fillA] at h
    subst h
    exact ⟨cs, rfl, hd⟩
  | (i, x) :: rest, [], l, l', cs, h, hd, hl, hv => by simp at hl
  | (i, x) :: rest, (i', u) :: vr, l, l', cs, h, hd, hl, hv => by
    obtain ⟨rfl, hu⟩ := hv 0 i x u i' rfl rfl
    unfold fillA at h
    split at h
    · cases h
    · rename_i off size hp
      split at h
      · rename_i hc
        obtain ⟨ht, h1, h2⟩ := hc
        have hcells := den_cells hu ht
        have hsz : u.cells.size = size := by rw [← Array.length_toList, hcells.length]; exact h1
        have hz : Array.zipIdx u.cells = (u.cells.toList.zipIdx).toArray := by
          apply Array.ext'
          simp
        have hstep : (u.cells.zipIdx.foldl (fun cs (x : Value × Nat) => cs.setIfInBounds (off + x.2) x.1) cs.toArray) = ((u.cells.toList.zipIdx).foldl (fun (cs : List Value) (x : Value × Nat) => cs.set (off + x.2) x.1) cs).toArray := by
          rw [hz, List.foldl_toArray']
          exact foldl_toArray _ 0 off cs
          rfl
        have hnew := setMany_den (off := off) hcells hd 0
        obtain ⟨cs', h3, h4⟩ := fillA_ok (vals := vr) h hnew (by simpa using hl) fun j i2 x2 u2 i3 e1 e2 => hv (j + 1) i2 x2 u2 i3 (by simpa using e1) (by simpa using e2)
        refine ⟨cs', ?_, h4⟩
        simp only [Instr.fill, hp]
        rw [if_neg (by
          have hl1 := hd.length
          have hl2 := hcells.length
          simp only [Bool.or_eq_true, decide_eq_true_eq, not_or, List.size_toArray, ne_eq, Decidable.not_not]
          rw [Array.length_toList] at hl2
          refine ⟨by simpa using hsz, by omega⟩)]
        show Instr.fill place (u.cells.zipIdx.foldl (fun cs (x : Value × Nat) => cs.setIfInBounds (off + x.2) x.1) cs.toArray) vr = _
        rw [hstep]
        exact h3
      · cases h
def evp (t : Slots) : List (Nat × Operand) → Option (List (Nat × AV))
  | [] => some []
  | (i, x) :: r => match evx t x, evp t r with
    | some v, some s => some ((i, v) :: s)
    | _, _ => none
theorem evp_ok (hs : SlotsOk N H B t a) : ∀ {l : List (Nat × Operand)} {vs : List (Nat × AV)}, evp t l = some vs → l.length = vs.length ∧ ∀ (j i : Nat) (x : AV) (u : Value) (i' : Nat), vs[j]? = some (i, x) → (l.map fun p => (p.1, a.eval p.2))[j]? = some (i', u) → i' = i ∧ Den H B x u
  | [], vs, h => by simp [evp] at h; subst h; exact ⟨rfl, fun j i x u i' e => by simp at e⟩
  | (i0, x0) :: r, vs, h => by
    unfold evp at h
    split at h
    · rename_i v s h1 h2
      cases h
      obtain ⟨h3, h4⟩ := evp_ok hs h2
      refine ⟨by simp [h3], fun j i x u i' e1 e2 => ?_⟩
      cases j with
      | zero => simp at e1 e2; obtain ⟨rfl, rfl⟩ := e1; obtain ⟨rfl, rfl⟩ := e2; exact ⟨rfl, evx_ok hs h1⟩
      | succ j => exact h4 j i x u i' (by simpa using e1) (by simpa using e2)
    · cases h
/-- where a part of a struct's or an array's value lies -/
def placesT (P : Program) (ty : TypeId) : Option (List (Nat × Nat)) :=
  match P.underlying ty with
  | some (.struct fs) => fs.toList.mapM fun f => (sizeT P f.type).map fun s => (f.offset, s)
  | _ => none
def buildx (P : Program) (ty : TypeId) (parts : List (Nat × AV)) (k : AV → Prop) : Prop :=
  ∃ z, zav P ty = some z ∧
  match placesT P ty, arrT P ty with
  | some ps, _ => ∃ l, fillA (fun i => ps[i]?) z parts = some l ∧ k (.agg l)
  | none, some q => ∃ s, sizeT P q.2 = some s ∧ ∃ l, fillA (fun i => some (i * s, s)) z parts = some l ∧ k (.agg l)
  | none, none => False
theorem mapM_run {f : Field → Sem (Nat × Nat)} {g : Field → Option (Nat × Nat)} (hf : ∀ x y, g x = some y → ∀ w', (f x).run P w' = .ok y w') : ∀ {l : List Field} {ps : List (Nat × Nat)}, l.mapM g = some ps → ∀ w', (l.mapM f).run P w' = .ok ps w'
  | [], ps, h, w' => by simp at h; subst h; rfl
  | x :: r, ps, h, w' => by
    simp only [List.mapM_cons, Option.pure_def, Option.bind_eq_bind, Option.bind_eq_some_iff] at h
    obtain ⟨y, hy, s, hs, e⟩ := h
    cases e
    simp only [List.mapM_cons, Sem.run_bind, hf x y hy, Result.andThen_ok, mapM_run hf hs, Sem.run_pure]
theorem buildx_ok {ty : TypeId} {parts : List (Nat × AV)} {k : AV → Prop} (h : buildx P ty parts k) {vals : List (Nat × Value)} (hl : vals.length = parts.length)
    (hv : ∀ (j i : Nat) (x : AV) (u : Value) (i' : Nat), parts[j]? = some (i, x) → vals[j]? = some (i', u) → i' = i ∧ Den H B x u) :
    ∃ v av, (∀ w', (Instr.build ty vals.toArray).run P w' = .ok v w') ∧ Den H B av v ∧ k av := by
  obtain ⟨z, hz, h⟩ := h
  split at h
  · rename_i ps hps
    obtain ⟨l, hl', h⟩ := h
    unfold placesT at hps
    split at hps
    · rename_i fs hu
      obtain ⟨v0, hv0, hd0⟩ := zav_run hz default H B
      obtain ⟨cs', h1, h2⟩ := fillA_ok hl' hd0 hl hv
      refine ⟨.agg cs'.toArray, _, fun w' => ?_, by simp only [Den]; exact ⟨_, rfl, h2⟩, h⟩
      obtain ⟨v1, hv1, hd1⟩ := zav_run hz w' H B
      have hzz : v1 = v0 := by
        unfold zav at hz
        obtain ⟨vv, hvv, _⟩ := Option.map_eq_some_iff.1 hz
        obtain ⟨i, hi, hzz⟩ := Option.bind_eq_some_iff.1 hvv
        simp [zeroValue, typeInfo, hi, hzz] at hv0 hv1
        rw [← hv0, ← hv1]
      subst hzz
      have hm : (fs.mapM fun f => do pure (f.offset, ← sizeOf f.type) : Sem (Array (Nat × Nat))).run P w' = .ok ps.toArray w' := by
        rw [← Array.toArray_toList (xs := fs), List.mapM_toArray, Sem.run_map]
        rw [mapM_run (g := fun f => (sizeT P f.type).map fun s => (f.offset, s)) (fun x y hy w'' => by
          obtain ⟨s, hs, rfl⟩ := Option.map_eq_some_iff.1 hy
          simp only [Sem.run_bind, sizeT_run hs, Result.andThen_ok, Sem.run_pure]) (by simpa using hps) w']
        rfl
      have h1' : Instr.fill (fun (i : Nat) => ps.toArray[i]?) v1.cells vals = some cs'.toArray := by
        have : (fun (i : Nat) => ps.toArray[i]?) = (fun (i : Nat) => ps[i]?) := by funext i; simp
        rw [this]
        simpa using h1
      simp only [Instr.build, Sem.run_bind, hv1, Result.andThen_ok, run_underlying hu, hm, h1', Sem.run_pure]
    · cases hps
  · rename_i q _ hq
    obtain ⟨s, hs, l, hl', h⟩ := h
    obtain ⟨v0, hv0, hd0⟩ := zav_run hz default H B
    obtain ⟨cs', h1, h2⟩ := fillA_ok hl' hd0 hl hv
    refine ⟨.agg cs'.toArray, _, fun w' => ?_, by simp only [Den]; exact ⟨_, rfl, h2⟩, h⟩
    obtain ⟨v1, hv1, hd1⟩ := zav_run hz w' H B
    have hzz : v1 = v0 := by
      unfold zav at hz
      obtain ⟨vv, hvv, _⟩ := Option.map_eq_some_iff.1 hz
      obtain ⟨i, hi, hzz⟩ := Option.bind_eq_some_iff.1 hvv
      simp [zeroValue, typeInfo, hi, hzz] at hv0 hv1
      rw [← hv0, ← hv1]
    subst hzz
    have h1' : Instr.fill (fun i => some (i * s, s)) v1.cells vals = some cs'.toArray := by simpa using h1
    simp only [Instr.build, Sem.run_bind, hv1, Result.andThen_ok, run_underlying (arrT_some (show arrT P ty = some (q.1, q.2) from hq)), sizeT_run hs, h1', Sem.run_pure]
  · exact h.elim

/-! all of them -/
/-- a slice's begin, taken as an array -/
def s2ax (P : Program) (ty : TypeId) (x : AV) (k : AV → Prop) : Prop := match x with
  | .sl n off len cap => ∃ q, arrT P ty = some q ∧ 0 < q.1 ∧ q.1 ≤ len ∧ k (.ptr n off)
  | .ro len xs => ∃ q, arrT P ty = some q ∧ 0 < q.1 ∧ q.1 ≤ len ∧ 0 < xs.length ∧ k (.rop xs)
  | _ => False
theorem s2ax_ok {ty : TypeId} {x : AV} {k : AV → Prop} (h : s2ax P ty x k) {u : Value} (hu : Den H B x u) : ∃ v av, (∀ w', (Instr.arrayAt ty u).run P w' = .ok v w') ∧ Den H B av v ∧ k av := by
  unfold s2ax at h
  split at h
  · rename_i n off len cap
    obtain ⟨q, hq, h0, hl, h⟩ := h
    simp only [Den] at hu
    obtain ⟨b, a, hb, rfl, hlc, ha⟩ := hu
    have ha := ha (by omega)
    subst ha
    refine ⟨.pointer (some ⟨b, off, none⟩), _, fun w' => ?_, by simp only [Den]; exact ⟨b, hb, rfl⟩, h⟩
    have hn : ¬ len < q.1 := by omega
    simp only [Instr.arrayAt, Sem.run_bind, run_underlying (arrT_some (show arrT P ty = some (q.1, q.2) from hq)), Result.andThen_ok, if_neg hn, Sem.run_pure]
  · rename_i len xs
    obtain ⟨q, hq, h0, hl, hx, h⟩ := h
    simp only [Den] at hu
    obtain ⟨A, cap, rfl, hlc, hd⟩ := hu
    obtain ⟨a, v, rfl, _⟩ := hd.get 0 _ (List.getElem?_eq_getElem hx)
    refine ⟨.pointer (some a), _, fun w' => ?_, by simp only [Den]; exact ⟨a, rfl, hd⟩, h⟩
    have hn : ¬ len < q.1 := by omega
    simp only [Instr.arrayAt, Sem.run_bind, run_underlying (arrT_some (show arrT P ty = some (q.1, q.2) from hq)), Result.andThen_ok, if_neg hn, Sem.run_pure]
  · exact h.elim
def nilx (x : AV) (k : AV → Prop) : Prop :=
  match x with
  | .ptr n o => k (.ptr n o)
  | .rop xs => k (.rop xs)
  | .fn (.func g) fi ca => k (.fn (.func g) fi ca)
  | .iface t y => k (.iface t y)
  | _ => False
theorem nilx_ok {x : AV} {k : AV → Prop} (h : nilx x k) {u : Value} (hu : Den H B x u) {o : Oper} {y : Operand} (ho : o.op = .nilCheck y) (he : a.eval y = u) :
    ∃ v av, (∀ w', (execOp a.eval o).run P w' = .ok (.value v) w') ∧ Den H B av v ∧ k av := by
  unfold nilx at h
  have hu0 := hu
  split at h
  · simp only [Den] at hu
    obtain ⟨b, hb, rfl⟩ := hu
    exact ⟨_, _, fun w' => by unfold execOp; simp only [ho, he]; rfl, hu0, h⟩
  · simp only [Den] at hu
    obtain ⟨b, rfl, hb⟩ := hu
    exact ⟨_, _, fun w' => by unfold execOp; simp only [ho, he]; rfl, hu0, h⟩
  · simp only [Den] at hu
    obtain ⟨p, q, rfl, h1, h2⟩ := hu
    exact ⟨_, _, fun w' => by unfold execOp; simp only [ho, he]; rfl, hu0, h⟩
  · simp only [Den] at hu
    obtain ⟨y, rfl, h1⟩ := hu
    exact ⟨_, _, fun w' => by unfold execOp; simp only [ho, he]; rfl, hu0, h⟩
  · exact h.elim
def rdx (P : Program) (rd : Nat → Bool) (t : Slots) (m : Mem) (op : Op) (k : AV → Prop) : Prop :=
  match op with
  | .move x => withv (evx t x) k
  | .assign x => withv (evx t x) k
  | .pick c x y => withv (evx t c) fun cv => match cv with
    | .bool q => (q = true → withv (evx t x) k) ∧ (q = false → withv (evx t y) k)
    | _ => False
  | .build ty parts => match evp t parts.toList with
    | some ps => buildx P ty ps k
    | none => False
  | .load ty p => withv (evx t p) fun v => loadx P rd m ty v k
  | .nilCheck x => withv (evx t x) fun v => nilx v k
  | .binOp op ty x y _ => withv (evx t x) fun u => withv (evx t y) fun v => binx P op ty u v k
  | .unOp op _ x => withv (evx t x) fun u => unx op u k
  | .convert s d x => withv (evx t x) fun u => convx P rd m s d u k
  | .sliceToArrayPointer ty x => withv (evx t x) fun u => s2ax P ty u k
  | .makeInterface ty x => withv (evx t x) fun u => known P ty = true ∧ isIfaceT P ty = false ∧ k (.iface ty u)
  | .makeFunc f fi ca => withl (evs t fi.toList) fun p => withl (evs t ca.toList) fun q => k (.fn f p q)
  | .slice ty x lo hi none => withv (evx t x) fun u => match lo.map (evx t), hi.map (evx t) with
    | some none, _ => False
    | _, some none => False
    | l, h => slcx P ty u l.join h.join k
  | .fieldAddr s x f => withv (evx t x) fun u => fldx P s u f k
  | .field s x f => withv (evx t x) fun u => fieldx P s u f k
  | .indexAddr ty x i => withv (evx t x) fun u => withv (evx t i) fun v => idxx P ty u v k
  | .index ty x i => withv (evx t x) fun u => withv (evx t i) fun v => indexx P ty u v k
  | .extract x i => withv (evx t x) fun u => match u with
    | .tup l => withv l[i]? k
    | _ => False
  | .call c => match c.callee with
    | .builtin b => withl (evs t c.args.toList) fun l => bltx P b c.argTypes l k
    | _ => False
  | _ => False
theorem rdx_ok (hi : Inv w0 FP wr m nx H B w) (hs : SlotsOk N H B t a) {o : Oper} {k : AV → Prop} (h : rdx P rd t m o.op k) :
    ∃ v av, (∀ w', Sees H B m rd w w' → (execOp a.eval o).run P w' = .ok (.value v) w') ∧ Den H B av v ∧ k av := by
  have up : ∀ {S : Sem Value} {k : AV → Prop}, (∀ w', Sees H B m rd w w' → (execOp a.eval o).run P w' = (do pure (.value (← S)) : Sem Next).run P w') → (∃ v av, (∀ w', Sees H B m rd w w' → S.run P w' = .ok v w') ∧ Den H B av v ∧ k av) →
      ∃ v av, (∀ w', Sees H B m rd w w' → (execOp a.eval o).run P w' = .ok (.value v) w') ∧ Den H B av v ∧ k av := by
    intro S k h1 ⟨v, av, h2, h3, h4⟩
    exact ⟨v, av, fun w' hw => by rw [h1 w' hw, Sem.run_bind, h2 w' hw]; rfl, h3, h4⟩
  have up' : ∀ {S : Sem Value} {k : AV → Prop}, (∀ w', Sees H B m rd w w' → (execOp a.eval o).run P w' = (do pure (.value (← S)) : Sem Next).run P w') → (∃ v av, (∀ w', S.run P w' = .ok v w') ∧ Den H B av v ∧ k av) →
      ∃ v av, (∀ w', Sees H B m rd w w' → (execOp a.eval o).run P w' = .ok (.value v) w') ∧ Den H B av v ∧ k av :=
    fun h1 ⟨v, av, h2, h3, h4⟩ => up h1 ⟨v, av, fun w' _ => h2 w', h3, h4⟩
  unfold rdx at h
  split at h
  · rename_i x ho
    obtain ⟨v, e, h⟩ := withv_elim h
    exact ⟨_, v, fun w' _ => by unfold execOp; simp only [ho]; rfl, evx_ok hs e, h⟩
  · rename_i x ho
    obtain ⟨v, e, h⟩ := withv_elim h
    exact ⟨_, v, fun w' _ => by unfold execOp; simp only [ho]; rfl, evx_ok hs e, h⟩
  · rename_i c x y ho
    obtain ⟨cv, e, h⟩ := withv_elim h
    split at h
    · rename_i q
      have hc := evx_ok hs e
      simp only [Den] at hc
      cases q with
      | true =>
        obtain ⟨v, e, h⟩ := withv_elim (h.1 rfl)
        exact ⟨_, v, fun w' _ => by unfold execOp; simp only [ho, hc, asBool, Sem.run_bind, Sem.run_pure, Result.andThen_ok, if_true], evx_ok hs e, h⟩
      | false =>
        obtain ⟨v, e, h⟩ := withv_elim (h.2 rfl)
        exact ⟨_, v, fun w' _ => by unfold execOp; simp only [ho, hc, asBool, Sem.run_bind, Sem.run_pure, Result.andThen_ok, Bool.false_eq_true, if_false], evx_ok hs e, h⟩
    · exact h.elim
  · rename_i ty parts ho
    split at h
    · rename_i ps hps
      obtain ⟨h1, h2⟩ := evp_ok hs hps
      refine up' (S := Instr.build ty (parts.toList.map fun p => (p.1, a.eval p.2)).toArray) (fun w' _ => ?_) (buildx_ok h (by simpa using h1) h2)
      unfold execOp; simp only [ho]
      congr 3
      rw [← List.map_toArray, Array.toArray_toList]
    · exact h.elim
  · rename_i ty p ho
    obtain ⟨u, e, h⟩ := withv_elim h
    exact up (fun w' _ => by unfold execOp; simp only [ho]) (loadx_ok hi h (evx_ok hs e))
  · rename_i x ho
    obtain ⟨u, e, h⟩ := withv_elim h
    obtain ⟨v, av, h1, h2, h3⟩ := nilx_ok (P := P) h (evx_ok hs e) ho rfl
    exact ⟨v, av, fun w' _ => h1 w', h2, h3⟩
  · rename_i op ty x y ty2 ho
    obtain ⟨u, e, h⟩ := withv_elim h
    obtain ⟨v, e', h⟩ := withv_elim h
    exact up' (fun w' _ => by unfold execOp; simp only [ho]) (binx_ok h (evx_ok hs e) (evx_ok hs e') x y)
  · rename_i op ty x ho
    obtain ⟨u, e, h⟩ := withv_elim h
    exact up' (fun w' _ => by unfold execOp; simp only [ho]) (unx_ok h (evx_ok hs e))
  · rename_i s d x ho
    obtain ⟨u, e, h⟩ := withv_elim h
    exact up (fun w' _ => by unfold execOp; simp only [ho]) (convx_ok hi h (evx_ok hs e))
  · rename_i ty x ho
    obtain ⟨u, e, h⟩ := withv_elim h
    exact up' (fun w' _ => by unfold execOp; simp only [ho]) (s2ax_ok h (evx_ok hs e))
  · rename_i ty x ho
    obtain ⟨u, e, h⟩ := withv_elim h
    obtain ⟨hk, hn, h⟩ := h
    obtain ⟨d, hd⟩ := Option.isSome_iff_exists.1 hk
    refine ⟨.iface ty (a.eval x), _, fun w' _ => ?_, by simp only [Den]; exact ⟨_, rfl, evx_ok hs e⟩, h⟩
    unfold execOp
    simp only [ho, Instr.makeInterface, Sem.run_bind, run_underlying hd, Result.andThen_ok]
    unfold isIfaceT at hn
    rw [hd] at hn
    cases d <;> first | rfl | (simp at hn)
  · rename_i f fi ca ho
    obtain ⟨p, e, h⟩ := withl_elim h
    obtain ⟨q, e', h⟩ := withl_elim h
    refine ⟨.func f (fi.map a.eval) (ca.map a.eval), _, fun w' _ => by unfold execOp; simp only [ho, Instr.makeFunc, Sem.run_bind, Sem.run_pure, Result.andThen_ok], ?_, h⟩
    simp only [Den]
    exact ⟨_, _, by rw [← List.map_toArray, ← List.map_toArray, Array.toArray_toList, Array.toArray_toList], evs_ok hs e, evs_ok hs e'⟩
  · rename_i ty x lo hi' ho
    obtain ⟨u, e, h⟩ := withv_elim h
    split at h
    · exact h.elim
    · exact h.elim
    · rename_i n1 n2
      refine up' (S := Instr.sliceAt ty (a.eval x) (lo.map a.eval) (hi'.map a.eval) none) (fun w' _ => by unfold execOp; simp only [ho, Option.map_none]) (slcx_ok h (evx_ok hs e) ?_ ?_ ?_ ?_)
      · intro z hz
        cases lo with
        | none => simp at hz
        | some y => simp at hz; exact ⟨_, rfl, evx_ok hs hz⟩
      · intro hz
        cases lo with
        | none => rfl
        | some y => simp at hz; exact absurd (by simp [hz]) n1
      · intro z hz
        cases hi' with
        | none => simp at hz
        | some y => simp at hz; exact ⟨_, rfl, evx_ok hs hz⟩
      · intro hz
        cases hi' with
        | none => rfl
        | some y => simp at hz; exact absurd (by simp [hz]) n2
  · rename_i s x f ho
    obtain ⟨u, e, h⟩ := withv_elim h
    exact up' (fun w' _ => by unfold execOp; simp only [ho]) (fldx_ok h (evx_ok hs e))
  · rename_i s x f ho
    obtain ⟨u, e, h⟩ := withv_elim h
    exact up' (fun w' _ => by unfold execOp; simp only [ho]) (fieldx_ok h (evx_ok hs e))
  · rename_i ty x i ho
    obtain ⟨u, e, h⟩ := withv_elim h
    obtain ⟨v, e', h⟩ := withv_elim h
    exact up' (fun w' _ => by unfold execOp; simp only [ho]) (idxx_ok h (evx_ok hs e) (evx_ok hs e'))
  · rename_i ty x i ho
    obtain ⟨u, e, h⟩ := withv_elim h
    obtain ⟨v, e', h⟩ := withv_elim h
    exact up' (fun w' _ => by unfold execOp; simp only [ho]) (indexx_ok h (evx_ok hs e) (evx_ok hs e'))
  · rename_i x i ho
    obtain ⟨u, e, h⟩ := withv_elim h
    split at h
    · rename_i l
      obtain ⟨v, e', h⟩ := withv_elim h
      have hd := evx_ok hs e
      simp only [Den] at hd
      obtain ⟨cs, hcs, hd⟩ := hd
      obtain ⟨u, hu, hdu⟩ := hd.get i v e'
      have hu' : cs.toArray[i]? = some u := by simpa using hu
      exact ⟨u, v, fun w' _ => by unfold execOp; simp only [ho, hcs, Instr.extract, hu', Sem.run_bind, Sem.run_pure, Result.andThen_ok], hdu, h⟩
    · exact h.elim
  · rename_i c ho
    split at h
    · rename_i b hb
      obtain ⟨l, e, h⟩ := withl_elim h
      obtain ⟨v, av, h1, h2, h3⟩ := bltx_ok h (evs_ok hs e) o.type (c.args.map fun | .const _ => true | _ => false)
      refine ⟨v, av, fun w' _ => ?_, h2, h3⟩
      have h1' := h1 w'
      rw [← List.map_toArray, Array.toArray_toList] at h1'
      unfold execOp
      simp only [ho, resolve, hb, Sem.run_bind, Sem.run_pure, Result.andThen_ok, invoke]
      exact h1'
    · exact h.elim
  · exact h.elim
end
end Go.Eng
end
section
/- The engine, part 5: operations that make memory, or write it. Own work. -/
set_option linter.unusedVariables false
set_option linter.unusedSimpArgs false
namespace Go.Eng
open Go

section
variable {P : Program} {w0 w : World} {FP : Nat → Prop} {wr rd : Nat → Bool} {m : Mem} {nx : Nat} {H : RO} {B : Names} {N : Nat} {t : Slots} {a : Act}

def bind1 (B : Names) (n b : Nat) : Names := fun k => if k = n then some b else B k
theorem bind1_same (B : Names) (n b : Nat) : bind1 B n b n = some b := by simp [bind1]
theorem ext_bind1 {H : RO} {B : Names} {n b : Nat} (h : B n = none) : Ext H B H (bind1 B n b) := ⟨fun _ _ e => e, fun k c e => by
  have : k ≠ n := fun hk => by rw [hk, h] at e; cases e
  simp [bind1, this, e]⟩
/-- A new name for a block that is new, or that of a name that is given up. -/
theorem Inv.renew (h : Inv w0 FP wr m nx H B w) {m' : Mem} (hm : ∀ k o, look m' k = some o → look m k = some o) (hkp : ∀ k, wr k = false → ∃ o, look m' k = some o) {b : Nat}
    (hb : (b = w.heap.size ∨ ∃ n o, look m n = some o ∧ wr n = true ∧ B n = some b ∧ look m' n = none)) {w' : World} (h2 : w'.os = w.os) (h3 : w'.tape = w.tape) (h4 : w'.output = w.output)
    (hsz : w.heap.size ≤ w'.heap.size) (hf : ∀ k, k < w.heap.size → k ≠ b → w'.heap[k]? = w.heap[k]?) {o : AObj} (ho : HoldsO H (bind1 B nx b) w' b o) :
    Inv w0 FP wr ((nx, o) :: m') (nx + 1) H (bind1 B nx b) w' ∧ Ext H B H (bind1 B nx b) := by
  have hx : Ext H B H (bind1 B nx b) := ext_bind1 (h.fresh nx (Nat.le_refl _))
  have hlt : b < w'.heap.size := ho.lt
  have hnb : ∀ k o', look m' k = some o' → B k ≠ some b := fun k o' hk e => by
    rcases hb with rfl | ⟨n, o2, hn, _, hbn, hdel⟩
    · obtain ⟨c, hc, _, hcl, _⟩ := h.obj k o' (hm k o' hk)
      rw [hc] at e; injection e with e; omega
    · have := h.inj k n _ _ (hm k o' hk) hn (by rw [e, hbn])
      subst this
      rw [hdel] at hk; cases hk
  have hfp : FP b ∨ w0.heap.size ≤ b := by
    rcases hb with rfl | ⟨n, o2, hn, hw, hbn, _⟩
    · exact .inr h.size
    · obtain ⟨c, hc, _, _, hr, _⟩ := h.obj n o2 hn
      rw [hbn] at hc; injection hc with hc; subst hc
      exact hr hw
  refine ⟨⟨Nat.le_trans h.size hsz, h2.trans h.os, h3.trans h.tape, h4.trans h.out, ?_, ?_, ?_, ?_, ?_, ?_, ?_⟩, hx⟩
  · intro k hk hfk
    have hkb : k ≠ b := fun e => by subst e; rcases hfp with h' | h'; exact hfk h'; omega
    exact (hf k (Nat.lt_of_lt_of_le hk h.size) hkb).trans (h.frame k hk hfk)
  · intro ad v e
    obtain ⟨g1, g2⟩ := h.ro ad v e
    have hal : ad.block < w.heap.size := block_lt_of_cell g1
    have hab : ad.block ≠ b := fun e' => by
      rcases hb with rfl | ⟨n, o2, hn, _, hbn, _⟩
      · omega
      · exact g2 n o2 hn (by rw [hbn, e'])
    refine ⟨(World.cell?_of_block (w := w) (hf _ hal hab)).trans g1, fun k o' hk => ?_⟩
    simp only [look] at hk
    by_cases hkn : nx = k
    · subst hkn
      rw [bind1_same]
      intro e'; injection e' with e'; exact hab e'.symm
    · rw [if_neg hkn] at hk
      simp only [bind1, Ne.symm hkn, if_false]
      exact g2 k o' (hm k o' hk)
  · intro k o' hk
    simp only [look] at hk
    by_cases hkn : nx = k
    · subst hkn
      rw [if_pos rfl] at hk
      injection hk with hk; subst hk
      exact ⟨b, bind1_same _ _ _, ho, hlt, fun _ => hfp, fun e => by rw [h.wrn nx (Nat.le_refl _)] at e; cases e⟩
    · rw [if_neg hkn] at hk
      obtain ⟨c, hc, hho, hcl, r⟩ := h.obj k o' (hm k o' hk)
      have hcb : c ≠ b := fun e => hnb k o' hk (by rw [hc, e])
      exact ⟨c, hx.nm _ _ hc, hho.mono hx (hf c hcl hcb), Nat.lt_of_lt_of_le hcl hsz, r⟩
  · intro k k' o1 o2 e1 e2 e
    simp only [look] at e1 e2
    by_cases hk : nx = k <;> by_cases hk' : nx = k'
    · rw [← hk, ← hk']
    · rw [if_neg hk'] at e2
      subst hk
      rw [bind1_same] at e
      simp only [bind1, Ne.symm hk', if_false] at e
      exact absurd e.symm (hnb k' o2 e2)
    · rw [if_neg hk] at e1
      subst hk'
      rw [bind1_same] at e
      simp only [bind1, Ne.symm hk, if_false] at e
      exact absurd e (hnb k o1 e1)
    · rw [if_neg hk] at e1; rw [if_neg hk'] at e2
      simp only [bind1, Ne.symm hk, Ne.symm hk', if_false] at e
      exact h.inj k k' _ _ (hm _ _ e1) (hm _ _ e2) e
  · intro k hk
    have : k ≠ nx := by omega
    simp only [bind1, this, if_false]
    exact h.fresh k (by omega)
  · exact fun k hk => h.wrn k (by omega)
  · intro k hk
    obtain ⟨o', ho'⟩ := hkp k hk
    by_cases e : nx = k
    · exact ⟨o, by simp [look, e]⟩
    · exact ⟨o', by simp [look, e, ho']⟩

abbrev Kv := AV → Mem → Nat → Prop
/-- What an operation leaves: a world that fits, and a value (none: nothing). -/
def Gives (P : Program) (w0 : World) (FP : Nat → Prop) (wr : Nat → Bool) (H : RO) (B : Names) (K : Kv) (r : Result Next) : Prop :=
  ∃ v av m' nx' B' w', (r = .ok (.value v) w' ∨ (r = .ok .skip w' ∧ v = undef)) ∧ Inv w0 FP wr m' nx' H B' w' ∧ Ext H B H B' ∧ Den H B' av v ∧ K av m' nx'

/-! new memory -/
theorem new_ok (hi : Inv w0 FP wr m nx H B w) {K : Kv} {l : List AV} {cs : List Value} {ty : TypeId} (hd : DenL H B l cs) (av : AV) (v : Value) (hv : Den H (bind1 B nx w.heap.size) av v)
    (hK : K av ((nx, .cells l ty) :: m) (nx + 1)) {r : Result Next} (hr : r = .ok (.value v) { w with heap := w.heap.push (.cells cs.toArray ty) }) : Gives P w0 FP wr H B K r := by
  have hx : Ext H B H (bind1 B nx w.heap.size) := ext_bind1 (hi.fresh nx (Nat.le_refl _))
  obtain ⟨h1, h2⟩ := hi.renew (m' := m) (fun _ _ h => h) hi.keep (b := w.heap.size) (.inl rfl) (w' := { w with heap := w.heap.push (.cells cs.toArray ty) }) rfl rfl rfl (by simp)
    (fun k hk _ => by show (w.heap.push _)[k]? = _; rw [Array.getElem?_push, if_neg (by omega)]) (o := .cells l ty) ⟨cs, by show (w.heap.push _)[w.heap.size]? = _; simp, hd.mono hx⟩
  exact ⟨v, av, _, _, _, _, .inl hr, h1, h2, hv, hK⟩
def allocx (P : Program) (ty : TypeId) (m : Mem) (nx : Nat) (K : Kv) : Prop := ∃ z, zav P ty = some z ∧ K (.ptr nx 0) ((nx, .cells z ty) :: m) (nx + 1)
theorem allocx_ok (hi : Inv w0 FP wr m nx H B w) {ty : TypeId} {K : Kv} (h : allocx P ty m nx K) {o : Oper} (ho : o.op = .alloc ty) : Gives P w0 FP wr H B K ((execOp a.eval o).run P w) := by
  obtain ⟨z, hz, h⟩ := h
  obtain ⟨v, hv, hd⟩ := zav_run hz w H B
  refine new_ok hi hd (.ptr nx 0) (.pointer (some ⟨w.heap.size, 0, none⟩)) (by simp only [Den]; exact ⟨_, bind1_same _ _ _, rfl⟩) h ?_
  unfold execOp
  simp only [ho, Instr.alloc, Sem.run_bind, hv, Result.andThen_ok, newVar, newRow, run_newObj, Sem.run_pure, Array.toArray_toList]
def boxx (ty : TypeId) (x : AV) (m : Mem) (nx : Nat) (K : Kv) : Prop := isTup x = false ∧ K (.ptr nx 0) ((nx, .cells (acells x) ty) :: m) (nx + 1)
theorem boxx_ok (hi : Inv w0 FP wr m nx H B w) {ty : TypeId} {x : AV} {K : Kv} (h : boxx ty x m nx K) {o : Oper} {y : Operand} (ho : o.op = .box ty y) (hx : Den H B x (a.eval y)) : Gives P w0 FP wr H B K ((execOp a.eval o).run P w) := by
  obtain ⟨ht, h⟩ := h
  refine new_ok hi (den_cells hx ht) (.ptr nx 0) (.pointer (some ⟨w.heap.size, 0, none⟩)) (by simp only [Den]; exact ⟨_, bind1_same _ _ _, rfl⟩) h ?_
  unfold execOp
  simp only [ho, Instr.box, Sem.run_bind, Result.andThen_ok, newVar, newRow, run_newObj, Sem.run_pure, Array.toArray_toList]
def zfill (z : List AV) (n : Nat) : List AV := (List.range n).map fun i => z.getD (i % z.length) (.tup [])
theorem zfill_den {z : List AV} {vs : List Value} (h : DenL H B z vs) (n : Nat) : n = 0 ∨ 0 < z.length → DenL H B (zfill z n) ((List.range n).map fun i => vs.toArray[i % vs.toArray.size]!) := by
  intro hn
  refine DenL.of_get (by simp [zfill]) fun i x v h1 h2 => ?_
  have hi : i < n := by have := (List.getElem?_eq_some_iff.1 h1).1; simpa [zfill] using this
  have hz : 0 < z.length := by omega
  have hm : i % z.length < z.length := Nat.mod_lt _ hz
  simp [zfill, List.getElem?_range hi] at h1
  simp [List.getElem?_range hi] at h2
  obtain ⟨u, hu, hd⟩ := h.get (i % z.length) (z.getD (i % z.length) (.tup [])) (by simp [List.getElem?_eq_getElem hm])
  rw [← h.length] at hu
  subst h1
  have : v = u := by
    rw [← h2, h.length] at *
    simp [hu]
  subst this
  simpa [List.getD_eq_getElem?_getD] using hd
theorem zfill_one (z : AV) (n : Nat) : zfill [z] n = List.replicate n z := by
  apply List.ext_getElem
  · simp [zfill]
  · intro i h1 h2; simp [zfill, Nat.mod_one]
def bslx (P : Program) (ty : TypeId) (len : Nat) (parts : List (Nat × AV)) (m : Mem) (nx : Nat) (K : Kv) : Prop :=
  ∃ e, elemT P ty = some e ∧ ∃ s, sizeT P e = some s ∧ len * s ≤ 16777216 ∧ ∃ z, zav P e = some z ∧ (len * s = 0 ∨ 0 < z.length) ∧ ∃ l, fillA (fun i => some (i * s, s)) (zfill z (len * s)) parts = some l ∧ K (.sl nx 0 len len) ((nx, .cells l e) :: m) (nx + 1)
theorem bslx_ok (hi : Inv w0 FP wr m nx H B w) {ty : TypeId} {len : Nat} {parts : List (Nat × AV)} {K : Kv} (h : bslx P ty len parts m nx K) {o : Oper} {ps : Array (Nat × Operand)} (ho : o.op = .buildSlice ty len ps)
    (hl : ps.toList.length = parts.length) (hv : ∀ (j i : Nat) (x : AV) (u : Value) (i' : Nat), parts[j]? = some (i, x) → (ps.toList.map fun p => (p.1, a.eval p.2))[j]? = some (i', u) → i' = i ∧ Den H B x u) :
    Gives P w0 FP wr H B K ((execOp a.eval o).run P w) := by
  obtain ⟨e, he, s, hs, hsm, z, hz, hpos, l, hl', h⟩ := h
  obtain ⟨v, hvr, hd⟩ := zav_run hz w H B
  have hzd := zfill_den hd (len * s) hpos
  obtain ⟨cs', h1, h2⟩ := fillA_ok (vals := ps.toList.map fun p => (p.1, a.eval p.2)) hl' hzd (by simpa using hl) hv
  refine new_ok hi h2 (.sl nx 0 len len) (.slice (some ⟨w.heap.size, 0, none⟩) len len) (by simp only [Den]; exact ⟨_, _, bind1_same _ _ _, rfl, Nat.le_refl _, fun _ => rfl⟩) h ?_
  have hps : (ps.map fun p => (p.1, a.eval p.2)).toList = ps.toList.map fun p => (p.1, a.eval p.2) := by simp
  unfold execOp
  simp only [ho, Instr.buildSlice, Sem.run_bind, run_underlying (elemT_some he), Result.andThen_ok, sizeT_run hs]
  rw [if_neg (by omega)]
  by_cases h0 : len * s = 0
  · rw [h0] at h1
    have hfill : Instr.fill (fun i => some (i * s, s)) ((Array.range 0).map fun x => (#[] : Array Value)[x % (#[] : Array Value).size]!) (ps.map fun x => (x.1, a.eval x.2)).toList = some cs'.toArray := by
      rw [hps, ← h1]
      congr 1
      apply Array.ext'
      simp
    simp only [h0, if_true, Sem.run_bind, Sem.run_pure, Result.andThen_ok, hfill, newRow, run_newObj]
  · have hfill : Instr.fill (fun i => some (i * s, s)) ((Array.range (len * s)).map fun x => v.cells[x % v.cells.size]!) (ps.map fun x => (x.1, a.eval x.2)).toList = some cs'.toArray := by
      rw [hps, ← h1]
      congr 1
      apply Array.ext'
      simp
    simp only [h0, if_false, Sem.run_bind, hvr, Sem.run_pure, Result.andThen_ok, hfill, newRow, run_newObj]
def mkslx (P : Program) (ty : TypeId) (l c : AV) (m : Mem) (nx : Nat) (K : Kv) : Prop :=
  match l, c with
  | .int _ x, .int _ y => ∃ e, elemT P ty = some e ∧ ∃ s, sizeT P e = some s ∧ ∃ bt, bytesT P e = some bt ∧ (0 ≤ x ∧ x ≤ y ∧ y ≤ 9223372036854775807 ∧ bt * y.toNat ≤ 281474976710656) ∧ ∃ z, zav P e = some z ∧ z.length = s ∧ 0 < s ∧
      K (.sl nx 0 x.toNat y.toNat) ((nx, .cells (zfill z (y.toNat * s)) e) :: m) (nx + 1)
  | _, _ => False
theorem mkslx_ok (hi : Inv w0 FP wr m nx H B w) {ty : TypeId} {l c : AV} {K : Kv} (h : mkslx P ty l c m nx K) {o : Oper} {y z : Operand} (ho : o.op = .makeSlice ty y z) (h1 : Den H B l (a.eval y)) (h2 : Den H B c (a.eval z)) :
    Gives P w0 FP wr H B K ((execOp a.eval o).run P w) := by
  unfold mkslx at h
  split at h
  · rename_i q1 x q2 y'
    obtain ⟨e, he, s, hs, bt, hbt, hb, zz, hz, hzl, hsp, h⟩ := h
    simp only [Den] at h1 h2
    obtain ⟨v, hvr, hd⟩ := zav_run hz w H B
    unfold zav at hz
    obtain ⟨vv, hvv, _⟩ := Option.map_eq_some_iff.1 hz
    obtain ⟨i, hii, hzz⟩ := Option.bind_eq_some_iff.1 hvv
    have hvz : vv = v := by simp [zeroValue, typeInfo, hii, hzz] at hvr; exact hvr
    subst hvz
    have hsz : i.size = s := by unfold sizeT at hs; rw [hii] at hs; simpa using hs
    have hby : i.bytes = bt := by unfold bytesT at hbt; rw [hii] at hbt; simpa using hbt
    have hr := run_make (P := P) w ty e i vv (elemT_some he) hii hzz q1 q2 x y' hb.1 hb.2.1 (by
      have : ((bt * y'.toNat : Nat) : Int) ≤ 281474976710656 := by omega
      rw [hby]
      rw [Int.natCast_mul, Int.toNat_of_nonneg (by omega)] at this
      exact this) hb.2.2.1
    have hzd := zfill_den hd (y'.toNat * s) (.inr (by omega))
    refine new_ok hi hzd (.sl nx 0 x.toNat y'.toNat) (.slice (some ⟨w.heap.size, 0, none⟩) x.toNat y'.toNat) (by simp only [Den]; exact ⟨_, _, bind1_same _ _ _, rfl, by omega, fun _ => rfl⟩) h ?_
    unfold execOp
    simp only [ho, h1, h2, Sem.run_bind, hr, Result.andThen_ok, Sem.run_pure]
    have e2 : madeCells vv.cells (y'.toNat * i.size) = (List.map (fun i => vv.cells.toList.toArray[i % vv.cells.toList.toArray.size]!) (List.range (y'.toNat * s))).toArray := by
      unfold madeCells
      rw [hsz]
      apply Array.ext'
      simp
    rw [e2]
    rfl
  · exact h.elim

/-! stores -/
def spl (l : List AV) (off : Nat) (l' : List AV) : List AV := l.take off ++ l' ++ l.drop (off + l'.length)
theorem spl_all {l l' : List AV} (h : l'.length = l.length) : spl l 0 l' = l' := by simp [spl, h]
def stor (l : List AV) (off : Nat) : AV → List AV
  | .agg l' => spl l off l'
  | v => l.set off v
theorem stor_den {l : List AV} {cs : List Value} (h : DenL H B l cs) {x : AV} {u : Value} (hx : Den H B x u) (ht : isTup x = false) {off : Nat} (hle : off + (acells x).length ≤ l.length) :
    DenL H B (stor l off x) (cs.take off ++ u.cells.toList ++ cs.drop (off + u.cells.toList.length)) := by
  have hc := den_cells hx ht
  have key : DenL H B (spl l off (acells x)) (cs.take off ++ u.cells.toList ++ cs.drop (off + u.cells.toList.length)) := by
    unfold spl
    rw [hc.length]
    exact ((h.take off).append hc).append (h.drop _)
  cases x
  case agg l' => exact key
  all_goals
    have e : ∀ v : AV, off < l.length → spl l off [v] = l.set off v := fun v hv => by
      unfold spl
      rw [List.set_eq_take_append_cons_drop, if_pos hv]
      simp
    simp only [acells] at key hle
    simp only [List.length_cons, List.length_nil] at hle
    rw [e _ (by omega)] at key
    exact key
def stx (P : Program) (wr : Nat → Bool) (ty : TypeId) (p x : AV) (m : Mem) (nx : Nat) (K : Kv) : Prop :=
  match p with
  | .ptr n off => match look m n with
    | some (.cells l e) => wr n = true ∧ isTup x = false ∧ sizeT P ty = some (acells x).length ∧ off + (acells x).length ≤ l.length ∧ (acells x).all (fun v => !isTup v && (match v with | .agg _ => false | _ => true)) = true ∧ K (.tup []) (upd m n (.cells (stor l off x) e)) nx
    | _ => False
  | _ => False
theorem one_of {x : AV} (h : (!isTup x && (match x with | .agg _ => false | _ => true)) = true) {u : Value} (hd : Den H B x u) : u.oneCell' = true := by
  simp only [Bool.and_eq_true, Bool.not_eq_true'] at h
  exact den_one hd h.1 fun l e => by subst e; simp at h
theorem stx_ok (hi : Inv w0 FP wr m nx H B w) {ty : TypeId} {p x : AV} {K : Kv} (h : stx P wr ty p x m nx K) {o : Oper} {y z : Operand} (ho : o.op = .store ty y z) (h1 : Den H B p (a.eval y)) (h2 : Den H B x (a.eval z)) :
    Gives P w0 FP wr H B K ((execOp a.eval o).run P w) := by
  unfold stx at h
  split at h
  · rename_i n off
    split at h
    · rename_i l e hn
      obtain ⟨hw, ht, hs, hle, hall, h⟩ := h
      simp only [Den] at h1
      obtain ⟨b, hb, hp⟩ := h1
      obtain ⟨b', cs, hb', hc, hd⟩ := obj_cells hi hn
      rw [hb] at hb'; injection hb' with hb'; subst hb'
      generalize hu : a.eval z = u at h2
      have hcd := den_cells h2 ht
      have hlen := hcd.length
      have hst := run_storeCells_at P b off e u.cells.toList 0 cs.toArray w hc (by simp [hlen, hd.length]; omega) (fun v hv => by
        obtain ⟨j, hj, hv'⟩ := List.getElem_of_mem hv
        have hjx : j < (acells x).length := by omega
        obtain ⟨v', hv2, hdv⟩ := hcd.get j _ (List.getElem?_eq_getElem hjx)
        rw [List.getElem?_eq_getElem hj, hv'] at hv2
        injection hv2 with hv2
        subst hv2
        exact one_of (List.all_eq_true.1 hall _ (List.getElem_mem hjx)) hdv)
      simp only [Nat.add_zero] at hst
      refine ⟨undef, .tup [], upd m n (.cells (stor l off x) e), nx, B, w.setRow b (cs.take off ++ u.cells.toList ++ cs.drop (off + u.cells.toList.length)).toArray, .inr ⟨?_, rfl⟩, ?_, Ext.refl _ _, by simp only [Den]; exact ⟨[], rfl, by simp [DenL]⟩, h⟩
      · unfold execOp
        have hz : u.cells.size = (acells x).length := by rw [← hlen]; simp
        simp only [ho, hp, hu, Instr.storeAt, Instr.sureAddr, Sem.run_bind, Sem.run_pure, Result.andThen_ok, storeVar, sizeT_run hs]
        rw [if_neg (by rw [hz]; simp)]
        rw [hst]
        rfl
      · refine hi.write hn hw hb _ (by simp) rfl rfl rfl (fun k hk => setRow_other w b k _ hk) ?_
        exact ⟨_, setRow_heap w b cs.toArray _ e (0, 0) hc, stor_den hd h2 ht hle⟩
    · exact h.elim
  · exact h.elim
end
end Go.Eng
end
section
/- The engine, part 6: append and copy. Own work. -/
set_option linter.unusedVariables false
set_option linter.unusedSimpArgs false
namespace Go.Eng
open Go

section
variable {P : Program} {w0 w : World} {FP : Nat → Prop} {wr rd : Nat → Bool} {m : Mem} {nx : Nat} {H : RO} {B : Names} {N : Nat} {t : Slots} {a : Act}

def one1 (x : AV) : Bool := !isTup x && (match x with | .agg _ => false | _ => true)
/-- what a slice has: how many elements, and their cells -/
def srcx (m : Mem) (s : Nat) : AV → Option (Nat × List AV)
  | .sl n off len _ => match look m n with
    | some (.cells l _) => some (len, (l.drop off).take (len * s))
    | _ => none
  | .ro len xs => some (len, xs.take (len * s))
  | .nils => some (0, [])
  | _ => none
theorem srcx_ok (hi : Inv w0 FP wr m nx H B w) {s : Nat} {x : AV} {n : Nat} {l : List AV} (h : srcx m s x = some (n, l)) (hl : l.length = n * s) {u : Value} (hu : Den H B x u) :
    ∃ A c cs, u = .slice A n c ∧ n ≤ c ∧ DenL H B l cs ∧ ((∃ ad, A = some ad ∧ ∀ j v, cs[j]? = some v → w.cell? (ad.add j) = some v) ∨ n * s = 0) := by
  unfold srcx at h
  split at h
  · rename_i n' off len cap
    split at h
    · rename_i l' ty hn
      cases h
      simp only [Den] at hu
      obtain ⟨b, ad, hb, rfl, hlc, had⟩ := hu
      obtain ⟨b', cs, hb', hc, hd⟩ := obj_cells hi hn
      rw [hb] at hb'; injection hb' with hb'; subst hb'
      refine ⟨_, _, (cs.drop off).take (n * s), rfl, hlc, (hd.drop off).take _, ?_⟩
      by_cases hz : n * s = 0
      · exact .inr hz
      · refine .inl ⟨ad, rfl, fun j v hj => ?_⟩
        have hcz : cap ≠ 0 := by
          intro h0; subst h0
          have : n = 0 := by omega
          subst this; simp at hz
        have hjl : j < n * s := by have := (List.getElem?_eq_some_iff.1 hj).1; simp only [List.length_take] at this; omega
        rw [had hcz, Addr.add_mid, cell_at w hc]
        rw [List.getElem?_take, if_pos hjl, List.getElem?_drop] at hj
        exact hj
    · cases h
  · rename_i len xs
    cases h
    simp only [Den] at hu
    obtain ⟨A, c, rfl, hlc, hd⟩ := hu
    have hex : ∀ j : Nat, ∃ v : Value, j < n * s → ∃ x, (xs.take (n * s))[j]? = some x ∧ Den H B x v ∧ ∃ ad, A = some ad ∧ w.cell? (ad.add j) = some v := fun j => by
      by_cases hj : j < n * s
      · have hx : (xs.take (n * s))[j]? = some ((xs.take (n * s))[j]'(by rw [hl]; exact hj)) := List.getElem?_eq_getElem _
        have hx2 := hx
        rw [List.getElem?_take, if_pos hj] at hx2
        obtain ⟨ad, v, e, h1, h2⟩ := hd.get j _ hx2
        rw [Nat.zero_add] at h1
        exact ⟨v, fun _ => ⟨_, hx, h2, ad, e, (hi.ro _ _ h1).1⟩⟩
      · exact ⟨undef, fun h => absurd h hj⟩
    obtain ⟨f, hf⟩ := Classical.axiomOfChoice hex
    refine ⟨A, c, (List.range (n * s)).map f, rfl, hlc, DenL.of_get (by simp [hl]) fun i x v h1 h2 => ?_, ?_⟩
    · have his : i < n * s := by have := (List.getElem?_eq_some_iff.1 h2).1; simpa using this
      obtain ⟨x', hx', h3, _⟩ := hf i his
      rw [hx'] at h1; cases h1
      simp [List.getElem?_range his] at h2
      subst h2; exact h3
    · by_cases hz : n * s = 0
      · exact .inr hz
      · obtain ⟨_, _, _, ad, e, _⟩ := hf 0 (by omega)
        refine .inl ⟨ad, e, fun j v hj => ?_⟩
        have hjl : j < n * s := by have := (List.getElem?_eq_some_iff.1 hj).1; simpa using this
        obtain ⟨_, _, _, ad', e', h4⟩ := hf j hjl
        rw [e] at e'; cases e'
        simp [List.getElem?_range hjl] at hj
        subst hj; exact h4
  · cases h
    simp only [Den] at hu
    subst hu
    exact ⟨none, 0, [], rfl, Nat.le_refl _, by simp [DenL], .inr (by simp)⟩
  · cases h

def maxI : Nat := 9223372036854775807
def appk (dst : AV) (m : Mem) (nx : Nat) (wr : Nat → Bool) (e s bt : Nat) (q : Nat × List AV) (K : Kv) : Prop :=
  match dst with
  | .nils => q.1 * bt ≤ 140737488355328 ∧ q.1 ≤ 140737488355328 ∧ (q.1 = 0 → K .nils m nx) ∧ (0 < q.1 → ∀ (cap : Nat) (sp : List Value), q.1 ≤ cap → cap ≤ maxI → sp.length = (cap - q.1) * s → K (.sl nx 0 q.1 cap) ((nx, .cells (q.2 ++ sp.map AV.val) e) :: m) (nx + 1))
  | .sl n off len cap => (off = 0 ∧ wr n = true ∧ match look m n with
    | some (.cells l e') => e' = e ∧ l.length = cap * s ∧ cap ≤ maxI ∧ (len + q.1) * bt ≤ 140737488355328 ∧ len + q.1 ≤ 140737488355328 ∧
      ∀ (cap' : Nat) (sp : List Value), len + q.1 ≤ cap' → cap' ≤ maxI → sp.length = (cap' - (len + q.1)) * s → K (.sl nx 0 (len + q.1) cap') ((nx, .cells (l.take (len * s) ++ q.2 ++ sp.map AV.val) e) :: del m n) (nx + 1)
    | _ => False) ∨ (wr n = true ∧ match look m n with
    | some (.cells l e') => e' = e ∧ off + cap * s ≤ l.length ∧ cap ≤ maxI ∧ (len + q.1) * bt ≤ 140737488355328 ∧ len + q.1 ≤ 140737488355328 ∧
      (len + q.1 ≤ cap → K (.sl n off (len + q.1) cap) (upd m n (.cells (spl l (off + len * s) q.2) e)) nx) ∧
      (cap < len + q.1 → ∀ (cap' : Nat) (sp : List Value), len + q.1 ≤ cap' → cap' ≤ maxI → sp.length = (cap' - (len + q.1)) * s → K (.sl nx 0 (len + q.1) cap') ((nx, .cells ((l.drop off).take (len * s) ++ q.2 ++ sp.map AV.val) e) :: m) (nx + 1))
    | _ => False)
  | _ => False
def appx (P : Program) (wr : Nat → Bool) (ts : Array TypeId) (l : List AV) (m : Mem) (nx : Nat) (K : Kv) : Prop :=
  match ts.toList, l with
  | [ty, ty'], [dst, src] => ty' = ty ∧ ∃ e, elemT P ty = some e ∧ ∃ s, sizeT P e = some s ∧ 0 < s ∧ ∃ bt, bytesT P e = some bt ∧ ∃ z, zav P e = some z ∧ z.length = s ∧ ∃ q, srcx m s src = some q ∧ q.2.length = q.1 * s ∧ q.2.all one1 = true ∧ appk dst m nx wr e s bt q K
  | _, _ => False
theorem append_zero (ty tr e : TypeId) (s : Nat) (he : elemT P ty = some e) (hs : sizeT P e = some s) (base : Option Addr) (sl sc : Nat) (hle : sl ≤ sc) (A : Option Addr) (c : Nat) (w : World) :
    (Builtin.append_ #[ty, ty] tr #[.slice base sl sc, .slice A 0 c]).run P w = .ok (.slice base sl sc) w := by
  have hu := elemT_some he
  unfold sizeT at hs
  obtain ⟨i, hi, e2⟩ := Option.map_eq_some_iff.1 hs
  cases A <;> cases base <;> simp [Builtin.append_, run_underlying hu, sizeOf, typeInfo, hi, Builtin.lenOf, Builtin.firstCells, hle, loadCells, loadCellsFrom, storeCells]
theorem denL_val (H : RO) (B : Names) : ∀ l : List Value, DenL H B (l.map .val) l
  | [] => by simp [DenL]
  | v :: r => by simp only [List.map_cons, DenL]; exact ⟨v, r, rfl, by simp only [Den], denL_val H B r⟩
theorem one_all {l : List AV} (h : l.all one1 = true) {cs : List Value} (hd : DenL H B l cs) : ∀ u ∈ cs, u.oneCell' = true := fun u hu => by
  obtain ⟨j, hj, e⟩ := List.getElem_of_mem hu
  have hjl : j < l.length := by rw [← hd.length]; exact hj
  obtain ⟨v, hv, hdv⟩ := hd.get j _ (List.getElem?_eq_getElem hjl)
  rw [List.getElem?_eq_getElem hj, e] at hv
  injection hv with hv; subst hv
  exact one_of (List.all_eq_true.1 h _ (List.getElem_mem hjl)) hdv
theorem appx_ok (hi : Inv w0 FP wr m nx H B w) {ts : Array TypeId} {l : List AV} {K : Kv} (h : appx P wr ts l m nx K) {vs : List Value} (hd : DenL H B l vs) (tr : TypeId) (cc : Array Bool) :
    Gives P w0 FP wr H B K ((builtin .append ts tr cc vs.toArray).run P w) := by
  unfold appx at h
  split at h
  · rename_i ty ty' dst src hts
    obtain ⟨rfl, e, he, s, hs, hpos, bt, hbt, z, hz, hzl, q, hq, hql, hone, h⟩ := h
    obtain ⟨mm, new⟩ := q
    have hts' : ts = #[ty', ty'] := by rw [← Array.toArray_toList (xs := ts), hts]
    subst hts'
    simp only [DenL] at hd
    obtain ⟨u1, r1, rfl, hd1, u2, r2, rfl, hd2, rfl⟩ := hd
    obtain ⟨A, c, cs2, rfl, hmc, hdn, hA⟩ := srcx_ok hi hq hql hd2
    obtain ⟨zv, hzr, hzd⟩ := zav_run hz w H B
    unfold zav at hz
    obtain ⟨vv, hvv, _⟩ := Option.map_eq_some_iff.1 hz
    obtain ⟨i, hii, hzz⟩ := Option.bind_eq_some_iff.1 hvv
    have hsz : i.size = s := by unfold sizeT at hs; rw [hii] at hs; simpa using hs
    have hby : i.bytes = bt := by unfold bytesT at hbt; rw [hii] at hbt; simpa using hbt
    have hcsl : cs2.length = mm * i.size := by rw [hdn.length, hql, hsz]
    have hfin : ∀ {v : Value} {w' : World} {av m' nx' B'}, (Builtin.append_ #[ty', ty'] tr #[u1, .slice A mm c]).run P w = .ok v w' → Inv w0 FP wr m' nx' H B' w' → Ext H B H B' → Den H B' av v → K av m' nx' →
        Gives P w0 FP wr H B K ((builtin .append #[ty', ty'] tr cc [u1, .slice A mm c].toArray).run P w) := by
      intro v w' av m' nx' B' hr h1 h2 h3 h4
      refine ⟨v, av, m', nx', B', w', .inl ?_, h1, h2, h3, h4⟩
      show (do pure (.value (← Builtin.append_ #[ty', ty'] tr #[u1, .slice A mm c])) : Sem Next).run P w = _
      simp only [Sem.run_bind, hr, Result.andThen_ok, Sem.run_pure]
    unfold appk at h
    split at h
    · obtain ⟨hb1, hb2, h0, hk⟩ := h
      simp only at hb1 hb2 h0 hk
      simp only [Den] at hd1
      subst hd1
      by_cases hm0 : mm = 0
      · subst hm0
        exact hfin (append_zero ty' tr e s he hs none 0 0 (Nat.le_refl _) A c w) hi (Ext.refl _ _) (by simp only [Den]) (h0 rfl)
      · have hms : mm * s ≠ 0 := Nat.mul_ne_zero hm0 (by omega)
        obtain ⟨ad, rfl, hcell⟩ := hA.resolve_right hms
        have hr := run_append_nil (P := P) w ty' tr e i vv (elemT_some he) hii hzz ad mm c cs2 hcsl hcell (by omega) (by omega) (by rw [hby]; omega)
        have hge := grownCap_ge w mm 0 e
        have hle := grownCap_le_maxLen w mm 0 e (by unfold maxLen; omega)
        generalize hgc : grownCap w mm 0 e = gc at hr hge hle
        have hx := ext_bind1 (H := H) (b := w.heap.size) (hi.fresh nx (Nat.le_refl _))
        obtain ⟨g1, g2⟩ := hi.renew (m' := m) (fun _ _ h => h) hi.keep (b := w.heap.size) (.inl rfl) (w' := w.drew.alloc (.cells (cs2.toArray ++ Builtin.zeroCells vv.cells (gc - mm)) e)) rfl rfl rfl (by simp)
          (fun k hk _ => heap_alloc_old w.drew _ k hk) (o := .cells (new ++ (Builtin.zeroCells vv.cells (gc - mm)).toList.map .val) e)
          ⟨cs2 ++ (Builtin.zeroCells vv.cells (gc - mm)).toList, by rw [show w.heap.size = w.drew.heap.size from rfl, heap_alloc_new]; congr 2; apply Array.ext'; simp, (hdn.append (denL_val _ _ _)).mono hx⟩
        refine hfin hr g1 g2 (av := .sl nx 0 mm gc) (by simp only [Den]; exact ⟨_, _, bind1_same _ _ _, rfl, hge, fun _ => rfl⟩) (hk (by omega) gc _ hge (by unfold maxI; unfold maxLen at hle; omega) ?_)
        have hzc : vv.cells.size = s := by
          have : zv = vv := by simp [zeroValue, typeInfo, hii, hzz] at hzr; exact hzr.symm
          subst this
          rw [← Array.length_toList, hzd.length, hzl]
        simp [size_zeroCells, hzc]
    · rename_i n off len cap
      rcases h with ⟨rfl, hw, h⟩ | ⟨hw, h⟩
      rotate_left
      · split at h
        · rename_i lo e' hn
          obtain ⟨rfl, hll, hcm, hb1, hb2, hk1, hk2⟩ := h
          simp only at hb1 hb2 hk1 hk2
          have hd1' := hd1
          simp only [Den] at hd1'
          obtain ⟨b, ad1, hb, rfl, hlc, had1⟩ := hd1'
          obtain ⟨b', cs, hb', hc, hdo⟩ := obj_cells hi hn
          rw [hb] at hb'; injection hb' with hb'; subst hb'
          have hcsz : cs.length = lo.length := hdo.length
          by_cases hroom : len + mm ≤ cap
          · have hcs2 : cs2.length = mm * s := by rw [hcsl, hsz]
            have hbig : (len + mm) * s ≤ cap * s := Nat.mul_le_mul_right _ hroom
            have hadd : (len + mm) * s = len * s + mm * s := Nat.add_mul _ _ _
            have hr : (Builtin.append_ #[ty', ty'] tr #[.slice (some ad1) len cap, .slice A mm c]).run P w = .ok (.slice (some ad1) (len + mm) cap) (w.setRow b (cs.take (off + len * s) ++ cs2 ++ cs.drop (off + len * s + cs2.length)).toArray) := by
              by_cases hm0 : mm = 0
              · subst hm0
                have hnil : cs2 = [] := List.eq_nil_of_length_eq_zero (by rw [hcs2]; simp)
                subst hnil
                simp only [List.append_nil, List.length_nil, Nat.add_zero, List.take_append_drop]
                rw [setRow_self w b cs.toArray e' (0, 0) hc]
                exact append_zero ty' tr e' s he hs (some ad1) len cap hlc A c w
              · have hms : mm * s ≠ 0 := Nat.mul_ne_zero hm0 (by omega)
                obtain ⟨ad, rfl, hcell⟩ := hA.resolve_right hms
                rw [had1 (by omega)]
                have hst := run_storeCells_at P b (off + len * s) e' cs2 0 cs.toArray w hc (by rw [hcs2, List.size_toArray, hcsz]; omega) (one_all hone hdn)
                have hfc := run_firstCells_some (P := P) w i.size mm ad mm c cs2 hcsl hcell
                simp only [Nat.add_zero] at hst
                rw [hsz] at hfc
                simp [Builtin.append_, run_underlying (elemT_some he), sizeOf, typeInfo, hii, hsz, Builtin.lenOf, hroom, hfc, Addr.add_lit, hst]
            refine hfin hr (hi.write (o' := .cells (spl lo (off + len * s) new) e') hn hw hb (by simp) rfl rfl rfl (fun k hk => setRow_other w b k _ hk) ⟨_, setRow_heap w b cs.toArray _ e' (0, 0) hc, ?_⟩) (Ext.refl _ _) (av := .sl n off (len + mm) cap) ?_ (hk1 hroom)
            · unfold spl
              rw [hdn.length]
              exact ((hdo.take _).append hdn).append (hdo.drop _)
            · simp only [Den]; exact ⟨_, _, hb, rfl, hroom, had1⟩
          · have hms : mm * s ≠ 0 := Nat.mul_ne_zero (by omega) (by omega)
            obtain ⟨ad, rfl, hcell⟩ := hA.resolve_right hms
            have hlcs : len * s ≤ cap * s := Nat.mul_le_mul_right _ hlc
            have holds : ∀ j v, ((cs.drop off).take (len * i.size))[j]? = some v → w.cell? (ad1.add j) = some v := fun j v hj => by
              have hjl : j < len * i.size := by have := (List.getElem?_eq_some_iff.1 hj).1; simp only [List.length_take] at this; omega
              have hcz : cap ≠ 0 := by intro h0; subst h0; have : len = 0 := by omega
                                       subst this; simp at hjl
              rw [had1 hcz, Addr.add_mid, cell_at w hc]
              rw [List.getElem?_take, if_pos hjl, List.getElem?_drop] at hj
              exact hj
            have hlo' : ((cs.drop off).take (len * i.size)).length = len * i.size := by
              rw [List.length_take, List.length_drop, hcsz, hsz, Nat.min_eq_left]; omega
            have hr := run_append_grow (P := P) w ty' tr e' i vv (elemT_some he) hii hzz ad1 len cap ((cs.drop off).take (len * i.size)) hlo' holds ad mm c cs2 hcsl hcell (by omega) (by omega) (by rw [hby]; exact growslice_fits (by omega) hb1)
            have hge := grownCap_ge w (len + mm) cap e'
            have hle := grownCap_le_maxLen w (len + mm) cap e' (by unfold maxLen; omega)
            generalize hgc : grownCap w (len + mm) cap e' = gc at hr hge hle
            have hx' := ext_bind1 (H := H) (b := w.heap.size) (hi.fresh nx (Nat.le_refl _))
            obtain ⟨g1, g2⟩ := hi.renew (m' := m) (fun _ _ h => h) hi.keep (b := w.heap.size) (.inl rfl) (w' := w.drew.alloc (.cells (((cs.drop off).take (len * i.size)).toArray ++ cs2.toArray ++ Builtin.zeroCells vv.cells (gc - (len + mm))) e')) rfl rfl rfl (by simp)
              (fun k hk _ => heap_alloc_old w.drew _ k hk) (o := .cells ((lo.drop off).take (len * s) ++ new ++ (Builtin.zeroCells vv.cells (gc - (len + mm))).toList.map .val) e')
              ⟨(cs.drop off).take (len * s) ++ cs2 ++ (Builtin.zeroCells vv.cells (gc - (len + mm))).toList, by
                rw [show w.heap.size = w.drew.heap.size from rfl, heap_alloc_new]; congr 2; apply Array.ext'; simp [hsz], ((((hdo.drop _).take _).append hdn).append (denL_val _ _ _)).mono hx'⟩
            refine hfin hr g1 g2 (av := .sl nx 0 (len + mm) gc) (by simp only [Den]; exact ⟨_, _, bind1_same _ _ _, rfl, hge, fun _ => rfl⟩) (hk2 (by omega) gc _ hge (by unfold maxI; unfold maxLen at hle; omega) ?_)
            have hzc : vv.cells.size = s := by
              have : zv = vv := by simp [zeroValue, typeInfo, hii, hzz] at hzr; exact hzr.symm
              subst this
              rw [← Array.length_toList, hzd.length, hzl]
            simp [size_zeroCells, hzc]
        · exact h.elim
      split at h
      · rename_i lo e' hn
        obtain ⟨rfl, hll, hcm, hb1, hb2, hk⟩ := h
        simp only at hb1 hb2 hk
        have hd1' := hd1
        simp only [Den] at hd1'
        obtain ⟨b, ad1, hb, rfl, hlc, had1⟩ := hd1'
        obtain ⟨b', cs, hb', hc, hdo⟩ := obj_cells hi hn
        rw [hb] at hb'; injection hb' with hb'; subst hb'
        have hx := ext_bind1 (H := H) (b := b) (hi.fresh nx (Nat.le_refl _))
        have hdel : ∀ k o, look (del m n) k = some o → look m k = some o := fun k o hko => by
          by_cases hkn : n = k
          · subst hkn; rw [look_del_same] at hko; cases hko
          · rwa [look_del_other hkn] at hko
        have hkp : ∀ k, wr k = false → ∃ o, look (del m n) k = some o := fun k hk => by
          obtain ⟨o, ho⟩ := hi.keep k hk
          have hkn : n ≠ k := fun e => by rw [← e, hw] at hk; cases hk
          exact ⟨o, by rw [look_del_other hkn]; exact ho⟩
        have hcsz : cs.length = cap * s := by rw [hdo.length, hll]
        by_cases hm0 : mm = 0
        · subst hm0
          have hnew : new = [] := List.eq_nil_of_length_eq_zero (by simpa using hql)
          subst hnew
          obtain ⟨g1, g2⟩ := hi.renew (m' := del m n) hdel hkp (b := b) (.inr ⟨n, _, hn, hw, hb, look_del_same m n⟩) (w' := w) rfl rfl rfl (Nat.le_refl _) (fun k hk _ => rfl)
            (o := .cells (lo.take (len * s) ++ [] ++ (cs.drop (len * s)).map .val) e') ⟨cs.take (len * s) ++ cs.drop (len * s), by rw [List.take_append_drop]; exact hc, by rw [List.append_nil]; exact ((hdo.take _).append (denL_val _ _ _)).mono hx⟩
          refine hfin (append_zero ty' tr e' s he hs (some ad1) len cap hlc A c w) g1 g2 (av := .sl nx 0 (len + 0) cap) ?_ (hk cap _ (by omega) hcm ?_)
          · simp only [Den]; exact ⟨_, _, bind1_same _ _ _, rfl, hlc, had1⟩
          · simp [hcsz, Nat.sub_mul]
        · have hms : mm * s ≠ 0 := Nat.mul_ne_zero hm0 (by omega)
          obtain ⟨ad, rfl, hcell⟩ := hA.resolve_right hms
          by_cases hroom : len + mm ≤ cap
          · have hcz : cap ≠ 0 := by omega
            have e1 := had1 hcz
            subst e1
            have hfit : len * i.size + cs2.length ≤ cs.toArray.size := by
              rw [hcsl, hsz, ← Nat.add_mul, List.size_toArray, hcsz]
              exact Nat.mul_le_mul_right _ hroom
            have hr := run_append_room (P := P) w ty' tr e' i (elemT_some he) hii b len cap cs.toArray hc ad mm c cs2 hcsl hcell (one_all hone hdn) hroom hfit
            have hbig : (len + mm) * s ≤ cap * s := Nat.mul_le_mul_right _ hroom
            have hadd : (len + mm) * s = len * s + mm * s := Nat.add_mul _ _ _
            obtain ⟨g1, g2⟩ := hi.renew (m' := del m n) hdel hkp (b := b) (.inr ⟨n, _, hn, hw, hb, look_del_same m n⟩) (w' := w.setRow b (cs.toArray.toList.take (len * i.size) ++ cs2 ++ cs.toArray.toList.drop (len * i.size + cs2.length)).toArray) rfl rfl rfl (by simp) (fun k hk hne => setRow_other w b k _ hne)
              (o := .cells (lo.take (len * s) ++ new ++ (cs.drop (len * s + mm * s)).map .val) e')
              ⟨_, setRow_heap w b cs.toArray _ e' (0, 0) hc, by
                rw [hsz, hcsl, hsz]
                exact (((hdo.take _).append hdn).append (denL_val _ _ _)).mono hx⟩
            refine hfin hr g1 g2 (av := .sl nx 0 (len + mm) cap) ?_ (hk cap _ hroom hcm ?_)
            · simp only [Den]; exact ⟨_, _, bind1_same _ _ _, rfl, hroom, fun _ => rfl⟩
            · simp only [List.length_drop, hcsz, Nat.sub_mul, hadd]
          · have holds : ∀ j v, (cs.take (len * i.size))[j]? = some v → w.cell? (ad1.add j) = some v := fun j v hj => by
              have hjl : j < len * i.size := by have := (List.getElem?_eq_some_iff.1 hj).1; simp only [List.length_take] at this; omega
              have hcz : cap ≠ 0 := by intro h0; subst h0; have : len = 0 := by omega
                                       subst this; simp at hjl
              rw [had1 hcz, Addr.add_mid, Nat.zero_add, cell_at w hc]
              rw [List.getElem?_take, if_pos hjl] at hj
              exact hj
            have hlo' : (cs.take (len * i.size)).length = len * i.size := by
              rw [List.length_take, hcsz, hsz, Nat.min_eq_left]; exact Nat.mul_le_mul_right _ hlc
            have hr := run_append_grow (P := P) w ty' tr e' i vv (elemT_some he) hii hzz ad1 len cap (cs.take (len * i.size)) hlo' holds ad mm c cs2 hcsl hcell (by omega) (by omega) (by rw [hby]; exact growslice_fits (by omega) hb1)
            have hge := grownCap_ge w (len + mm) cap e'
            have hle := grownCap_le_maxLen w (len + mm) cap e' (by unfold maxLen; omega)
            generalize hgc : grownCap w (len + mm) cap e' = gc at hr hge hle
            have hx' := ext_bind1 (H := H) (b := w.heap.size) (hi.fresh nx (Nat.le_refl _))
            obtain ⟨g1, g2⟩ := hi.renew (m' := del m n) hdel hkp (b := w.heap.size) (.inl rfl) (w' := w.drew.alloc (.cells ((cs.take (len * i.size)).toArray ++ cs2.toArray ++ Builtin.zeroCells vv.cells (gc - (len + mm))) e')) rfl rfl rfl (by simp)
              (fun k hk _ => heap_alloc_old w.drew _ k hk) (o := .cells (lo.take (len * s) ++ new ++ (Builtin.zeroCells vv.cells (gc - (len + mm))).toList.map .val) e')
              ⟨cs.take (len * s) ++ cs2 ++ (Builtin.zeroCells vv.cells (gc - (len + mm))).toList, by
                rw [show w.heap.size = w.drew.heap.size from rfl, heap_alloc_new]; congr 2; apply Array.ext'; simp [hsz], (((hdo.take _).append hdn).append (denL_val _ _ _)).mono hx'⟩
            refine hfin hr g1 g2 (av := .sl nx 0 (len + mm) gc) (by simp only [Den]; exact ⟨_, _, bind1_same _ _ _, rfl, hge, fun _ => rfl⟩) (hk gc _ hge (by unfold maxI; unfold maxLen at hle; omega) ?_)
            have hzc : vv.cells.size = s := by
              have : zv = vv := by simp [zeroValue, typeInfo, hii, hzz] at hzr; exact hzr.symm
              subst this
              rw [← Array.length_toList, hzd.length, hzl]
            simp [size_zeroCells, hzc]
      · exact h.elim
    · exact h.elim
  · exact h.elim

/-! copy -/
def cpyx (P : Program) (wr : Nat → Bool) (ts : Array TypeId) (l : List AV) (m : Mem) (nx : Nat) (K : Kv) : Prop :=
  match ts.toList, l with
  | ty :: _, [.sl n off len cap, src] => ∃ e, elemT P ty = some e ∧ ∃ s, sizeT P e = some s ∧ ∃ q, srcx m s src = some q ∧ q.2.length = q.1 * s ∧ q.2.all one1 = true ∧ wr n = true ∧ match look m n with
    | some (.cells l e') => off + len * s ≤ l.length ∧ K (.int .i64 (min (q.1 : Int) (len : Int))) (upd m n (.cells (spl l off (q.2.take (min q.1 len * s))) e')) nx
    | _ => False
  | _, _ => False
theorem cpyx_ok (hi : Inv w0 FP wr m nx H B w) {ts : Array TypeId} {l : List AV} {K : Kv} (h : cpyx P wr ts l m nx K) {vs : List Value} (hd : DenL H B l vs) (tr : TypeId) (cc : Array Bool) :
    Gives P w0 FP wr H B K ((builtin .copy ts tr cc vs.toArray).run P w) := by
  unfold cpyx at h
  split at h
  · rename_i ty rest n off len cap src hts
    obtain ⟨e, he, s, hs, q, hq, hql, hone, hw, h⟩ := h
    obtain ⟨mm, new⟩ := q
    simp only at hql hone h
    split at h
    · rename_i lo e' hn
      obtain ⟨hle, hk⟩ := h
      simp only [DenL] at hd
      obtain ⟨u1, r1, rfl, hd1, u2, r2, rfl, hd2, rfl⟩ := hd
      obtain ⟨A, c, cs2, rfl, hmc, hdn, hA⟩ := srcx_ok hi hq hql hd2
      simp only [Den] at hd1
      obtain ⟨b, ad1, hb, rfl, hlc, had1⟩ := hd1
      obtain ⟨b', cs, hb', hc, hdo⟩ := obj_cells hi hn
      rw [hb] at hb'; injection hb' with hb'; subst hb'
      have hts0 : ts[0]? = some ty := by rw [← Array.getElem?_toList, hts]; rfl
      have hmin : Nat.min mm len = min mm len := rfl
      have hlen2 : (cs2.take (min mm len * s)).length = min mm len * s := by
        rw [List.length_take, hdn.length, hql]; exact Nat.min_eq_left (Nat.mul_le_mul_right _ (Nat.min_le_left _ _))
      have hf : (Builtin.firstCells s (min mm len) (.slice A mm c)).run P w = .ok (cs2.take (min mm len * s)).toArray w := by
        rcases hA with ⟨ad, rfl, hcell⟩ | h0
        · refine run_firstCells_some w s (min mm len) ad mm c _ hlen2 fun j v hj => hcell j v ?_
          rw [List.getElem?_take] at hj
          split at hj
          · exact hj
          · cases hj
        · have h0' : min mm len * s = 0 := Nat.le_zero.1 (Nat.le_trans (Nat.mul_le_mul_right s (Nat.min_le_left mm len)) (by omega))
          rw [h0']
          cases A with
          | none => simp [Builtin.firstCells]
          | some ad => simp [Builtin.firstCells, h0', loadCells, loadCellsFrom]
      have hdt := hdn.take (min mm len * s)
      have hot := one_all hone hdn
      have hst : (storeCells ad1 (cs2.take (min mm len * s))).run P w = .ok () (w.setRow b (cs.take off ++ cs2.take (min mm len * s) ++ cs.drop (off + (cs2.take (min mm len * s)).length)).toArray) := by
        by_cases hz : min mm len * s = 0
        · rw [hz]
          simp only [List.take_zero, storeCells, List.append_nil, List.length_nil, Nat.add_zero, List.take_append_drop]
          rw [setRow_self w b cs.toArray e' (0, 0) hc]
          rfl
        · have hcz : cap ≠ 0 := by
            intro h0; subst h0
            have : len = 0 := by omega
            subst this; simp at hz
          rw [had1 hcz]
          have := run_storeCells_at P b off e' (cs2.take (min mm len * s)) 0 cs.toArray w hc (by
            have h1 : min mm len * s ≤ len * s := Nat.mul_le_mul_right _ (Nat.min_le_right _ _)
            rw [hlen2, List.size_toArray, hdo.length]; omega) (fun v hv => hot v (List.mem_of_mem_take hv))
          simpa using this
      refine ⟨.int .i64 (min (mm : Int) (len : Int)), .int .i64 (min (mm : Int) (len : Int)), _, nx, B, _, .inl ?_, hi.write (o' := .cells (spl lo off (new.take (min mm len * s))) e') hn hw hb (w' := w.setRow b (cs.take off ++ cs2.take (min mm len * s) ++ cs.drop (off + (cs2.take (min mm len * s)).length)).toArray) (by simp) rfl rfl rfl (fun k hk => setRow_other w b k _ hk)
        ⟨_, setRow_heap w b cs.toArray _ e' (0, 0) hc, ?_⟩, Ext.refl _ _, by simp only [Den], hk⟩
      · show (do pure (.value (← Builtin.copy_ ts tr #[.slice (some ad1) len cap, .slice A mm c])) : Sem Next).run P w = _
        simp only [Builtin.copy_, hts0, Sem.run_bind, run_underlying (elemT_some he), Result.andThen_ok, Builtin.lenOf, Sem.run_pure, sizeT_run hs, List.getElem?_toArray, List.getElem?_cons_zero, List.getElem?_cons_succ, hmin, hf, hst, goInt]
        rw [show ((min mm len : Nat) : Int) = min (mm : Int) (len : Int) from by omega]
      · unfold spl
        rw [hdt.length]
        exact ((hdo.take off).append hdt).append (hdo.drop _)
    · exact h.elim
  · exact h.elim
end
end Go.Eng
end
section
/- The engine, part 36: a slice with zeros appended (append of make). Own work, after the kit's laws on append-of-make. -/
set_option linter.unusedVariables false
set_option linter.unusedSimpArgs false
namespace Go.Eng
open Go
section
variable {P : Program} {w0 w : World} {FP : Nat → Prop} {wr rd : Nat → Bool} {m : Mem} {nx : Nat} {H : RO} {B : Names}

/-- is the second argument's type a number's? -/
def isZ (P : Program) (ts : Array TypeId) : Bool := match ts.toList with
  | [_, ty'] => (intT P ty').isSome
  | _ => false
def appz (P : Program) (wr : Nat → Bool) (ts : Array TypeId) (l : List AV) (m : Mem) (nx : Nat) (K : Kv) : Prop :=
  match ts.toList, l with
  | [ty, ty'], [.sl n off len cap, .int _ z] => (∃ q, intT P ty' = some q) ∧ 0 ≤ z ∧ z ≤ 1000000 ∧ ∃ e, elemT P ty = some e ∧ sizeT P e = some 1 ∧ ∃ bt, bytesT P e = some bt ∧ ∃ d, zav P e = some [d] ∧ one1 d = true ∧ wr n = true ∧ match look m n with
    | some (.cells l e') => e' = e ∧ off + cap ≤ l.length ∧ cap ≤ maxI ∧ (len + z.toNat) * bt ≤ 140737488355328 ∧ len + z.toNat ≤ 140737488355328 ∧
      (len + z.toNat ≤ cap → K (.sl n off (len + z.toNat) cap) (upd m n (.cells (spl l (off + len) (List.replicate z.toNat d)) e)) nx) ∧
      (cap < len + z.toNat → ∀ (cap' : Nat) (sp : List Value), len + z.toNat ≤ cap' → cap' ≤ maxI → sp.length = cap' - (len + z.toNat) → K (.sl nx 0 (len + z.toNat) cap') ((nx, .cells ((l.drop off).take len ++ List.replicate z.toNat d ++ sp.map AV.val) e) :: m) (nx + 1))
    | _ => False
  | _, _ => False
theorem append_zero_int (ty ti tr e : TypeId) (s : Nat) (kn : IntKind) (he : elemT P ty = some e) (hti : P.underlying ti = some (.int kn)) (hs : sizeT P e = some s) (base : Option Addr) (sl sc : Nat) (hle : sl ≤ sc) (k : IntKind) (w : World) :
    (Builtin.append_ #[ty, ti] tr #[.slice base sl sc, .int k 0]).run P w = .ok (.slice base sl sc) w := by
  have hu := elemT_some he
  unfold sizeT at hs
  obtain ⟨i, hi, e2⟩ := Option.map_eq_some_iff.1 hs
  have hw : IntKind.i64.wrap 0 = 0 := rfl
  cases base <;> simp [Builtin.append_, run_underlying hu, run_underlying hti, sizeOf, typeInfo, hi, asInt, asIntOf, hw, hle, storeCells]
theorem denL_rep {H : RO} {B : Names} {d : AV} {v : Value} (h : Den H B d v) : ∀ k : Nat, DenL H B (List.replicate k d) (List.replicate k v)
  | 0 => by simp [DenL]
  | k + 1 => by
    simp only [List.replicate_succ, DenL]
    exact ⟨v, _, rfl, h, denL_rep h k⟩
theorem appz_ok (hi : Inv w0 FP wr m nx H B w) {ts : Array TypeId} {l : List AV} {K : Kv} (h : appz P wr ts l m nx K) {vs : List Value} (hd : DenL H B l vs) (tr : TypeId) (cc : Array Bool) :
    Gives P w0 FP wr H B K ((builtin .append ts tr cc vs.toArray).run P w) := by
  unfold appz at h
  split at h
  · rename_i ty ty' n off len cap kz z hts
    obtain ⟨⟨q, hq⟩, hz0, hz1, e, he, hs, bt, hbt, d, hz, hone, hw, h⟩ := h
    have hts' : ts = #[ty, ty'] := by rw [← Array.toArray_toList (xs := ts), hts]
    subst hts'
    simp only [DenL] at hd
    obtain ⟨u1, r1, rfl, hd1, u2, r2, rfl, hd2, rfl⟩ := hd
    have hu2 : u2 = .int kz z := by simpa only [Den] using hd2
    subst hu2
    obtain ⟨k, rfl⟩ : ∃ k : Nat, z = (k : Int) := ⟨z.toNat, by omega⟩
    simp only [Int.toNat_natCast] at h
    split at h
    rotate_left
    · exact h.elim
    rename_i lo e' hn
    obtain ⟨rfl, hll, hcm, hb1, hb2, hk1, hk2⟩ := h
    simp only [Den] at hd1
    obtain ⟨b, ad1, hb, rfl, hlc, had1⟩ := hd1
    obtain ⟨b', cs, hb', hc, hdo⟩ := obj_cells hi hn
    rw [hb] at hb'; injection hb' with hb'; subst hb'
    have hcsz : cs.length = lo.length := hdo.length
    obtain ⟨zv, hzr, hzd⟩ := zav_run hz w H B
    unfold zav at hz
    obtain ⟨vv, hvv, _⟩ := Option.map_eq_some_iff.1 hz
    obtain ⟨i, hii, hzz⟩ := Option.bind_eq_some_iff.1 hvv
    have hsz : i.size = 1 := by unfold sizeT at hs; rw [hii] at hs; simpa using hs
    have hby : i.bytes = bt := by unfold bytesT at hbt; rw [hii] at hbt; simpa using hbt
    have hzv : zv = vv := by simp [zeroValue, typeInfo, hii, hzz] at hzr; exact hzr.symm
    subst hzv
    have hfin : ∀ {v : Value} {w' : World} {av m' nx' B'}, (Builtin.append_ #[ty, ty'] tr #[.slice (some ad1) len cap, .int kz (k : Int)]).run P w = .ok v w' → Inv w0 FP wr m' nx' H B' w' → Ext H B H B' → Den H B' av v → K av m' nx' →
        Gives P w0 FP wr H B K ((builtin .append #[ty, ty'] tr cc [.slice (some ad1) len cap, .int kz (k : Int)].toArray).run P w) := by
      intro v w' av m' nx' B' hr h1 h2 h3 h4
      refine ⟨v, av, m', nx', B', w', .inl ?_, h1, h2, h3, h4⟩
      show (do pure (.value (← Builtin.append_ #[ty, ty'] tr #[.slice (some ad1) len cap, .int kz (k : Int)])) : Sem Next).run P w = _
      simp only [Sem.run_bind, hr, Result.andThen_ok, Sem.run_pure]
    -- the zeros
    have hzl : ∃ zc : Value, zv.cells.toList = [zc] ∧ Den H B d zc := by
      simp only [DenL] at hzd
      obtain ⟨zc, s', e1, e2, rfl⟩ := hzd
      exact ⟨zc, e1, e2⟩
    obtain ⟨zc, hzc, hdz⟩ := hzl
    have hzk : (Builtin.zeroCells zv.cells k).toList = List.replicate k zc := by
      have : zv.cells = #[zc] := by rw [← hzc]
      rw [this]
      simp only [Builtin.zeroCells, List.size_toArray, List.length_singleton, Nat.mul_one, Array.toList_map, Array.toList_range, Nat.mod_one]
      simp
      rw [List.map_const', List.length_range]
    have hzd' : DenL H B (List.replicate k d) (List.replicate k zc) := denL_rep hdz k
    have h1c : ∀ u ∈ List.replicate k zc, u.oneCell' = true := fun u hu => by
      rw [List.eq_of_mem_replicate hu]; exact one_of hone hdz
    have hti : P.underlying ty' = some (.int q) := intT_some hq
    have hw1 : IntKind.i64.wrap (k : Int) = k := by rw [IntKind.wrap_i64]; omega
    have hneg : ¬ ((k : Int) < 0) := by omega
    by_cases hroom : len + k ≤ cap
    · have hr : (Builtin.append_ #[ty, ty'] tr #[.slice (some ad1) len cap, .int kz (k : Int)]).run P w = .ok (.slice (some ad1) (len + k) cap) (w.setRow b (cs.take (off + len) ++ List.replicate k zc ++ cs.drop (off + len + (List.replicate k zc).length)).toArray) := by
        by_cases hk0 : k = 0
        · subst hk0
          simp only [List.replicate_zero, List.append_nil, List.length_nil, Nat.add_zero, List.take_append_drop]
          rw [setRow_self w b cs.toArray e' (0, 0) hc]
          exact append_zero_int ty ty' tr e' 1 q he hti hs (some ad1) len cap hlc kz w
        · have e1 := had1 (by omega)
          subst e1
          have hst := run_storeCells_at P b (off + len) e' (List.replicate k zc) 0 cs.toArray w hc (by rw [List.length_replicate, List.size_toArray, hcsz]; omega) h1c
          simp only [Nat.add_zero] at hst
          have h48i : ¬ (281474976710656 < (k : Int) * (i.bytes : Int)) := by
            rw [← Int.natCast_mul, hby]
            have : k * bt ≤ (len + k) * bt := Nat.mul_le_mul_right _ (by omega)
            omega
          simp [Builtin.append_, run_underlying (elemT_some he), run_underlying hti, sizeOf, typeInfo, zeroValue, hii, hzz, hsz, asInt, asIntOf, hw1, hneg, hk0, h48i, hroom, Addr.add_lit, hzk, hst]
      refine hfin hr (hi.write (o' := .cells (spl lo (off + len) (List.replicate k d)) e') hn hw hb (by simp) rfl rfl rfl (fun k hk => setRow_other w b k _ hk) ⟨_, setRow_heap w b cs.toArray _ e' (0, 0) hc, ?_⟩) (Ext.refl _ _) (av := .sl n off (len + k) cap) ?_ (hk1 hroom)
      · unfold spl
        rw [hzd'.length]
        exact ((hdo.take _).append hzd').append (hdo.drop _)
      · simp only [Den]; exact ⟨_, _, hb, rfl, hroom, had1⟩
    · have holds : ∀ j v, ((cs.drop off).take len)[j]? = some v → w.drew.cell? (ad1.add j) = some v := fun j v hj => by
        have hjl : j < len := by have := (List.getElem?_eq_some_iff.1 hj).1; simp only [List.length_take] at this; omega
        have hcz : cap ≠ 0 := by omega
        show w.cell? (ad1.add j) = some v
        rw [had1 hcz, Addr.add_mid, cell_at w hc]
        rw [List.getElem?_take, if_pos hjl, List.getElem?_drop] at hj
        exact hj
      have hlo' : ((cs.drop off).take len).length = len * i.size := by
        rw [List.length_take, List.length_drop, hcsz, hsz, Nat.min_eq_left]; omega
        omega
      have hold := run_firstCells_some (P := P) w.drew i.size len ad1 len cap ((cs.drop off).take len) hlo' holds
      have hfit : Builtin.nextslicecap (len + k) cap * i.bytes ≤ 281474976710656 := by rw [hby]; exact growslice_fits (by omega) hb1
      have h48 : k * i.bytes ≤ 281474976710656 := by
        rw [hby]
        have : k * bt ≤ (len + k) * bt := Nat.mul_le_mul_right _ (by omega)
        omega
      have hr := Go.Lib.run_append_grow_zeros (P := P) w ty ty' tr e' i zv kz q (elemT_some he) hti hii hzz (some ad1) len cap ((cs.drop off).take len) hold k (by omega) (by omega) (by omega) (by omega) h48 hfit
      have hge := grownCap_ge w (len + k) cap e'
      have hle := grownCap_le_maxLen w (len + k) cap e' (by unfold maxLen; omega)
      generalize hgc : grownCap w (len + k) cap e' = gc at hr hge hle
      have hx' := ext_bind1 (H := H) (b := w.heap.size) (hi.fresh nx (Nat.le_refl _))
      obtain ⟨g1, g2⟩ := hi.renew (m' := m) (fun _ _ h => h) hi.keep (b := w.heap.size) (.inl rfl) (w' := w.drew.alloc (.cells (((cs.drop off).take len).toArray ++ Builtin.zeroCells zv.cells k ++ Builtin.zeroCells zv.cells (gc - (len + k))) e')) rfl rfl rfl (by simp)
        (fun k hk _ => heap_alloc_old w.drew _ k hk) (o := .cells ((lo.drop off).take len ++ List.replicate k d ++ (Builtin.zeroCells zv.cells (gc - (len + k))).toList.map .val) e')
        ⟨(cs.drop off).take len ++ List.replicate k zc ++ (Builtin.zeroCells zv.cells (gc - (len + k))).toList, by
          rw [show w.heap.size = w.drew.heap.size from rfl, heap_alloc_new]; congr 2; apply Array.ext'; simp [hzk], ((((hdo.drop _).take _).append hzd').append (denL_val _ _ _)).mono hx'⟩
      refine hfin hr g1 g2 (av := .sl nx 0 (len + k) gc) (by simp only [Den]; exact ⟨_, _, bind1_same _ _ _, rfl, hge, fun _ => rfl⟩) (hk2 (by omega) gc _ hge (by unfold maxI; unfold maxLen at hle; omega) ?_)
      have hzs : zv.cells.size = 1 := by rw [← Array.length_toList, hzc]; rfl
      simp [size_zeroCells, hzs]
  · exact h.elim
/-- an append: of a slice, or of so many zeros -/
def appq (P : Program) (wr : Nat → Bool) (ts : Array TypeId) (l : List AV) (m : Mem) (nx : Nat) (K : Kv) : Bool → Prop
  | true => appz P wr ts l m nx K
  | false => appx P wr ts l m nx K
theorem appq_ok (hi : Inv w0 FP wr m nx H B w) {ts : Array TypeId} {l : List AV} {K : Kv} {z : Bool} (h : appq P wr ts l m nx K z) {vs : List Value} (hd : DenL H B l vs) (tr : TypeId) (cc : Array Bool) :
    Gives P w0 FP wr H B K ((builtin .append ts tr cc vs.toArray).run P w) := by
  cases z with
  | true => exact appz_ok hi h hd tr cc
  | false => exact appx_ok hi h hd tr cc
theorem isZ_two (P : Program) (a b : TypeId) : isZ P #[a, b] = (intT P b).isSome := rfl
theorem appq_true (P : Program) (wr : Nat → Bool) (ts : Array TypeId) (l : List AV) (m : Mem) (nx : Nat) (K : Kv) : appq P wr ts l m nx K true = appz P wr ts l m nx K := rfl
theorem appq_false (P : Program) (wr : Nat → Bool) (ts : Array TypeId) (l : List AV) (m : Mem) (nx : Nat) (K : Kv) : appq P wr ts l m nx K false = appx P wr ts l m nx K := rfl
/-- which function a method of a type is, whose receiver it gets as it is -/
def methT (P : Program) (t : TypeId) (name : String) (f : FuncId) : Prop := ∀ (v : Value) (w : World), (method (P.types.size + Made.depth) t v name).run P w = .ok (f, v) w
end
end Go.Eng
end
section
/- The engine, part 16: maps whose keys are numbers: made, written, read. Own work. -/
set_option linter.unusedVariables false
set_option linter.unusedSimpArgs false
namespace Go.Eng
open Go Go.MapKept Go.RowKit

/-- a map type whose keys are numbers: the keys' kind, the elements' type -/
def mapT (P : Program) (t : TypeId) : Option (IntKind × TypeId) := match P.underlying t with
  | some (.map kt et) => match P.underlying kt with
    | some (.int k) => some (k, et)
    | _ => none
  | _ => none
theorem mapT_some {P : Program} {t : TypeId} {q : IntKind × TypeId} (h : mapT P t = some q) : ∃ kt, P.underlying t = some (.map kt q.2) ∧ P.underlying kt = some (.int q.1) := by
  unfold mapT at h
  split at h
  · rename_i kt et h1
    split at h
    · rename_i k h2; cases h; exact ⟨kt, h1, h2⟩
    · cases h
  · cases h
def zval (P : Program) (t : TypeId) : Option AV := ((P.info? t).bind (·.zero)).map cst
theorem zval_run {P : Program} {t z} (h : zval P t = some z) (w : World) (H : RO) (B : Names) : ∃ v, (zeroValue t).run P w = .ok v w ∧ Den H B z v := by
  unfold zval at h
  obtain ⟨v, hv, e⟩ := Option.map_eq_some_iff.1 h
  obtain ⟨i, hi, hz⟩ := Option.bind_eq_some_iff.1 hv
  exact ⟨v, by simp [zeroValue, typeInfo, hi, hz], by rw [← e]; exact den_cst H B v⟩
/-- what stands at a key -/
def mfind (z : Int) : List Int → List AV → Option AV
  | k :: ks, v :: vs => if k = z then some v else mfind z ks vs
  | _, _ => none
def mputv (z : Int) (x : AV) : List Int → List AV → List AV
  | k :: ks, v :: vs => if k = z then x :: vs else v :: mputv z x ks vs
  | _, _ => [x]
def mputk (z : Int) : List Int → List Int
  | k :: ks => if k = z then k :: ks else k :: mputk z ks
  | [] => [z]
theorem mfind_cons (z k : Int) (ks : List Int) (v : AV) (vs : List AV) : mfind z (k :: ks) (v :: vs) = if k = z then some v else mfind z ks vs := rfl
theorem mfind_nil (z : Int) (vs : List AV) : mfind z [] vs = none := by cases vs <;> rfl
theorem mputv_cons (z k : Int) (x : AV) (ks : List Int) (v : AV) (vs : List AV) : mputv z x (k :: ks) (v :: vs) = if k = z then x :: vs else v :: mputv z x ks vs := rfl
theorem mputv_nil (z : Int) (x : AV) (vs : List AV) : mputv z x [] vs = [x] := by cases vs <;> rfl
theorem mputk_cons (z k : Int) (ks : List Int) : mputk z (k :: ks) = if k = z then k :: ks else k :: mputk z ks := rfl
theorem mputk_nil (z : Int) : mputk z [] = [z] := rfl
section
variable {P : Program} {w0 w : World} {FP : Nat → Prop} {wr rd : Nat → Bool} {m : Mem} {nx : Nat} {H : RO} {B : Names} {N : Nat} {t : Slots} {a : Act}

theorem mfind_spec (k : IntKind) (z : Int) : ∀ (keys : List Int) (vals : List AV) (ms : List MapEntry) (i : Nat), ms.map (·.key) = keys.map (Value.int k) → DenL H B vals (ms.map (·.val)) →
    (Instr.findNow (.int k) (.int k z) ms i = some none ∧ mfind z keys vals = none ∧ mputk z keys = keys ++ [z] ∧ ∀ x, mputv z x keys vals = vals ++ [x]) ∨
    ∃ j e v, Instr.findNow (.int k) (.int k z) ms i = some (some (i + j, e.val)) ∧ ms[j]? = some e ∧ e.key = .int k z ∧ mfind z keys vals = some v ∧ Den H B v e.val ∧ mputk z keys = keys ∧ ∀ x, mputv z x keys vals = vals.set j x
  | [], vals, ms, i, h1, h2 => by
    have : ms = [] := by simpa using h1
    subst this
    simp only [List.map_nil] at h2
    have hv : vals = [] := by
      have := h2.length
      exact List.eq_nil_of_length_eq_zero (by simpa using this.symm)
    subst hv
    exact .inl ⟨rfl, rfl, rfl, fun x => rfl⟩
  | y :: ks, vals, [], i, h1, h2 => by simp at h1
  | y :: ks, vals, e :: ms, i, h1, h2 => by
    simp only [List.map_cons, List.cons.injEq] at h1
    obtain ⟨hk, hr⟩ := h1
    cases vals with
    | nil => simp only [List.map_cons, DenL] at h2; cases h2
    | cons v vs =>
      simp only [List.map_cons, DenL] at h2
      obtain ⟨u, s, e1, hd, hds⟩ := h2
      simp only [List.cons.injEq] at e1
      obtain ⟨rfl, rfl⟩ := e1
      have hs : Instr.sameNow (.int k) (.int k z) e.key = some (z == y) := by rw [hk]; simp [Instr.sameNow]
      by_cases hz : y = z
      · subst hz
        refine .inr ⟨0, e, v, ?_, rfl, hk, by simp [mfind], hd, by simp [mputk], fun x => by simp [mputv]⟩
        simp [Instr.findNow, hs]
      · have hb : (z == y) = false := by simpa using Ne.symm hz
        rw [hb] at hs
        have hf : Instr.findNow (.int k) (.int k z) (e :: ms) i = Instr.findNow (.int k) (.int k z) ms (i + 1) := by simp [Instr.findNow, hs]
        rw [hf]
        simp only [mfind, mputk, mputv, if_neg hz]
        rcases mfind_spec k z ks vs ms (i + 1) hr hds with ⟨a1, a2, a3, a4⟩ | ⟨j, e', v', a1, a2, a3, a4, a5, a6, a7⟩
        · exact .inl ⟨a1, a2, by rw [a3]; rfl, fun x => by rw [a4]; rfl⟩
        · exact .inr ⟨j + 1, e', v', by rw [a1]; congr 3; omega, by simpa using a2, a3, a4, a5, by rw [a6], fun x => by rw [a7]; rfl⟩

theorem undef_den0 : Den H B (.tup []) undef := by simp only [Den]; exact ⟨[], rfl, by simp [DenL]⟩
def mkmx (P : Program) (ty : TypeId) (m : Mem) (nx : Nat) (K : Kv) : Prop := ∃ q, mapT P ty = some q ∧ K (.map nx) ((nx, .mp q.1 [] []) :: m) (nx + 1)
theorem mkmx_ok (hi : Inv w0 FP wr m nx H B w) {ty : TypeId} {K : Kv} (h : mkmx P ty m nx K) {o : Oper} (ho : o.op = .makeMap ty none) : Gives P w0 FP wr H B K ((execOp a.eval o).run P w) := by
  obtain ⟨q, hq, h⟩ := h
  obtain ⟨g1, g2⟩ := hi.renew (m' := m) (fun _ _ h => h) hi.keep (b := w.heap.size) (.inl rfl) (w' := w.alloc (.map #[] 0)) rfl rfl rfl (by simp)
    (fun k hk _ => heap_alloc_old w _ k hk) (o := .mp q.1 [] []) ⟨[], 0, heap_alloc_new _ _, rfl, by simp [DenL]⟩
  refine ⟨.map (some w.heap.size), .map nx, _, _, _, w.alloc (.map #[] 0), .inl ?_, g1, g2, by simp only [Den]; exact ⟨_, bind1_same _ _ _, rfl⟩, h⟩
  unfold execOp
  simp only [ho, Option.map_none, Sem.run_bind, run_makeMap, Result.andThen_ok, Sem.run_pure]
def lkk (ok : Bool) (d : AV) (k : AV → Prop) : Option AV → Prop
  | some v => k (if ok then .tup [v, .bool true] else v)
  | none => k (if ok then .tup [d, .bool false] else d)
def lookx (P : Program) (m : Mem) (ty : TypeId) (x i : AV) (ok : Bool) (k : AV → Prop) : Prop := match x, i with
  | .map n, .int q0 z => match look m n with
    | some (.mp q1 keys vals) => ∃ q, mapT P ty = some q ∧ q0 = q.1 ∧ q1 = q.1 ∧ ∃ d, zval P q.2 = some d ∧ lkk ok d k (mfind z keys vals)
    | _ => False
  | _, _ => False
theorem lookx_ok (hi : Inv w0 FP wr m nx H B w) {ty : TypeId} {x i : AV} {ok : Bool} {k : AV → Prop} (h : lookx P m ty x i ok k) {u1 u2 : Value} (h1 : Den H B x u1) (h2 : Den H B i u2) :
    ∃ v av, (Instr.lookup ty u1 u2 ok).run P w = .ok v w ∧ Den H B av v ∧ k av := by
  unfold lookx at h
  split at h
  · rename_i n q0 z
    split at h
    · rename_i q1 keys vals hn
      obtain ⟨q, hq, rfl, rfl, d, hz, h⟩ := h
      simp only [Den] at h1 h2
      obtain ⟨b, hb, rfl⟩ := h1; subst h2
      obtain ⟨kt, hm, hk⟩ := mapT_some hq
      obtain ⟨b', hb', ⟨ms, c, hh, hks, hdv⟩, _⟩ := hi.obj n _ hn
      rw [hb] at hb'; cases hb'
      obtain ⟨zv, hzr, hzd⟩ := zval_run hz w H B
      have hik : IsKey (.int q.1) (.int q.1 z) := by simp [IsKey]
      rcases mfind_spec q.1 z keys vals ms 0 hks hdv with ⟨a1, a2, _, _⟩ | ⟨j, e, v, a1, a2, a3, a4, a5, _, _⟩
      · rw [a2] at h
        simp only [lkk] at h
        refine ⟨if ok then .tuple #[zv, .bool false] else zv, _, ?_, ?_, h⟩
        · simp only [Instr.lookup, Sem.run_bind, run_underlying hm, MapKept.run_getObj_map hh, run_checkKey hk hik, run_findKey hk a1, hzr, Result.andThen_ok, Sem.run_pure]
        · cases ok
          · exact hzd
          · simp only [if_true, Den, DenL]
            exact ⟨_, rfl, zv, _, rfl, hzd, _, [], rfl, rfl, rfl⟩
      · rw [a4] at h
        simp only [lkk] at h
        refine ⟨if ok then .tuple #[e.val, .bool true] else e.val, _, ?_, ?_, h⟩
        · simp only [Instr.lookup, Sem.run_bind, run_underlying hm, MapKept.run_getObj_map hh, run_checkKey hk hik, run_findKey hk a1, Result.andThen_ok, Sem.run_pure]
        · cases ok
          · exact a5
          · simp only [if_true, Den, DenL]
            exact ⟨_, rfl, e.val, _, rfl, a5, _, [], rfl, rfl, rfl⟩
    · exact h.elim
  · exact h.elim
def insx (P : Program) (wr : Nat → Bool) (ty : TypeId) (x i y : AV) (m : Mem) (nx : Nat) (K : Kv) : Prop := match x, i with
  | .map n, .int q0 z => match look m n with
    | some (.mp q1 keys vals) => ∃ q, mapT P ty = some q ∧ q0 = q.1 ∧ q1 = q.1 ∧ wr n = true ∧ K (.tup []) (upd m n (.mp q.1 (mputk z keys) (mputv z y keys vals))) nx
    | _ => False
  | _, _ => False
theorem insx_ok (hi : Inv w0 FP wr m nx H B w) {ty : TypeId} {x i y : AV} {K : Kv} (h : insx P wr ty x i y m nx K) {u1 u2 u3 : Value} (h1 : Den H B x u1) (h2 : Den H B i u2) (h3 : Den H B y u3) {r : Result Next}
    (hr : r = ((do Instr.mapUpdate ty u1 u2 u3; pure .skip : Sem Next)).run P w) : Gives P w0 FP wr H B K r := by
  subst hr
  unfold insx at h
  split at h
  · rename_i n q0 z
    split at h
    · rename_i q1 keys vals hn
      obtain ⟨q, hq, rfl, rfl, hw, h⟩ := h
      simp only [Den] at h1 h2
      obtain ⟨b, hb, rfl⟩ := h1; subst h2
      obtain ⟨kt, hm, hk⟩ := mapT_some hq
      obtain ⟨b', hb', ⟨ms, c, hh, hks, hdv⟩, _⟩ := hi.obj n _ hn
      rw [hb] at hb'; cases hb'
      have hik : IsKey (.int q.1) (.int q.1 z) := by simp [IsKey]
      have hlt : b < w.heap.size := (Array.getElem?_eq_some_iff.1 hh).1
      rcases mfind_spec q.1 z keys vals ms 0 hks hdv with ⟨a1, a2, a3, a4⟩ | ⟨j, e, v, a1, a2, a3, a4, a5, a6, a7⟩
      · refine ⟨undef, .tup [], _, nx, B, { w with heap := w.heap.setIfInBounds b (.map (ms.toArray.push { key := .int q.1 z, val := u3, born := c }) (c + 1)) }, .inr ⟨?_, rfl⟩, ?_, Ext.refl _ _, undef_den0, h⟩
        · simp only [Instr.mapUpdate, Sem.run_bind, run_underlying hm, MapKept.run_getObj_map hh, run_checkKey hk hik, run_findKey hk a1, run_setObj_map _ hh, Result.andThen_ok, Sem.run_pure]
        · refine hi.write hn hw hb _ (by simp) rfl rfl rfl (fun k hk => (heap_set hh).2 k hk) ⟨ms ++ [{ key := .int q.1 z, val := u3, born := c }], c + 1, ?_, ?_, ?_⟩
          · rw [(heap_set hh).1]; simp
          · rw [a3]; simp [hks]
          · rw [a4]; simp only [List.map_append, List.map_cons, List.map_nil]; exact hdv.append (by simp only [DenL]; exact ⟨_, [], rfl, h3, rfl⟩)
      · have hkt : (((ms.toArray)[0 + j]?).map (·.key)).getD (.int q.1 z) = .int q.1 z := by
          rw [Nat.zero_add, List.getElem?_toArray, a2]; exact a3
        refine ⟨undef, .tup [], _, nx, B, { w with heap := w.heap.setIfInBounds b (.map (ms.toArray.modify (0 + j) fun e => { e with key := .int q.1 z, val := u3 }) c) }, .inr ⟨?_, rfl⟩, ?_, Ext.refl _ _, undef_den0, h⟩
        · simp only [Instr.mapUpdate, Sem.run_bind, run_underlying hm, MapKept.run_getObj_map hh, run_checkKey hk hik, run_findKey hk a1, Result.andThen_ok]
          rw [hkt]
          simp only [run_keyThatStays hik, Sem.run_bind, run_setObj_map _ hh, Result.andThen_ok, Sem.run_pure]
        · rw [Nat.zero_add]
          refine hi.write hn hw hb _ (by simp) rfl rfl rfl (fun k hk => (heap_set hh).2 k hk) ⟨ms.modify j fun e => { e with key := .int q.1 z, val := u3 }, c, ?_, ?_, ?_⟩
          · rw [(heap_set hh).1]; simp
          · rw [a6, ← hks]
            apply List.ext_getElem?
            intro i
            simp only [List.getElem?_map, List.getElem?_modify]
            by_cases hij : j = i
            · subst hij; rw [a2]; simp [a3]
            · simp [hij]
          · rw [a7]
            have : (ms.modify j fun e => { e with key := .int q.1 z, val := u3 }).map (·.val) = (ms.map (·.val)).set j u3 := by
              apply List.ext_getElem?
              intro i
              simp only [List.getElem?_map, List.getElem?_modify, List.getElem?_set]
              by_cases hij : j = i
              · subst hij
                have hjl : j < ms.length := (List.getElem?_eq_some_iff.1 a2).1
                rw [a2]; simp [hjl]
              · simp [hij]
            rw [this]
            exact hdv.set j h3
    · exact h.elim
  · exact h.elim
end
end Go.Eng
end
section
/- The engine, part 30: maps whose entries bear stamps; keys are numbers, or two bytes. Own work. -/
set_option linter.unusedVariables false
set_option linter.unusedSimpArgs false
namespace Go.Eng
open Go Go.MapKept Go.RowKit

def noFnT (P : Program) (t : TypeId) : Bool := match P.underlying t with
  | some .bool => true
  | some (.slice _) => true
  | some (.struct fs) => fs.all fun f => !isFuncT P f.type
  | _ => false
/-- a map type: the keys' kind, the elements' type -/
def mxT (P : Program) (t : TypeId) : Option (KD × TypeId) := match P.underlying t with
  | some (.map kt et) => match P.underlying kt with
    | some (.int k) => if noFnT P et = true then some (.i k, et) else none
    | some (.array n e) => if n = 2 ∧ intT P e = some .u8 ∧ P.cellsOf e = 1 ∧ P.cellsOf kt = 2 ∧ eqAggT P kt = true then some (.b, et) else none
    | _ => none
  | _ => none
def KT (P : Program) (kt : TypeId) : KD → Prop
  | .i k => P.underlying kt = some (.int k)
  | .b => ∃ e, P.underlying kt = some (.array 2 e) ∧ P.underlying e = some (.int .u8) ∧ P.cellsOf e = 1 ∧ P.cellsOf kt = 2 ∧ eqAggT P kt = true
theorem mxT_some {P : Program} {t : TypeId} {q : KD × TypeId} (h : mxT P t = some q) : ∃ kt, P.underlying t = some (.map kt q.2) ∧ KT P kt q.1 := by
  unfold mxT at h
  split at h
  · rename_i kt et h1
    split at h
    · rename_i k h2
      split at h
      · cases h; exact ⟨kt, h1, h2⟩
      · cases h
    · rename_i n e h2
      split at h
      · rename_i hc
        obtain ⟨rfl, c1, c2, c3, c4⟩ := hc
        cases h; exact ⟨kt, h1, e, h2, intT_some c1, c2, c3, c4⟩
      · cases h
    · cases h
  · cases h
theorem u8_wf (b : BitVec 8) : (Lit.int .u8 (b.toNat : Int)).wf = true := by
  have := b.isLt
  simp [Lit.wf, IntKind.min, IntKind.max, IntKind.signed, IntKind.bits]
  omega
theorem pair_lits {P : Program} {t e : TypeId} (hu : P.underlying t = some (.array 2 e)) (he : P.underlying e = some (.int .u8)) (hce : P.cellsOf e = 1) (hct : P.cellsOf t = 2) (x y : BitVec 8) :
    (Key.b x y).val.formed P t = true ∧ P.keyLits 4 t (Key.b x y).val.cells.toList = some [Lit.int .u8 (x.toNat : Int), Lit.int .u8 (y.toNat : Int)] := by
  refine ⟨by simp [Key.val, Value.formed, hu, hct], ?_⟩
  unfold Program.keyLits
  simp only [hu, Key.val, Value.cells, List.length_cons, List.length_nil, hct, if_true, hce, Nat.mul_one, show List.range 2 = [0, 1] from rfl, List.mapM_cons, List.mapM_nil]
  have e1 : ∀ b : BitVec 8, P.keyLits 3 e [Value.int .u8 (b.toNat : Int)] = some [Lit.int .u8 (b.toNat : Int)] := fun b => by
    unfold Program.keyLits
    simp only [he, u8_wf, and_self, if_true]
  simp [e1]
section
variable {P : Program} {kt : TypeId} {kd : KD}
theorem eqK (hk : KT P kt kd) {a b : Key} (ha : a.kd = kd) (hb : b.kd = kd) (w : World) : (Op.equal kt a.val b.val).run P w = .ok (decide (a = b)) w := by
  cases kd with
  | i k =>
    cases a with
    | b _ _ => cases ha
    | i k1 z1 =>
      cases b with
      | b _ _ => cases hb
      | i k2 z2 =>
        simp only [Key.kd, KD.i.injEq] at ha hb
        rw [ha, hb]
        have hk : P.underlying kt = some (.int k) := hk
        have : (Op.equal kt (.int k z1) (.int k z2)).run P w = .ok (z1 == z2) w := by
          unfold Op.equal Op.maxDepth
          rw [Op.equalIn, Sem.run_bind, run_underlying hk]
          simp only [Result.andThen_ok, if_true, Sem.run_pure]
        rw [show (Key.i k z1).val = .int k z1 from rfl, show (Key.i k z2).val = .int k z2 from rfl, this]
        congr 1
        by_cases h : z1 = z2 <;> simp [h]
  | b =>
    obtain ⟨e, hu, he, hce, hct, hq⟩ := hk
    cases a with
    | i _ _ => cases ha
    | b x1 y1 =>
      cases b with
      | i _ _ => cases hb
      | b x2 y2 =>
        simp only [eqAggT, Bool.and_eq_true] at hq
        obtain ⟨f1, k1⟩ := pair_lits hu he hce hct x1 y1
        obtain ⟨f2, k2⟩ := pair_lits hu he hce hct x2 y2
        obtain ⟨r, hr, hi⟩ := run_equalIn_deep 9992 8 kt hq.1 w 4 4 _ _ _ _ f1 f2 k1 k2
        have : r = decide (Key.b x1 y1 = Key.b x2 y2) := by
          have h2 : ([Lit.int .u8 (x1.toNat : Int), Lit.int .u8 (y1.toNat : Int)] = [Lit.int .u8 (x2.toNat : Int), Lit.int .u8 (y2.toNat : Int)]) ↔ Key.b x1 y1 = Key.b x2 y2 := by
            simp only [List.cons.injEq, Lit.int.injEq, true_and, and_true, Key.b.injEq]
            constructor
            · rintro ⟨g1, g2⟩
              exact ⟨BitVec.eq_of_toNat_eq (by omega), BitVec.eq_of_toNat_eq (by omega)⟩
            · rintro ⟨rfl, rfl⟩; exact ⟨rfl, rfl⟩
          rw [h2] at hi
          cases r with
          | true => exact (decide_eq_true (hi.1 rfl)).symm
          | false => exact (decide_eq_false fun h => by have := hi.2 h; cases this).symm
        rw [← this]
        simpa only [Op.equal, Op.maxDepth] using hr
theorem checkK (hk : KT P kt kd) {a : Key} (ha : a.kd = kd) (em : Bool) (w : World) : (Instr.checkKey em 10000 kt a.val).run P w = .ok () w := by
  cases kd with
  | i k =>
    cases a with
    | b _ _ => cases ha
    | i k1 z1 =>
      simp only [Key.kd, KD.i.injEq] at ha
      subst ha
      exact run_checkKey (show P.underlying kt = some (.int k1) from hk) (by simp [IsKey, Key.val]) em 9999
  | b =>
    obtain ⟨e, hu, he, hce, hct, hq⟩ := hk
    cases a with
    | i _ _ => cases ha
    | b x1 y1 =>
      simp only [eqAggT, Bool.and_eq_true] at hq
      obtain ⟨f1, k1⟩ := pair_lits hu he hce hct x1 y1
      exact run_checkKey_deep em 9992 8 kt hq.1 w 4 _ _ f1 k1
/-- the place of a key: the first; behind all of them, if there is none -/
def xidx (a : Key) : List Key → Nat
  | [] => 0
  | k :: r => if k = a then 0 else xidx a r + 1
theorem xidx_le (a : Key) : ∀ l : List Key, xidx a l ≤ l.length
  | [] => Nat.le_refl _
  | k :: r => by
    have := xidx_le a r
    unfold xidx
    split
    · exact Nat.zero_le _
    · simp only [List.length_cons]; omega
theorem xidx_get (a : Key) : ∀ l : List Key, xidx a l < l.length → l[xidx a l]? = some a
  | [], h => by cases h
  | k :: r, h => by
    unfold xidx at h ⊢
    split
    · rename_i e; rw [e]; rfl
    · rename_i e
      rw [if_neg e] at h
      simp only [List.length_cons] at h
      rw [List.getElem?_cons_succ]
      exact xidx_get a r (by omega)
theorem asking_run (hk : KT P kt kd) {a : Key} (ha : a.kd = kd) (w : World) : ∀ (ms : List MapEntry) (keys : List Key) (i : Nat), ms.map (·.key) = keys.map Key.val → (∀ k ∈ keys, k.kd = kd) →
    (Instr.findAsking kt a.val ms i).run P w = .ok ((ms[xidx a keys]?).map fun e => (i + xidx a keys, e.val)) w
  | [], keys, i, h, _ => by
    have : keys = [] := by simpa using h.symm
    subst this
    simp [Instr.findAsking]
  | e :: ms, [], i, h, _ => by simp at h
  | e :: ms, k :: keys, i, h, hd => by
    simp only [List.map_cons, List.cons.injEq] at h
    obtain ⟨h1, h2⟩ := h
    have he := eqK hk ha (hd k (.head _)) w
    rw [← h1] at he
    by_cases hkk : k = a
    · subst hkk
      simp only [decide_true] at he
      simp [Instr.findAsking, he, Result.andThen, xidx]
    · have hka : ¬ a = k := fun e => hkk e.symm
      rw [decide_eq_false hka] at he
      have ih := asking_run hk ha w ms keys (i + 1) h2 fun x hx => hd x (.tail _ hx)
      simp only [Instr.findAsking, Sem.run_bind, he, Result.andThen_ok, Bool.false_eq_true, if_false, ih, xidx, if_neg hkk, List.getElem?_cons_succ]
      rw [show i + 1 + xidx a keys = i + (xidx a keys + 1) by omega]
theorem now_spec (k : IntKind) (z : Int) : ∀ (ms : List MapEntry) (keys : List Key) (i : Nat), ms.map (·.key) = keys.map Key.val → (∀ q ∈ keys, q.kd = .i k) →
    Instr.findNow (.int k) (.int k z) ms i = some ((ms[xidx (.i k z) keys]?).map fun e => (i + xidx (.i k z) keys, e.val))
  | [], keys, i, h, _ => by
    have : keys = [] := by simpa using h.symm
    subst this
    simp [Instr.findNow]
  | e :: ms, [], i, h, _ => by simp at h
  | e :: ms, q :: keys, i, h, hd => by
    simp only [List.map_cons, List.cons.injEq] at h
    obtain ⟨h1, h2⟩ := h
    have hq := hd q (.head _)
    cases q with
    | b _ _ => cases hq
    | i k1 y =>
      simp only [Key.kd, KD.i.injEq] at hq
      subst hq
      have hs : Instr.sameNow (.int k1) (.int k1 z) e.key = some (z == y) := by rw [h1]; simp [Instr.sameNow, Key.val]
      by_cases hz : z = y
      · subst hz
        simp [Instr.findNow, hs, xidx]
      · have hb : (z == y) = false := by simpa using hz
        rw [hb] at hs
        have hne : ¬ (Key.i k1 y = Key.i k1 z) := fun e => hz (by injection e with _ e; exact e.symm)
        have ih := now_spec k1 z ms keys (i + 1) h2 fun x hx => hd x (.tail _ hx)
        simp only [Instr.findNow, hs, ih, xidx, if_neg hne, List.getElem?_cons_succ]
        rw [show i + 1 + xidx (.i k1 z) keys = i + (xidx (.i k1 z) keys + 1) by omega]
theorem findK (hk : KT P kt kd) {a : Key} (ha : a.kd = kd) (w : World) {ms : List MapEntry} {keys : List Key} (h : ms.map (·.key) = keys.map Key.val) (hd : ∀ k ∈ keys, k.kd = kd) :
    (Instr.findKey kt a.val ms).run P w = .ok ((ms[xidx a keys]?).map fun e => (xidx a keys, e.val)) w := by
  cases kd with
  | i k =>
    cases a with
    | b _ _ => cases ha
    | i k1 z1 =>
      simp only [Key.kd, KD.i.injEq] at ha
      subst ha
      have := now_spec k1 z1 ms keys 0 h hd
      simp only [Nat.zero_add] at this
      exact run_findKey (show P.underlying kt = some (.int k1) from hk) this
  | b =>
    have hk' := hk
    obtain ⟨e, hu, he, hce, hct, hq⟩ := hk
    rw [run_findKey_eq (P := P) (w := w) (k := kt) (by rw [hu]) a.val ms]
    have := asking_run hk' ha w ms keys 0 h hd
    simpa only [Nat.zero_add] using this
theorem staysK (a : Key) (w : World) : (Instr.keyThatStays a.val a.val).run P w = .ok a.val w := by
  have : Instr.sameBits 10000 a.val a.val = true := by
    cases a <;> simp [Key.val, Instr.sameBits]
  simp only [Instr.keyThatStays, this, if_true, Sem.run_pure]
end
/-- a key in the engine's terms -/
def keyA (kd : KD) (v : AV) : Option Key := match kd, v with
  | .i k, .int k' z => if k' = k then some (.i k z) else none
  | .b, .agg [.int k1 x, .int k2 y] => if k1 = .u8 ∧ k2 = .u8 ∧ ((BitVec.ofInt 8 x).toNat : Int) = x ∧ ((BitVec.ofInt 8 y).toNat : Int) = y then some (.b (BitVec.ofInt 8 x) (BitVec.ofInt 8 y)) else none
  | _, _ => none
theorem keyA_int (k : IntKind) (z : Int) : keyA (.i k) (.int k z) = some (.i k z) := by simp [keyA]
theorem keyA_bb (x y : BitVec 8) : keyA .b (.agg [.int .u8 (x.toNat : Int), .int .u8 (y.toNat : Int)]) = some (.b x y) := by
  have h : ∀ b : BitVec 8, BitVec.ofInt 8 (b.toNat : Int) = b := fun b => by
    refine BitVec.eq_of_toNat_eq ?_
    rw [BitVec.toNat_ofInt]
    have := b.isLt
    omega
  simp only [keyA, h, and_self, if_true]
section
variable {P : Program} {w0 w : World} {FP : Nat → Prop} {wr rd : Nat → Bool} {m : Mem} {nx : Nat} {H : RO} {B : Names} {N : Nat} {t : Slots} {a : Act}
theorem keyA_den {kd : KD} {v : AV} {k : Key} (h : keyA kd v = some k) {u : Value} (hu : Den H B v u) : u = k.val ∧ k.kd = kd := by
  unfold keyA at h
  split at h
  · split at h
    · rename_i e
      cases h
      subst e
      simp only [Den] at hu
      exact ⟨hu, rfl⟩
    · cases h
  · split at h
    · rename_i e
      obtain ⟨rfl, rfl, e1, e2⟩ := e
      cases h
      simp only [Den, DenL] at hu
      obtain ⟨cs, rfl, v1, s1, rfl, rfl, v2, s2, rfl, rfl, rfl⟩ := hu
      refine ⟨?_, rfl⟩
      simp only [Key.val, e1, e2]
    · cases h
  · cases h
def bidx (c : Int) : List Nat → Nat
  | [] => 0
  | b :: r => if (b : Int) = c then 0 else bidx c r + 1
theorem bidx_le (c : Int) : ∀ l : List Nat, bidx c l ≤ l.length
  | [] => Nat.le_refl _
  | k :: r => by
    have := bidx_le c r
    unfold bidx
    split
    · exact Nat.zero_le _
    · simp only [List.length_cons]; omega
theorem bidx_find (c : Int) : ∀ (ms : List MapEntry), bidx c (ms.map (·.born)) < ms.length → ms.findIdx? (fun e => (e.born : Int) == c) = some (bidx c (ms.map (·.born)))
  | [], h => by cases h
  | e :: ms, h => by
    rw [List.findIdx?_cons]
    simp only [List.map_cons, bidx] at h ⊢
    by_cases hc : (e.born : Int) = c
    · simp [hc]
    · rw [if_neg hc] at h ⊢
      have hb : ((e.born : Int) == c) = false := by simpa using hc
      simp only [hb]
      rw [bidx_find c ms (by simpa using h)]
      rfl
theorem bidx_nth : ∀ (l : List Nat), l.Nodup → ∀ (j x : Nat), l[j]? = some x → bidx (x : Int) l = j
  | [], _, j, x, h => by simp at h
  | b :: r, hn, 0, x, h => by simp at h; subst h; simp [bidx]
  | b :: r, hn, j + 1, x, h => by
    rw [List.getElem?_cons_succ] at h
    have hx : x ∈ r := List.mem_of_getElem? h
    have hne : ¬ ((b : Int) = (x : Int)) := fun e => by
      have : b = x := by omega
      subst this
      exact (List.nodup_cons.1 hn).1 hx
    simp only [bidx, if_neg hne]
    rw [bidx_nth r (List.nodup_cons.1 hn).2 j x h]
theorem bidx_new : ∀ (l : List Nat) (c : Nat), (∀ x ∈ l, x < c) → bidx (c : Int) (l ++ [c]) = l.length
  | [], c, _ => by simp [bidx]
  | b :: r, c, h => by
    have hne : ¬ ((b : Int) = (c : Int)) := fun e => by have := h b (.head _); omega
    simp only [List.cons_append, bidx, if_neg hne, List.length_cons]
    rw [bidx_new r c fun x hx => h x (.tail _ hx)]
theorem mods_keys {ms : List MapEntry} {keys : List Key} {j : Nat} {a : Key} (h : ms.map (·.key) = keys.map Key.val) (hj : keys[j]? = some a) (f : MapEntry → MapEntry) (hf : ∀ e, e.key = a.val → (f e).key = a.val) : (ms.modify j f).map (·.key) = keys.map Key.val := by
  rw [← h]
  apply List.ext_getElem?
  intro i
  simp only [List.getElem?_map, List.getElem?_modify]
  by_cases hij : j = i
  · subst hij
    have : (ms.map (·.key))[j]? = some a.val := by rw [h]; simp [hj]
    rw [List.getElem?_map] at this
    obtain ⟨e, he, hk⟩ := Option.map_eq_some_iff.1 this
    rw [he]; simp [hk, hf e hk]
  · simp [hij]
theorem mods_map {α : Type} {ms : List MapEntry} {j : Nat} (g : MapEntry → α) (f : MapEntry → MapEntry) (hf : ∀ e, g (f e) = g e) : (ms.modify j f).map g = ms.map g := by
  apply List.ext_getElem?
  intro i
  simp only [List.getElem?_map, List.getElem?_modify]
  by_cases hij : j = i
  · subst hij; cases ms[j]? <;> simp [hf]
  · simp [hij]
theorem mods_val {ms : List MapEntry} {j : Nat} (f : MapEntry → MapEntry) (v : Value) (hf : ∀ e, (f e).val = v) : (ms.modify j f).map (·.val) = (ms.map (·.val)).set j v := by
  apply List.ext_getElem?
  intro i
  simp only [List.getElem?_map, List.getElem?_modify, List.getElem?_set]
  by_cases hij : j = i
  · subst hij
    by_cases hl : j < ms.length
    · simp [List.getElem?_eq_getElem hl, hf, hl]
    · simp [List.getElem?_eq_none (Nat.le_of_not_lt hl), hl]
  · simp [hij]

def mentk (K : Kv) (m : Mem) (n nx : Nat) (kd : KD) (keys : List Key) (vals : List AV) (born : List Nat) (a : Key) (z : AV) : Prop :=
  (xidx a keys < keys.length → ∀ c : Nat, bidx c born = xidx a keys → born.length = keys.length → K (.tup [vals.getD (xidx a keys) z, .int .i64 c]) (upd m n (.mx kd keys vals born)) nx) ∧
  (keys.length ≤ xidx a keys → ∀ c : Nat, bidx c (born ++ [c]) = keys.length → born.length = keys.length → K (.tup [z, .int .i64 c]) (upd m n (.mx kd (keys ++ [a]) (vals ++ [z]) (born ++ [c]))) nx)
def mentx (P : Program) (wr : Nat → Bool) (ty : TypeId) (x i : AV) (m : Mem) (nx : Nat) (K : Kv) : Prop := match x with
  | .map n => match look m n with
    | some (.mx kd keys vals born) => ∃ q, mxT P ty = some q ∧ q.1 = kd ∧ ∃ k, keyA kd i = some k ∧ ∃ z, zval P q.2 = some z ∧ wr n = true ∧ mentk K m n nx kd keys vals born k z
    | _ => False
  | _ => False
theorem mentx_ok (hi : Inv w0 FP wr m nx H B w) {ty : TypeId} {x i : AV} {K : Kv} (h : mentx P wr ty x i m nx K) {u1 u2 : Value} (h1 : Den H B x u1) (h2 : Den H B i u2) {r : Result Next}
    (hr : r = ((do pure (.value (← Instr.mapEntry ty u1 u2)) : Sem Next)).run P w) : Gives P w0 FP wr H B K r := by
  subst hr
  unfold mentx at h
  split at h
  · rename_i n
    split at h
    · rename_i kd keys vals born hn
      obtain ⟨q, hq, rfl, k, hka, z, hz, hw, hk1, hk2⟩ := h
      simp only [Den] at h1
      obtain ⟨b, hb, rfl⟩ := h1
      obtain ⟨rfl, hkd⟩ := keyA_den hka h2
      obtain ⟨kt, hm, hkt⟩ := mxT_some hq
      obtain ⟨b', hb', ⟨ms, c, hh, hks, hbs, hnd, hlt, hds, hdv⟩, _⟩ := hi.obj n _ hn
      rw [hb] at hb'; cases hb'
      obtain ⟨zv, hzr, hzd⟩ := zval_run hz w H B
      have hfd := findK hkt hkd w hks hds
      have hl1 : ms.length = keys.length := by have := congrArg List.length hks; simpa using this
      have hl2 : born.length = ms.length := by rw [← hbs]; simp
      have hl3 : vals.length = ms.length := by have := hdv.length; simpa using this.symm
      by_cases hlt2 : xidx k keys < keys.length
      · have hjm : xidx k keys < ms.length := by omega
        have hge := List.getElem?_eq_getElem hjm
        have hke : ms[xidx k keys].key = k.val := by
          have : (ms.map (·.key))[xidx k keys]? = some k.val := by rw [hks, List.getElem?_map, xidx_get k keys hlt2]; rfl
          rw [List.getElem?_map, hge] at this
          simpa using this
        have hkt2 : (((ms.toArray)[xidx k keys]?).map (·.key)).getD k.val = k.val := by
          rw [List.getElem?_toArray, hge]; simp [hke]
        have hbn : (((ms.toArray)[xidx k keys]?).map (fun x => (x.born : Int))).getD 0 = (ms[xidx k keys].born : Int) := by
          rw [List.getElem?_toArray, hge]; rfl
        rw [hge] at hfd
        have hbx : born[xidx k keys]? = some ms[xidx k keys].born := by rw [← hbs, List.getElem?_map, hge]; rfl
        refine ⟨.tuple #[ms[xidx k keys].val, goInt ms[xidx k keys].born], _, _, nx, B, { w with heap := w.heap.setIfInBounds b (.map (ms.toArray.modify (xidx k keys) fun e => { e with key := k.val }) c) }, .inl ?_, ?_, Ext.refl _ _, ?_, hk1 hlt2 ms[xidx k keys].born (bidx_nth born hnd _ _ hbx) (by omega)⟩
        · simp only [Instr.mapEntry, Sem.run_bind, run_underlying hm, MapKept.run_getObj_map hh, checkK hkt hkd, hfd, Option.map_some, Result.andThen_ok]
          rw [hkt2, hbn]
          simp only [staysK, Sem.run_bind, run_setObj_map _ hh, Result.andThen_ok, Sem.run_pure]
        · refine hi.write hn hw hb _ (by simp) rfl rfl rfl (fun k hk => (heap_set hh).2 k hk) ⟨ms.modify (xidx k keys) fun e => { e with key := k.val }, c, ?_, mods_keys hks (xidx_get k keys hlt2) _ (fun _ _ => rfl), ?_, hnd, hlt, hds, ?_⟩
          · rw [(heap_set hh).1]; simp
          · exact (show _ = _ from mods_map (·.born) _ (by intro _; rfl)).trans hbs
          · rw [show (List.map (·.val) (ms.modify (xidx k keys) fun e => { e with key := k.val })) = ms.map (·.val) from mods_map (·.val) _ (by intro _; rfl)]; exact hdv
        · have hvg : vals[xidx k keys]? = some (vals.getD (xidx k keys) z) := by
            have : xidx k keys < vals.length := by omega
            rw [List.getD_eq_getElem?_getD, List.getElem?_eq_getElem this]; rfl
          obtain ⟨v, hv, hdd⟩ := hdv.get _ _ hvg
          rw [List.getElem?_map, hge] at hv
          cases hv
          simp only [Den, DenL]
          exact ⟨_, rfl, _, _, rfl, hdd, _, [], rfl, rfl, rfl⟩
      · have hge : ms[xidx k keys]? = none := List.getElem?_eq_none (by omega)
        rw [hge] at hfd
        refine ⟨.tuple #[zv, goInt c], _, _, nx, B, { w with heap := w.heap.setIfInBounds b (.map (ms.toArray.push { key := k.val, val := zv, born := c }) (c + 1)) }, .inl ?_, ?_, Ext.refl _ _, ?_, hk2 (by omega) c (by rw [bidx_new born c hlt]; omega) (by omega)⟩
        · simp only [Instr.mapEntry, Sem.run_bind, run_underlying hm, MapKept.run_getObj_map hh, checkK hkt hkd, hfd, Option.map_none, hzr, run_setObj_map _ hh, Result.andThen_ok, Sem.run_pure]
        · refine hi.write hn hw hb _ (by simp) rfl rfl rfl (fun k hk => (heap_set hh).2 k hk) ⟨ms ++ [{ key := k.val, val := zv, born := c }], c + 1, ?_, by simp [hks], by simp [hbs], ?_, ?_, ?_, ?_⟩
          · rw [(heap_set hh).1]; simp
          · refine List.nodup_append.2 ⟨hnd, by simp, fun x hx y hy => ?_⟩
            simp only [List.mem_singleton] at hy
            subst hy
            exact Nat.ne_of_lt (hlt x hx)
          · intro x hx
            rcases List.mem_append.1 hx with hx | hx
            · exact Nat.lt_succ_of_lt (hlt x hx)
            · simp only [List.mem_singleton] at hx; subst hx; exact Nat.lt_succ_self _
          · intro x hx
            rcases List.mem_append.1 hx with hx | hx
            · exact hds x hx
            · simp only [List.mem_singleton] at hx; subst hx; exact hkd
          · simp only [List.map_append, List.map_cons, List.map_nil]
            exact hdv.append (by simp only [DenL]; exact ⟨_, [], rfl, hzd, rfl⟩)
        · simp only [Den, DenL]
          exact ⟨_, rfl, _, _, rfl, hzd, _, [], rfl, rfl, rfl⟩
    · exact h.elim
  · exact h.elim
def estx (wr : Nat → Bool) (x s y : AV) (m : Mem) (nx : Nat) (K : Kv) : Prop := match x, s with
  | .map n, .int _ c => match look m n with
    | some (.mx kd keys vals born) => bidx c born < born.length ∧ wr n = true ∧ K (.tup []) (upd m n (.mx kd keys (vals.set (bidx c born) y) born)) nx
    | _ => False
  | _, _ => False
theorem estx_ok (hi : Inv w0 FP wr m nx H B w) {ty : TypeId} {x i y : AV} {K : Kv} (h : estx wr x i y m nx K) {u1 u2 u3 : Value} (h1 : Den H B x u1) (h2 : Den H B i u2) (h3 : Den H B y u3) {r : Result Next}
    (hr : r = ((do Instr.entryStore ty u1 u2 u3; pure .skip : Sem Next)).run P w) : Gives P w0 FP wr H B K r := by
  subst hr
  unfold estx at h
  split at h
  · rename_i n q0 s
    split at h
    · rename_i kd keys vals born hn
      obtain ⟨hlt, hw, h⟩ := h
      simp only [Den] at h1 h2
      obtain ⟨b, hb, rfl⟩ := h1; subst h2
      obtain ⟨b', hb', ⟨ms, c, hh, hks, hbs, hnd, hlc, hds, hdv⟩, _⟩ := hi.obj n _ hn
      rw [hb] at hb'; cases hb'
      have hf := bidx_find s ms (by rw [hbs]; have := congrArg List.length hbs; simp only [List.length_map] at this; omega)
      rw [hbs] at hf
      refine ⟨undef, .tup [], _, nx, B, { w with heap := w.heap.setIfInBounds b (.map (ms.toArray.modify (bidx s born) fun e => { e with val := u3 }) c) }, .inr ⟨?_, rfl⟩, ?_, Ext.refl _ _, undef_den0, h⟩
      · have ha : (asInt (.int q0 s)).run P w = .ok s w := by simp [asInt, asIntOf, Result.andThen]
        simp only [Instr.entryStore, Sem.run_bind, MapKept.run_getObj_map hh, ha, List.findIdx?_toArray, hf, run_setObj_map _ hh, Result.andThen_ok, Sem.run_pure]
      · refine hi.write hn hw hb _ (by simp) rfl rfl rfl (fun k hk => (heap_set hh).2 k hk) ⟨ms.modify (bidx s born) fun e => { e with val := u3 }, c, ?_, ?_, ?_, hnd, hlc, hds, ?_⟩
        · rw [(heap_set hh).1]; simp
        · exact (show _ = _ from mods_map (·.key) _ (by intro _; rfl)).trans hks
        · exact (show _ = _ from mods_map (·.born) _ (by intro _; rfl)).trans hbs
        · refine Eq.mpr (congrArg (DenL H B _) (mods_val _ u3 ?_)) (hdv.set _ h3); intro _; rfl
    · exact h.elim
  · exact h.elim
/-- a value put at a key -/
def insk (K : Kv) (m : Mem) (n nx : Nat) (kd : KD) (keys : List Key) (vals : List AV) (born : List Nat) (a : Key) (y : AV) : Prop :=
  (xidx a keys < keys.length → K (.tup []) (upd m n (.mx kd keys (vals.set (xidx a keys) y) born)) nx) ∧
  (keys.length ≤ xidx a keys → ∀ c : Nat, K (.tup []) (upd m n (.mx kd (keys ++ [a]) (vals ++ [y]) (born ++ [c]))) nx)
def insz (P : Program) (wr : Nat → Bool) (ty : TypeId) (n : Nat) (i y : AV) (m : Mem) (nx : Nat) (K : Kv) (kd : KD) (keys : List Key) (vals : List AV) (born : List Nat) : Prop :=
  ∃ q, mxT P ty = some q ∧ q.1 = kd ∧ ∃ k, keyA kd i = some k ∧ wr n = true ∧ insk K m n nx kd keys vals born k y
theorem insz_ok (hi : Inv w0 FP wr m nx H B w) {ty : TypeId} {n : Nat} {i y : AV} {K : Kv} {kd : KD} {keys : List Key} {vals : List AV} {born : List Nat} (hn : look m n = some (.mx kd keys vals born)) (h : insz P wr ty n i y m nx K kd keys vals born) {u1 u2 u3 : Value} (h1 : Den H B (.map n) u1) (h2 : Den H B i u2) (h3 : Den H B y u3) {r : Result Next}
    (hr : r = ((do Instr.mapUpdate ty u1 u2 u3; pure .skip : Sem Next)).run P w) : Gives P w0 FP wr H B K r := by
  subst hr
  obtain ⟨q, hq, rfl, k, hka, hw, hk1, hk2⟩ := h
  simp only [Den] at h1
  obtain ⟨b, hb, rfl⟩ := h1
  obtain ⟨rfl, hkd⟩ := keyA_den hka h2
  obtain ⟨kt, hm, hkt⟩ := mxT_some hq
  obtain ⟨b', hb', ⟨ms, c, hh, hks, hbs, hnd, hlt, hds, hdv⟩, _⟩ := hi.obj n _ hn
  rw [hb] at hb'; cases hb'
  have hfd := findK hkt hkd w hks hds
  have hl1 : ms.length = keys.length := by have := congrArg List.length hks; simpa using this
  by_cases hlt2 : xidx k keys < keys.length
  · have hjm : xidx k keys < ms.length := by omega
    have hge := List.getElem?_eq_getElem hjm
    have hke : ms[xidx k keys].key = k.val := by
      have : (ms.map (·.key))[xidx k keys]? = some k.val := by rw [hks, List.getElem?_map, xidx_get k keys hlt2]; rfl
      rw [List.getElem?_map, hge] at this
      simpa using this
    have hkt2 : (((ms.toArray)[xidx k keys]?).map (·.key)).getD k.val = k.val := by
      rw [List.getElem?_toArray, hge]; simp [hke]
    rw [hge] at hfd
    refine ⟨undef, .tup [], _, nx, B, { w with heap := w.heap.setIfInBounds b (.map (ms.toArray.modify (xidx k keys) fun e => { e with key := k.val, val := u3 }) c) }, .inr ⟨?_, rfl⟩, ?_, Ext.refl _ _, undef_den0, hk1 hlt2⟩
    · simp only [Instr.mapUpdate, Sem.run_bind, run_underlying hm, MapKept.run_getObj_map hh, checkK hkt hkd, hfd, Option.map_some, Result.andThen_ok]
      rw [hkt2]
      simp only [staysK, Sem.run_bind, run_setObj_map _ hh, Result.andThen_ok, Sem.run_pure]
    · refine hi.write hn hw hb _ (by simp) rfl rfl rfl (fun k hk => (heap_set hh).2 k hk) ⟨ms.modify (xidx k keys) fun e => { e with key := k.val, val := u3 }, c, ?_, mods_keys hks (xidx_get k keys hlt2) _ (fun _ _ => rfl), ?_, hnd, hlt, hds, ?_⟩
      · rw [(heap_set hh).1]; simp
      · exact (show _ = _ from mods_map (·.born) _ (by intro _; rfl)).trans hbs
      · refine Eq.mpr (congrArg (DenL H B _) (mods_val _ u3 ?_)) (hdv.set _ h3); intro _; rfl
  · have hge : ms[xidx k keys]? = none := List.getElem?_eq_none (by omega)
    rw [hge] at hfd
    refine ⟨undef, .tup [], _, nx, B, { w with heap := w.heap.setIfInBounds b (.map (ms.toArray.push { key := k.val, val := u3, born := c }) (c + 1)) }, .inr ⟨?_, rfl⟩, ?_, Ext.refl _ _, undef_den0, hk2 (by omega) c⟩
    · simp only [Instr.mapUpdate, Sem.run_bind, run_underlying hm, MapKept.run_getObj_map hh, checkK hkt hkd, hfd, Option.map_none, run_setObj_map _ hh, Result.andThen_ok, Sem.run_pure]
    · refine hi.write hn hw hb _ (by simp) rfl rfl rfl (fun k hk => (heap_set hh).2 k hk) ⟨ms ++ [{ key := k.val, val := u3, born := c }], c + 1, ?_, by simp [hks], by simp [hbs], ?_, ?_, ?_, ?_⟩
      · rw [(heap_set hh).1]; simp
      · refine List.nodup_append.2 ⟨hnd, by simp, fun x hx y hy => ?_⟩
        simp only [List.mem_singleton] at hy
        subst hy
        exact Nat.ne_of_lt (hlt x hx)
      · intro x hx
        rcases List.mem_append.1 hx with hx | hx
        · exact Nat.lt_succ_of_lt (hlt x hx)
        · simp only [List.mem_singleton] at hx; subst hx; exact Nat.lt_succ_self _
      · intro x hx
        rcases List.mem_append.1 hx with hx | hx
        · exact hds x hx
        · simp only [List.mem_singleton] at hx; subst hx; exact hkd
      · simp only [List.map_append, List.map_cons, List.map_nil]
        exact hdv.append (by simp only [DenL]; exact ⟨_, [], rfl, h3, rfl⟩)
/-- what stands at a key -/
def xget (a : Key) (keys : List Key) (vals : List AV) : Option AV := vals[xidx a keys]?
def lookz (P : Program) (ty : TypeId) (i : AV) (ok : Bool) (k : AV → Prop) (kd : KD) (keys : List Key) (vals : List AV) : Prop :=
  ∃ q, mxT P ty = some q ∧ q.1 = kd ∧ ∃ a, keyA kd i = some a ∧ ∃ d, zval P q.2 = some d ∧ lkk ok d k (xget a keys vals)
theorem lookz_ok (hi : Inv w0 FP wr m nx H B w) {ty : TypeId} {n : Nat} {i : AV} {ok : Bool} {k : AV → Prop} {kd : KD} {keys : List Key} {vals : List AV} {born : List Nat} (hn : look m n = some (.mx kd keys vals born)) (h : lookz P ty i ok k kd keys vals) {u1 u2 : Value} (h1 : Den H B (.map n) u1) (h2 : Den H B i u2) :
    ∃ v av, (Instr.lookup ty u1 u2 ok).run P w = .ok v w ∧ Den H B av v ∧ k av := by
  obtain ⟨q, hq, rfl, a, hka, d, hz, h⟩ := h
  simp only [Den] at h1
  obtain ⟨b, hb, rfl⟩ := h1
  obtain ⟨rfl, hkd⟩ := keyA_den hka h2
  obtain ⟨kt, hm, hkt⟩ := mxT_some hq
  obtain ⟨b', hb', ⟨ms, c, hh, hks, hbs, hnd, hlt, hds, hdv⟩, _⟩ := hi.obj n _ hn
  rw [hb] at hb'; cases hb'
  obtain ⟨zv, hzr, hzd⟩ := zval_run hz w H B
  have hfd := findK hkt hkd w hks hds
  have hl1 : ms.length = keys.length := by have := congrArg List.length hks; simpa using this
  have hl3 : vals.length = ms.length := by have := hdv.length; simpa using this.symm
  unfold xget at h
  by_cases hlt2 : xidx a keys < ms.length
  · have hge := List.getElem?_eq_getElem hlt2
    have hvl : xidx a keys < vals.length := by omega
    rw [List.getElem?_eq_getElem hvl] at h
    simp only [lkk] at h
    obtain ⟨v, hv, hdd⟩ := hdv.get _ _ (List.getElem?_eq_getElem hvl)
    rw [List.getElem?_map, hge] at hv
    cases hv
    rw [hge] at hfd
    refine ⟨if ok then .tuple #[ms[xidx a keys].val, .bool true] else ms[xidx a keys].val, _, ?_, ?_, h⟩
    · simp only [Instr.lookup, Sem.run_bind, run_underlying hm, MapKept.run_getObj_map hh, checkK hkt hkd, hfd, Option.map_some, Result.andThen_ok, Sem.run_pure]
    · cases ok
      · exact hdd
      · simp only [if_true, Den, DenL]
        exact ⟨_, rfl, _, _, rfl, hdd, _, [], rfl, rfl, rfl⟩
  · have hge : ms[xidx a keys]? = none := List.getElem?_eq_none (by omega)
    have hvg : vals[xidx a keys]? = none := List.getElem?_eq_none (by omega)
    rw [hge] at hfd
    rw [hvg] at h
    simp only [lkk] at h
    refine ⟨if ok then .tuple #[zv, .bool false] else zv, _, ?_, ?_, h⟩
    · simp only [Instr.lookup, Sem.run_bind, run_underlying hm, MapKept.run_getObj_map hh, checkK hkt hkd, hfd, Option.map_none, hzr, Result.andThen_ok, Sem.run_pure]
    · cases ok
      · exact hzd
      · simp only [if_true, Den, DenL]
        exact ⟨_, rfl, zv, _, rfl, hzd, _, [], rfl, rfl, rfl⟩
/-- delete -/
def delx (P : Program) (wr : Nat → Bool) (ts : Array TypeId) (l : List AV) (m : Mem) (nx : Nat) (K : Kv) : Prop := match ts.toList, l with
  | [ty, _], [.map n, i] => match look m n with
    | some (.mx kd keys vals born) => ∃ q, mxT P ty = some q ∧ q.1 = kd ∧ ∃ a, keyA kd i = some a ∧ wr n = true ∧ K (.tup []) (upd m n (.mx kd (keys.eraseIdx (xidx a keys)) (vals.eraseIdx (xidx a keys)) (born.eraseIdx (xidx a keys)))) nx
    | _ => False
  | _, _ => False
theorem map_eraseIdx' {α β : Type} (f : α → β) : ∀ (l : List α) (i : Nat), (l.eraseIdx i).map f = (l.map f).eraseIdx i
  | [], i => by simp
  | x :: r, 0 => by simp
  | x :: r, i + 1 => by simp [map_eraseIdx' f r i]
theorem denL_erase {l : List AV} {vs : List Value} (h : DenL H B l vs) (i : Nat) : DenL H B (l.eraseIdx i) (vs.eraseIdx i) := by
  rw [List.eraseIdx_eq_take_drop_succ, List.eraseIdx_eq_take_drop_succ]
  exact (h.take i).append (h.drop (i + 1))
theorem delx_ok (hi : Inv w0 FP wr m nx H B w) {ts : Array TypeId} {l : List AV} {K : Kv} (h : delx P wr ts l m nx K) {vs : List Value} (hd : DenL H B l vs) (ty0 : TypeId) (cc : Array Bool) : Gives P w0 FP wr H B K ((builtin .delete ts ty0 cc vs.toArray).run P w) := by
  unfold delx at h
  split at h
  · rename_i ty kt0 n i hts
    split at h
    · rename_i kd keys vals born hn
      obtain ⟨q, hq, rfl, a, hka, hw, h⟩ := h
      simp only [DenL] at hd
      obtain ⟨u1, s1, rfl, h1, u2, s2, rfl, h2, rfl⟩ := hd
      simp only [Den] at h1
      obtain ⟨b, hb, rfl⟩ := h1
      obtain ⟨rfl, hkd⟩ := keyA_den hka h2
      obtain ⟨kt, hm, hkt⟩ := mxT_some hq
      obtain ⟨b', hb', ⟨ms, c, hh, hks, hbs, hnd, hlt, hds, hdv⟩, _⟩ := hi.obj n _ hn
      rw [hb] at hb'; cases hb'
      have hfd := findK hkt hkd w hks hds
      have hts' : ts = #[ty, kt0] := by rw [← Array.toArray_toList (xs := ts), hts]
      subst hts'
      have hl1 : ms.length = keys.length := by have := congrArg List.length hks; simpa using this
      have hrun : (Builtin.delete_ #[ty, kt0] ty0 #[.map (some b), a.val]).run P w = .ok (.tuple #[]) { w with heap := w.heap.setIfInBounds b (.map (ms.eraseIdx (xidx a keys)).toArray c) } := by
        by_cases hlt2 : xidx a keys < ms.length
        · have hge := List.getElem?_eq_getElem hlt2
          rw [hge] at hfd
          have he : ms.toArray.eraseIdxIfInBounds (xidx a keys) = (ms.eraseIdx (xidx a keys)).toArray := by
            unfold Array.eraseIdxIfInBounds
            rw [dif_pos (by simpa using hlt2)]
            simp
          simp [Builtin.delete_, run_underlying hm, MapKept.run_getObj_map hh, checkK hkt hkd, hfd, run_setObj_map _ hh, Result.andThen, he]
        · have hge : ms[xidx a keys]? = none := List.getElem?_eq_none (by omega)
          rw [hge] at hfd
          have he : ms.eraseIdx (xidx a keys) = ms := List.eraseIdx_of_length_le (by omega)
          simp [Builtin.delete_, run_underlying hm, MapKept.run_getObj_map hh, checkK hkt hkd, hfd, run_setObj_map _ hh, Result.andThen, he]
      refine ⟨.tuple #[], .tup [], _, nx, B, { w with heap := w.heap.setIfInBounds b (.map (ms.eraseIdx (xidx a keys)).toArray c) }, .inl ?_, ?_, Ext.refl _ _, undef_den0, h⟩
      · simp only [builtin, Sem.run_bind, hrun, Result.andThen_ok, Sem.run_pure]
      · refine hi.write hn hw hb _ (by simp) rfl rfl rfl (fun k hk => (heap_set hh).2 k hk) ⟨ms.eraseIdx (xidx a keys), c, (heap_set hh).1, ?_, ?_, ?_, ?_, ?_, ?_⟩
        · rw [map_eraseIdx', hks, map_eraseIdx']
        · rw [map_eraseIdx', hbs]
        · exact (List.eraseIdx_sublist _ _).nodup hnd
        · exact fun x hx => hlt x ((List.eraseIdx_sublist _ _).subset hx)
        · exact fun x hx => hds x ((List.eraseIdx_sublist _ _).subset hx)
        · rw [map_eraseIdx']; exact denL_erase hdv _
    · exact h.elim
  · exact h.elim
/-- how many -/
def mapOf : List AV → Option Nat
  | [.map n] => some n
  | _ => none
def lenm (P : Program) (ts : Array TypeId) (n : Nat) (m : Mem) (nx : Nat) (K : Kv) : Prop := match ts.toList, look m n with
  | [ty], some (.mx kd keys vals born) => (∃ q, mxT P ty = some q) ∧ K (.int .i64 keys.length) m nx
  | _, _ => False
theorem lenm_ok (hi : Inv w0 FP wr m nx H B w) {ts : Array TypeId} {n : Nat} {K : Kv} (h : lenm P ts n m nx K) {vs : List Value} (hd : DenL H B [.map n] vs) (ty0 : TypeId) (cc : Array Bool) : Gives P w0 FP wr H B K ((builtin .len ts ty0 cc vs.toArray).run P w) := by
  unfold lenm at h
  split at h
  · rename_i ty kd keys vals born hts hn
    obtain ⟨⟨q, hq⟩, h⟩ := h
    simp only [DenL, Den] at hd
    obtain ⟨u1, s1, rfl, ⟨b, hb, rfl⟩, rfl⟩ := hd
    obtain ⟨kt, hm, hkt⟩ := mxT_some hq
    obtain ⟨b', hb', ⟨ms, c, hh, hks, hbs, hnd, hlt, hds, hdv⟩, _⟩ := hi.obj n _ hn
    rw [hb] at hb'; cases hb'
    have hts' : ts = #[ty] := by rw [← Array.toArray_toList (xs := ts), hts]
    subst hts'
    have hl1 : ms.length = keys.length := by have := congrArg List.length hks; simpa using this
    refine ⟨.int .i64 keys.length, _, _, nx, B, w, .inl ?_, hi, Ext.refl _ _, by simp only [Den], h⟩
    simp [builtin, Builtin.len_, run_underlying hm, MapKept.run_getObj_map hh, Result.andThen, hl1, goInt]
  · exact h.elim
def mkq (P : Program) (ty : TypeId) (m : Mem) (nx : Nat) (K : Kv) : Option (KD × TypeId) → Prop
  | some q => K (.map nx) ((nx, .mx q.1 [] [] []) :: m) (nx + 1)
  | none => mkmx P ty m nx K
def mkmx2 (P : Program) (ty : TypeId) (m : Mem) (nx : Nat) (K : Kv) : Prop := mkq P ty m nx K (mxT P ty)
theorem mkmx2_ok (hi : Inv w0 FP wr m nx H B w) {ty : TypeId} {K : Kv} (h : mkmx2 P ty m nx K) {o : Oper} (ho : o.op = .makeMap ty none) : Gives P w0 FP wr H B K ((execOp a.eval o).run P w) := by
  unfold mkmx2 at h
  cases hq : mxT P ty with
  | none => rw [hq] at h; exact mkmx_ok hi h ho
  | some q =>
    rw [hq] at h
    obtain ⟨g1, g2⟩ := hi.renew (m' := m) (fun _ _ h => h) hi.keep (b := w.heap.size) (.inl rfl) (w' := w.alloc (.map #[] 0)) rfl rfl rfl (by simp)
      (fun k hk _ => heap_alloc_old w _ k hk) (o := .mx q.1 [] [] []) ⟨[], 0, heap_alloc_new _ _, rfl, rfl, List.nodup_nil, (fun _ h => by cases h), (fun _ h => by cases h), by simp [DenL]⟩
    refine ⟨.map (some w.heap.size), .map nx, _, _, _, w.alloc (.map #[] 0), .inl ?_, g1, g2, by simp only [Den]; exact ⟨_, bind1_same _ _ _, rfl⟩, h⟩
    unfold execOp
    simp only [ho, Option.map_none, Sem.run_bind, run_makeMap, Result.andThen_ok, Sem.run_pure]
def lookq (P : Program) (m : Mem) (ty : TypeId) (n : Nat) (v : AV) (ok : Bool) (k : AV → Prop) : Option AObj → Prop
  | some (.mx kd keys vals born) => lookz P ty v ok k kd keys vals
  | _ => lookx P m ty (.map n) v ok k
def lookx2 (P : Program) (m : Mem) (ty : TypeId) (u v : AV) (ok : Bool) (k : AV → Prop) : Prop := match u with
  | .map n => lookq P m ty n v ok k (look m n)
  | _ => False
theorem lookx2_ok (hi : Inv w0 FP wr m nx H B w) {ty : TypeId} {x i : AV} {ok : Bool} {k : AV → Prop} (h : lookx2 P m ty x i ok k) {u1 u2 : Value} (h1 : Den H B x u1) (h2 : Den H B i u2) :
    ∃ v av, (Instr.lookup ty u1 u2 ok).run P w = .ok v w ∧ Den H B av v ∧ k av := by
  unfold lookx2 at h
  split at h
  · rename_i n
    cases hn : look m n with
    | none => rw [hn] at h; exact lookx_ok hi h h1 h2
    | some o =>
      rw [hn] at h
      cases o with
      | mx kd keys vals born => exact lookz_ok hi hn h h1 h2
      | cells l e => exact lookx_ok hi h h1 h2
      | opq o => exact lookx_ok hi h h1 h2
      | fz l e => exact lookx_ok hi h h1 h2
      | mp k a b => exact lookx_ok hi h h1 h2
  · exact h.elim
def insq (P : Program) (wr : Nat → Bool) (ty : TypeId) (n : Nat) (i y : AV) (m : Mem) (nx : Nat) (K : Kv) : Option AObj → Prop
  | some (.mx kd keys vals born) => insz P wr ty n i y m nx K kd keys vals born
  | _ => insx P wr ty (.map n) i y m nx K
def insx2 (P : Program) (wr : Nat → Bool) (ty : TypeId) (x i y : AV) (m : Mem) (nx : Nat) (K : Kv) : Prop := match x with
  | .map n => insq P wr ty n i y m nx K (look m n)
  | _ => False
theorem insx2_ok (hi : Inv w0 FP wr m nx H B w) {ty : TypeId} {x i y : AV} {K : Kv} (h : insx2 P wr ty x i y m nx K) {u1 u2 u3 : Value} (h1 : Den H B x u1) (h2 : Den H B i u2) (h3 : Den H B y u3) {r : Result Next}
    (hr : r = ((do Instr.mapUpdate ty u1 u2 u3; pure .skip : Sem Next)).run P w) : Gives P w0 FP wr H B K r := by
  unfold insx2 at h
  split at h
  · rename_i n
    cases hn : look m n with
    | none => rw [hn] at h; exact insx_ok hi h h1 h2 h3 hr
    | some o =>
      rw [hn] at h
      cases o with
      | mx kd keys vals born => exact insz_ok hi hn h h1 h2 h3 hr
      | cells l e => exact insx_ok hi h h1 h2 h3 hr
      | opq o => exact insx_ok hi h h1 h2 h3 hr
      | fz l e => exact insx_ok hi h h1 h2 h3 hr
      | mp k a b => exact insx_ok hi h h1 h2 h3 hr
  · exact h.elim
def lenq (P : Program) (ts : Array TypeId) (l : List AV) (m : Mem) (nx : Nat) (K : Kv) : Option Nat → Prop
  | some n => lenm P ts n m nx K
  | none => bltx P .len ts l fun v => K v m nx
theorem mapOf_some {l : List AV} {n : Nat} (h : mapOf l = some n) : l = [.map n] := by
  unfold mapOf at h
  split at h
  · cases h; rfl
  · cases h
end
end Go.Eng
end
section
/- The engine, part 7: calls, code, loops, functions. Own work. -/
set_option linter.unusedVariables false
set_option linter.unusedSimpArgs false
namespace Go.Eng
open Go

section
variable {P : Program} {w0 w : World} {FP : Nat → Prop} {wr rd : Nat → Bool} {m : Mem} {nx : Nat} {H : RO} {B : Names} {N : Nat} {t : Slots} {a : Act}

/-- A call, from whatever world fits. fz: may more memory become read-only? -/
def CallG (fz : Bool) (P : Program) (g : FuncId) (args : List AV) (wr : Nat → Bool) (m : Mem) (nx : Nat) (K : Kv) : Prop :=
  ∀ (w0 : World) (FP : Nat → Prop) (H : RO) (B : Names) (w : World) (vs : List Value), Inv w0 FP wr m nx H B w → DenL H B args vs →
    Calls P g vs.toArray w fun e w' => ∃ v av m' nx' B' H', e = .returned v ∧ (fz = false → H' = H) ∧ Inv w0 FP wr m' nx' H' B' w' ∧ Ext H B H' B' ∧ Den H' B' av v ∧ K av m' nx'
def CallOk (P : Program) (g : FuncId) (args : List AV) (wr : Nat → Bool) (m : Mem) (nx : Nat) (K : Kv) : Prop := CallG true P g args wr m nx K
def enters (P : Program) (g : FuncId) : Bool := match P.funcs[g]? with
  | some fn => !(fn.name == "runtime.NumGoroutine") && fn.body.isSome
  | none => false
theorem enters_run {g : FuncId} (h : enters P g = true) (args : Array Value) (w : World) : (callFunc g args).run P w = .ok (.enter g args) w := by
  unfold enters at h
  split at h
  · rename_i fn hf
    simp only [Bool.and_eq_true, Bool.not_eq_true', beq_eq_false_iff_ne, ne_eq] at h
    obtain ⟨c, hc⟩ := Option.isSome_iff_exists.1 h.2
    simp [callFunc, hf, h.1, hc]
  · cases h
def calx (P : Program) (fz : Bool) (wr : Nat → Bool) (f : AV) (args : List AV) (m : Mem) (nx : Nat) (K : Kv) : Prop :=
  match f with
  | .fn (.func g) fi ca => enters P g = true ∧ CallG fz P g (fi ++ args ++ ca) wr m nx K
  | _ => False
/-- a method of what an interface holds -/
def invx (P : Program) (fz : Bool) (wr : Nat → Bool) (u : AV) (name : String) (args : List AV) (m : Mem) (nx : Nat) (K : Kv) : Prop :=
  match u with
  | .iface t x => ∃ g, methT P t name g ∧ enters P g = true ∧ CallG fz P g (x :: args) wr m nx K
  | _ => False
/-- the same, the memory as it is -/
def KvAt (K : Kv) (m : Mem) (nx : Nat) : AV → Prop := fun v => K v m nx
theorem KvAt_app (K : Kv) (m : Mem) (nx : Nat) (v : AV) : KvAt K m nx v = K v m nx := rfl
/-- a conversion; a constant's bytes are taken as they are, and their block is marked -/
def cvs (b : Bool) (P : Program) (wr : Nat → Bool) (s d : TypeId) (n off len cap : Nat) (m : Mem) (nx : Nat) (K : Kv) : Prop := match b with
  | true => convx P (fun _ => true) m s d (.sl n off len cap) (KvAt K m nx)
  | false => s = d ∧ 0 < cap ∧ ∃ e, elemT P d = some e ∧ intT P e = some .u8 ∧ wr n = true ∧ match look m n with
    | some (.cells l ty) => K (.sl n off len cap) (upd m n (.fz l ty)) nx
    | _ => False
def cvx (P : Program) (wr : Nat → Bool) (s d : TypeId) (u : AV) (m : Mem) (nx : Nat) (K : Kv) : Prop := match u with
  | .sl n off len cap => cvs (isStrT P d) P wr s d n off len cap m nx K
  | u => convx P (fun _ => true) m s d u (KvAt K m nx)
theorem cvs_ok (hi : Inv w0 FP wr m nx H B w) {s d : TypeId} {n off len cap : Nat} {K : Kv} (h : cvs false P wr s d n off len cap m nx K) {o : Oper} {x : Operand} (ho : o.op = .convert s d x) (hu : Den H B (.sl n off len cap) (a.eval x)) :
    Gives P w0 FP wr H B K ((execOp a.eval o).run P w) := by
  obtain ⟨rfl, hcp, e, he, hq, hw, h⟩ := h
  split at h
  · rename_i l ty hn
    simp only [Den] at hu
    obtain ⟨b, ad, hb, hu, hlc, had⟩ := hu
    obtain ⟨b', cs, hb', hc, hdl⟩ := obj_cells hi hn
    rw [hb] at hb'; injection hb' with hb'; subst hb'
    have had := had (by omega)
    subst had
    have hsh : (w.freeze ⟨b, cs.length, none⟩ 1).heap[b]? = some (.cells cs.toArray ty (cs.length, cs.length + 1)) := by
      unfold World.freeze
      rw [if_neg (by decide)]
      simp only [Array.getElem?_modify, if_true, hc, Option.map_some]
      rfl
    refine ⟨a.eval x, .sl n off len cap, upd m n (.fz l ty), nx, B, w.freeze ⟨b, cs.length, none⟩ 1, .inl ?_, ?_, Ext.refl _ _, by simp only [Den]; exact ⟨b, _, hb, hu, hlc, fun _ => rfl⟩, h⟩
    · unfold execOp
      have hs2 : w.shape? b = some (ty, cs.length) := by simp [World.shape?, hc]
      simp [ho, hu, convert, run_underlying (elemT_some he), run_underlying (intT_some hq), markStringish, hs2]
    · refine hi.write hn hw hb (.fz l ty) (by simp [World.freeze]) rfl rfl rfl (fun k hk => ?_) ⟨cs, _, hsh, hdl⟩
      unfold World.freeze
      rw [if_neg (by decide)]
      simp only [Array.getElem?_modify, if_neg (Ne.symm hk)]
  · exact h.elim
/-- one operation -/
def opx (P : Program) (fz : Bool) (wr : Nat → Bool) (t : Slots) (m : Mem) (nx : Nat) (op : Op) (K : Kv) : Prop :=
  match op with
  | .alloc ty => allocx P ty m nx K
  | .box ty x => withv (evx t x) fun v => boxx ty v m nx K
  | .buildSlice ty len parts => match evp t parts.toList with
    | some ps => bslx P ty len ps m nx K
    | none => False
  | .makeSlice ty l c => withv (evx t l) fun x => withv (evx t c) fun y => mkslx P ty x y m nx K
  | .store ty p x => withv (evx t p) fun u => withv (evx t x) fun v => stx P wr ty u v m nx K
  | .convert s d x => withv (evx t x) fun u => cvx P wr s d u m nx K
  | .makeMap ty none => mkmx2 P ty m nx K
  | .insert ty x i y => withv (evx t x) fun u => withv (evx t i) fun v => withv (evx t y) fun z => insx2 P wr ty u v z m nx K
  | .mapUpdate ty x i y => withv (evx t x) fun u => withv (evx t i) fun v => withv (evx t y) fun z => insx2 P wr ty u v z m nx K
  | .lookup ty x i ok => withv (evx t x) fun u => withv (evx t i) fun v => lookx2 P m ty u v ok (KvAt K m nx)
  | .mapEntry ty x i => withv (evx t x) fun u => withv (evx t i) fun v => mentx P wr ty u v m nx K
  | .entryStore _ x i y => withv (evx t x) fun u => withv (evx t i) fun v => withv (evx t y) fun z => estx wr u v z m nx K
  | .call c => match c.callee with
    | .builtin .append => withl (evs t c.args.toList) fun l => appq P wr c.argTypes l m nx K (isZ P c.argTypes)
    | .builtin .copy => withl (evs t c.args.toList) fun l => cpyx P wr c.argTypes l m nx K
    | .builtin .delete => withl (evs t c.args.toList) fun l => delx P wr c.argTypes l m nx K
    | .builtin .len => withl (evs t c.args.toList) fun l => lenq P c.argTypes l m nx K (mapOf l)
    | .value f => withv (evx t f) fun u => withl (evs t c.args.toList) fun l => calx P fz wr u l m nx K
    | .invoke x name => withv (evx t x) fun u => withl (evs t c.args.toList) fun l => invx P fz wr u name l m nx K
    | _ => rdx P (fun _ => true) t m op (KvAt K m nx)
  | op => rdx P (fun _ => true) t m op (KvAt K m nx)
/-- what comes of an operation that may call -/
def Gives' (fz : Bool) (P : Program) (w0 : World) (FP : Nat → Prop) (wr : Nat → Bool) (H : RO) (B : Names) (K : Kv) (r : Result Next) : Prop :=
  Gives P w0 FP wr H B K r ∨ ∃ g vs w', r = .ok (.enter g vs) w' ∧ Calls P g vs w' fun e w'' => ∃ v av m' nx' B' H', e = .returned v ∧ (fz = false → H' = H) ∧ Inv w0 FP wr m' nx' H' B' w'' ∧ Ext H B H' B' ∧ Den H' B' av v ∧ K av m' nx'
theorem rdx_gives {fz : Bool} (hi : Inv w0 FP wr m nx H B w) (hs : SlotsOk N H B t a) {o : Oper} {K : Kv} (h : rdx P (fun _ => true) t m o.op (KvAt K m nx)) : Gives' fz P w0 FP wr H B K ((execOp a.eval o).run P w) := by
  obtain ⟨v, av, hr, hd, hk⟩ := rdx_ok hi hs h
  exact .inl ⟨v, av, m, nx, B, w, .inl (hr w (hi.sees _)), hi, Ext.refl _ _, hd, hk⟩
theorem opx_ok {fz : Bool} (hi : Inv w0 FP wr m nx H B w) (hs : SlotsOk N H B t a) {o : Oper} {K : Kv} (h : opx P fz wr t m nx o.op K) : Gives' fz P w0 FP wr H B K ((execOp a.eval o).run P w) := by
  unfold opx at h
  split at h
  · rename_i ty ho; exact .inl (allocx_ok hi h ho)
  · rename_i ty x ho
    obtain ⟨v, e, h⟩ := withv_elim h
    exact .inl (boxx_ok hi h ho (evx_ok hs e))
  · rename_i ty len parts ho
    split at h
    · rename_i ps hps
      obtain ⟨h1, h2⟩ := evp_ok hs hps
      exact .inl (bslx_ok hi h ho h1 h2)
    · exact h.elim
  · rename_i ty l c ho
    obtain ⟨x, e, h⟩ := withv_elim h
    obtain ⟨y, e', h⟩ := withv_elim h
    exact .inl (mkslx_ok hi h ho (evx_ok hs e) (evx_ok hs e'))
  · rename_i ty p x ho
    obtain ⟨u, e, h⟩ := withv_elim h
    obtain ⟨v, e', h⟩ := withv_elim h
    exact .inl (stx_ok hi h ho (evx_ok hs e) (evx_ok hs e'))
  · rename_i s d x ho
    obtain ⟨u, e, h⟩ := withv_elim h
    have hv := evx_ok hs e
    have up : ∀ {u : AV}, convx P (fun _ => true) m s d u (KvAt K m nx) → Den H B u (a.eval x) → Gives P w0 FP wr H B K ((execOp a.eval o).run P w) := fun h hv => by
      obtain ⟨v, av, hr, hd, hk⟩ := convx_ok hi h hv
      refine ⟨v, av, m, nx, B, w, .inl ?_, hi, Ext.refl _ _, hd, hk⟩
      unfold execOp
      simp only [ho, Sem.run_bind, hr w (hi.sees _), Result.andThen_ok, Sem.run_pure]
    unfold cvx at h
    split at h
    · rename_i n off len cap
      cases hb : isStrT P d with
      | true => rw [hb] at h; exact .inl (up (u := .sl n off len cap) h hv)
      | false => rw [hb] at h; exact .inl (cvs_ok hi h ho hv)
    · exact .inl (up h hv)
  · rename_i ty ho; exact .inl (mkmx2_ok hi h ho)
  · rename_i ty x i y ho
    obtain ⟨u, e1, h⟩ := withv_elim h
    obtain ⟨v, e2, h⟩ := withv_elim h
    obtain ⟨z, e3, h⟩ := withv_elim h
    refine .inl (insx2_ok hi h (evx_ok hs e1) (evx_ok hs e2) (evx_ok hs e3) ?_)
    unfold execOp
    simp only [ho]
  · rename_i ty x i y ho
    obtain ⟨u, e1, h⟩ := withv_elim h
    obtain ⟨v, e2, h⟩ := withv_elim h
    obtain ⟨z, e3, h⟩ := withv_elim h
    refine .inl (insx2_ok hi h (evx_ok hs e1) (evx_ok hs e2) (evx_ok hs e3) ?_)
    unfold execOp
    simp only [ho]
  · rename_i ty x i ok ho
    obtain ⟨u, e1, h⟩ := withv_elim h
    obtain ⟨v, e2, h⟩ := withv_elim h
    obtain ⟨r, av, hr, hd, hk⟩ := lookx2_ok hi h (evx_ok hs e1) (evx_ok hs e2)
    refine .inl ⟨r, av, m, nx, B, w, .inl ?_, hi, Ext.refl _ _, hd, hk⟩
    unfold execOp
    simp only [ho, Sem.run_bind, hr, Result.andThen_ok, Sem.run_pure]
  · rename_i ty x i ho
    obtain ⟨u, e1, h⟩ := withv_elim h
    obtain ⟨v, e2, h⟩ := withv_elim h
    refine .inl (mentx_ok hi h (evx_ok hs e1) (evx_ok hs e2) ?_)
    unfold execOp
    simp only [ho]
  · rename_i ty x i y ho
    obtain ⟨u, e1, h⟩ := withv_elim h
    obtain ⟨v, e2, h⟩ := withv_elim h
    obtain ⟨z, e3, h⟩ := withv_elim h
    refine .inl (estx_ok hi h (evx_ok hs e1) (evx_ok hs e2) (evx_ok hs e3) (ty := ty) ?_)
    unfold execOp
    simp only [ho]
  · rename_i c ho
    split at h
    · rename_i hb
      obtain ⟨l, e, h⟩ := withl_elim h
      have := appq_ok hi h (evs_ok hs e) o.type (c.args.map fun | .const _ => true | _ => false)
      rw [← List.map_toArray, Array.toArray_toList] at this
      refine .inl ?_
      unfold execOp
      simp only [ho, resolve, hb, Sem.run_bind, Sem.run_pure, Result.andThen_ok, invoke]
      exact this
    · rename_i hb
      obtain ⟨l, e, h⟩ := withl_elim h
      have := cpyx_ok hi h (evs_ok hs e) o.type (c.args.map fun | .const _ => true | _ => false)
      rw [← List.map_toArray, Array.toArray_toList] at this
      refine .inl ?_
      unfold execOp
      simp only [ho, resolve, hb, Sem.run_bind, Sem.run_pure, Result.andThen_ok, invoke]
      exact this
    · rename_i hb
      obtain ⟨l, e, h⟩ := withl_elim h
      have := delx_ok hi h (evs_ok hs e) o.type (c.args.map fun | .const _ => true | _ => false)
      rw [← List.map_toArray, Array.toArray_toList] at this
      refine .inl ?_
      unfold execOp
      simp only [ho, resolve, hb, Sem.run_bind, Sem.run_pure, Result.andThen_ok, invoke]
      exact this
    · rename_i hb
      obtain ⟨l, e, h⟩ := withl_elim h
      have hg : Gives P w0 FP wr H B K ((builtin .len c.argTypes o.type (c.args.map fun | .const _ => true | _ => false) (c.args.map a.eval)).run P w) := by
        have hd := evs_ok hs e
        cases hm : mapOf l with
        | some n =>
          rw [hm] at h
          have hl := mapOf_some hm
          rw [hl] at hd
          have := lenm_ok hi h hd o.type (c.args.map fun | .const _ => true | _ => false)
          rwa [← List.map_toArray, Array.toArray_toList] at this
        | none =>
          rw [hm] at h
          obtain ⟨v, av, h1, h2, h3⟩ := bltx_ok (show bltx P .len c.argTypes l (fun v => K v m nx) from h) hd o.type (c.args.map fun | .const _ => true | _ => false)
          have h1' := h1 w
          rw [← List.map_toArray, Array.toArray_toList] at h1'
          exact ⟨v, av, m, nx, B, w, .inl h1', hi, Ext.refl _ _, h2, h3⟩
      refine .inl ?_
      unfold execOp
      simp only [ho, resolve, hb, Sem.run_bind, Sem.run_pure, Result.andThen_ok, invoke]
      exact hg
    · rename_i f hb
      obtain ⟨u, e, h⟩ := withv_elim h
      obtain ⟨l, e', h⟩ := withl_elim h
      unfold calx at h
      split at h
      · rename_i g fi ca
        obtain ⟨he, h⟩ := h
        have hu := evx_ok hs e
        simp only [Den] at hu
        obtain ⟨xs, ys, hf, h1, h2⟩ := hu
        have hd := (h1.append (evs_ok hs e')).append h2
        have hc := h w0 FP H B w _ hi hd
        refine .inr ⟨_, _, w, ?_, hc⟩
        unfold execOp
        simp only [ho, resolve, hb, hf, Deferred.ofValue, Sem.run_bind, Sem.run_pure, Result.andThen_ok, invoke, enters_run he]
        congr 2
        apply Array.ext'
        simp
      · exact h.elim
    · rename_i x name hb
      obtain ⟨u, e, h⟩ := withv_elim h
      obtain ⟨l, e', h⟩ := withl_elim h
      unfold invx at h
      split at h
      · rename_i tI x' hOld
        obtain ⟨g, hm, he, h⟩ := h
        have hu := evx_ok hs e
        simp only [Den] at hu
        obtain ⟨y, hf, h1⟩ := hu
        have hd : DenL H B (x' :: l) (y :: (c.args.toList.map a.eval)) := by
          simp only [DenL]
          exact ⟨y, _, rfl, h1, evs_ok hs e'⟩
        have hc := h w0 FP H B w _ hi hd
        refine .inr ⟨_, _, w, ?_, hc⟩
        have hmm := hm y w
        unfold execOp
        simp only [ho, resolve, hb, hf, Sem.run_bind, Sem.run_pure, Result.andThen_ok, invoke, callMethod]
        have h0 : (#[Value.iface tI y] ++ Array.map a.eval c.args)[0]? = some (.iface tI y) := by rw [Array.getElem?_append_left (by simp)]; rfl
        have h2 : #[y] ++ (#[Value.iface tI y] ++ Array.map a.eval c.args).extract 1 = (y :: List.map a.eval c.args.toList).toArray := by
          apply Array.ext'
          simp
          exact List.take_of_length_le (by simp)
        rw [h0]
        simp only [Sem.run_bind, run_program, Result.andThen_ok, hmm]
        rw [h2, enters_run he]
      · exact h.elim
    · exact rdx_gives hi hs h
  · exact rdx_gives hi hs h

/-! regions -/
abbrev St := Slots × Mem × Nat
def putd (t : Slots) (d : Option Tmp) (v : AV) : Slots := match d with | some k => (k, v) :: t | none => t
def dstOk (N : Nat) (d : Option Tmp) : Bool := match d with | some k => decide (k < N) | none => true
abbrev Se := Slots → Mem → Nat → Prop
/-- what is left of a region, behind an operation -/
def After (E : Se) (t : Slots) (d : Option Tmp) : Kv := fun v m nx => E (putd t d v) m nx
def OpE (P : Program) (fz : Bool) (wr : Nat → Bool) (op : Op) (d : Option Tmp) (E : Se) : Se := fun t m nx => opx P fz wr t m nx op (After E t d)
def SkE (d : Option Tmp) (E : Se) : Se := fun t m nx => E (putd t d (.tup [])) m nx
/-- a guard: the slot that it asks, and what it wants -/
def grdv (v : Option AV) (s : Tmp) (want : Bool) (yes no : Se) (t : Slots) (m : Mem) (nx : Nat) : Prop :=
  match v with
  | some (.bool b) => (b = want → yes ((s, .bool want) :: t) m nx) ∧ (b = !want → no ((s, .bool (!want)) :: t) m nx)
  | some (.tup []) => no t m nx
  | _ => False
def grds (d : Option Tmp) (want : Bool) (yes no : Se) (t : Slots) (m : Mem) (nx : Nat) : Prop :=
  match d with
  | some s => grdv (look t s) s want yes no t m nx
  | none => False
def grdx (ops : Array Oper) (g : Option (Nat × Bool)) (yes no : Se) (t : Slots) (m : Mem) (nx : Nat) : Prop :=
  match g with
  | none => yes t m nx
  | some (j, want) => grds ((ops[j]?).bind (·.dst)) want yes no t m nx
def opsx (P : Program) (fz : Bool) (N : Nat) (wr : Nat → Bool) (ops : Array Oper) (K : Se) : List Oper → Se
  | [], t, m, nx => K t m nx
  | o :: rest, t, m, nx => dstOk N o.dst = true ∧ grdx ops o.guard (OpE P fz wr o.op o.dst (opsx P fz N wr ops K rest)) (SkE o.dst (opsx P fz N wr ops K rest)) t m nx
theorem After_app (E : Se) (t : Slots) (d : Option Tmp) (v : AV) (m : Mem) (nx : Nat) : After E t d v m nx = E (putd t d v) m nx := rfl
theorem OpE_app (P : Program) (fz : Bool) (wr : Nat → Bool) (op : Op) (d : Option Tmp) (E : Se) (t : Slots) (m : Mem) (nx : Nat) : OpE P fz wr op d E t m nx = opx P fz wr t m nx op (After E t d) := rfl
theorem SkE_app (d : Option Tmp) (E : Se) (t : Slots) (m : Mem) (nx : Nat) : SkE d E t m nx = E (putd t d (.tup [])) m nx := rfl
theorem grdx_none (ops : Array Oper) (yes no : Se) (t : Slots) (m : Mem) (nx : Nat) : grdx ops none yes no t m nx = yes t m nx := rfl
theorem grdx_some (ops : Array Oper) (j : Nat) (want : Bool) (yes no : Se) (t : Slots) (m : Mem) (nx : Nat) : grdx ops (some (j, want)) yes no t m nx = grds ((ops[j]?).bind (·.dst)) want yes no t m nx := rfl
theorem grds_some (s : Tmp) (want : Bool) (yes no : Se) (t : Slots) (m : Mem) (nx : Nat) : grds (some s) want yes no t m nx = grdv (look t s) s want yes no t m nx := rfl
theorem grdv_true (s : Tmp) (yes no : Se) (t : Slots) (m : Mem) (nx : Nat) : grdv (some (.bool true)) s true yes no t m nx = yes ((s, .bool true) :: t) m nx := by simp [grdv]
theorem grdv_false (s : Tmp) (yes no : Se) (t : Slots) (m : Mem) (nx : Nat) : grdv (some (.bool false)) s true yes no t m nx = no ((s, .bool false) :: t) m nx := by simp [grdv]
theorem grdv_true' (s : Tmp) (yes no : Se) (t : Slots) (m : Mem) (nx : Nat) : grdv (some (.bool true)) s false yes no t m nx = no ((s, .bool true) :: t) m nx := by simp [grdv]
theorem grdv_false' (s : Tmp) (yes no : Se) (t : Slots) (m : Mem) (nx : Nat) : grdv (some (.bool false)) s false yes no t m nx = yes ((s, .bool false) :: t) m nx := by simp [grdv]
theorem grdv_bool (b : Bool) (s : Tmp) (want : Bool) (yes no : Se) (t : Slots) (m : Mem) (nx : Nat) : grdv (some (.bool b)) s want yes no t m nx = ((b = want → yes ((s, .bool want) :: t) m nx) ∧ (b = !want → no ((s, .bool (!want)) :: t) m nx)) := rfl
theorem grdv_undef (s : Tmp) (want : Bool) (yes no : Se) (t : Slots) (m : Mem) (nx : Nat) : grdv (some (.tup [])) s want yes no t m nx = no t m nx := rfl
theorem opsx_nil (P : Program) (fz : Bool) (N : Nat) (wr : Nat → Bool) (ops : Array Oper) (K : Se) (t : Slots) (m : Mem) (nx : Nat) : opsx P fz N wr ops K [] t m nx = K t m nx := rfl
theorem opsx_cons (P : Program) (fz : Bool) (N : Nat) (wr : Nat → Bool) (ops : Array Oper) (K : Se) (o : Oper) (rest : List Oper) (t : Slots) (m : Mem) (nx : Nat) :
    opsx P fz N wr ops K (o :: rest) t m nx = (dstOk N o.dst = true ∧ grdx ops o.guard (OpE P fz wr o.op o.dst (opsx P fz N wr ops K rest)) (SkE o.dst (opsx P fz N wr ops K rest)) t m nx) := rfl
theorem SlotsOk.putd {d : Option Tmp} (h : SlotsOk N H B t a) (hd : dstOk N d = true) {av : AV} {v : Value} (hv : Den H B av v) : SlotsOk N H B (putd t d av) (a.put d v) := by
  cases d with
  | none => exact h
  | some k => exact h.put (by simpa [dstOk] using hd) hv
theorem SlotsOk.told (hs : SlotsOk N H B t a) {d : Tmp} {b : Bool} (hb : look t d = some (.bool b)) : SlotsOk N H B ((d, .bool b) :: t) a := by
  refine ⟨hs.1, fun s av e => ?_⟩
  simp only [look] at e
  split at e
  · rename_i hd; cases e; subst hd; exact hs.2 _ _ hb
  · exact hs.2 s av e
theorem wanted_of {ops : Array Oper} {o : Oper} {yes no : Se} (hs : SlotsOk N H B t a) (h : grdx ops o.guard yes no t m nx) :
    ∃ t', SlotsOk N H B t' a ∧ ((Region.wanted o (yielded ops a.tmps) = true ∧ yes t' m nx) ∨ (Region.wanted o (yielded ops a.tmps) = false ∧ no t' m nx)) := by
  unfold grdx at h
  split at h
  · rename_i hg; exact ⟨t, hs, .inl ⟨by simp [Region.wanted, hg], h⟩⟩
  · rename_i j want hg
    unfold grds at h
    split at h
    · rename_i d hd
      have key : ∀ b : Bool, a.tmps.getD d undef = .bool b → yielded ops a.tmps j = some b := fun b e => by
        unfold yielded
        have : a.tmps[d]? = some (.bool b) := by
          rw [Array.getD_eq_getD_getElem?] at e
          cases hx : a.tmps[d]? with
          | none => rw [hx] at e; simp [undef] at e
          | some v => rw [hx] at e; simp at e; rw [e]
        rw [hd]
        simp [this]
      unfold grdv at h
      split at h
      · rename_i b hb
        have hv := hs.2 d _ hb
        simp only [Den] at hv
        by_cases hbw : b = want
        · subst hbw
          exact ⟨_, hs.told hb, .inl ⟨by simp [Region.wanted, hg, key b hv], h.1 rfl⟩⟩
        · have hbn : b = !want := by cases b <;> cases want <;> simp_all
          exact ⟨_, by rw [← hbn]; exact hs.told hb, .inr ⟨by simp [Region.wanted, hg, key b hv, hbw], h.2 hbn⟩⟩
      · rename_i hb
        have hv := hs.2 d _ hb
        simp only [Den, DenL] at hv
        obtain ⟨cs, hcs, rfl⟩ := hv
        refine ⟨t, hs, .inr ⟨?_, h⟩⟩
        have : yielded ops a.tmps j = none := by
          unfold yielded
          rw [hd]
          simp only [Option.bind_some]
          have e := hcs
          rw [Array.getD_eq_getD_getElem?] at e
          cases hx : a.tmps[d]? with
          | none => rfl
          | some v => rw [hx] at e; simp at e; rw [e]
        simp [Region.wanted, hg, this]
      · exact h.elim
    · exact h.elim
theorem undef_den : Den H B (.tup []) undef := undef_den0
theorem gives_wp {fz : Bool} {o : Oper} {K : Kv} (h : Gives' fz P w0 FP wr H B K ((execOp a.eval o).run P w)) {next : Act → World → Prop} {Q : Exit → Act → World → Prop}
    (hn : ∀ v av m' nx' B' H' w', (fz = false → H' = H) → Inv w0 FP wr m' nx' H' B' w' → Ext H B H' B' → Den H' B' av v → K av m' nx' → next (a.put o.dst v) w') : o.wp P a w next Q := by
  unfold Oper.wp
  rcases h with ⟨v, av, m', nx', B', w', hr, h1, h2, h3, h4⟩ | ⟨g, vs, w', hr, hc⟩
  · rcases hr with hr | ⟨hr, rfl⟩
    · rw [hr]; exact hn _ _ _ _ _ _ _ (fun _ => rfl) h1 h2 h3 h4
    · rw [hr]; exact hn _ _ _ _ _ _ _ (fun _ => rfl) h1 h2 h3 h4
  · rw [hr, Oper.upon_enter]
    refine hc.mono fun e w'' he => ?_
    obtain ⟨v, av, m', nx', B', H', rfl, h0, h1, h2, h3, h4⟩ := he
    exact hn _ _ _ _ _ _ _ h0 h1 h2 h3 h4
theorem opsx_ok {fz : Bool} {ops : Array Oper} {K : Slots → Mem → Nat → Prop} {Q : Exit → Act → World → Prop} : ∀ (l : List Oper) {t : Slots} {m : Mem} {nx : Nat} {H : RO} {B : Names} {a : Act} {w : World},
    opsx P fz N wr ops K l t m nx → Inv w0 FP wr m nx H B w → SlotsOk N H B t a → (∀ t' m' nx' B' H' a' w', a'.defers = a.defers → K t' m' nx' → (fz = false → H' = H) → Ext H B H' B' → Inv w0 FP wr m' nx' H' B' w' → SlotsOk N H' B' t' a' → Q .normal a' w') → wpList P ops Q l a w
  | [], t, m, nx, H, B, a, w, h, hi, hs, hq => hq _ _ _ _ _ _ _ rfl h (fun _ => rfl) (Ext.refl _ _) hi hs
  | o :: rest, t, m, nx, H, B, a, w, h, hi, hs, hq => by
    obtain ⟨hd, h⟩ := h
    refine wpList_step fun K' hK' => ?_
    have hdef : ∀ v, (a.put o.dst v).defers = a.defers := fun v => by cases h : o.dst <;> rfl
    obtain ⟨t', hs, ⟨hw, h⟩ | ⟨hw, h⟩⟩ := wanted_of hs h
    · rw [if_pos hw]
      refine gives_wp (opx_ok (fz := fz) hi hs h) fun v av m' nx' B' H' w' hz h1 h2 h3 h4 => hK' _ _ ?_
      exact opsx_ok rest h4 h1 ((hs.mono h2).putd hd h3) fun t' m'' nx'' B'' H'' a' w'' hdf hk hz2 hx => hq t' m'' nx'' B'' H'' a' w'' (hdf.trans (hdef v)) hk (fun e => (hz2 e).trans (hz e)) (h2.trans hx)
    · rw [if_neg (by rw [hw]; simp)]
      refine hK' _ _ ?_
      exact opsx_ok rest h hi (hs.putd hd undef_den) fun t' m'' nx'' B'' H'' a' w'' hdf => hq t' m'' nx'' B'' H'' a' w'' (hdf.trans (hdef undef))

abbrev Kx := Exit → Slots → Mem → Nat → Prop
end
end Go.Eng
end
section
/- The engine, part 8: names anew; a function's contract met in a greater memory. Own work. -/
set_option linter.unusedVariables false
set_option linter.unusedSimpArgs false
namespace Go.Eng
open Go

mutual
def renA (f : Nat → Nat) : AV → AV
  | .ptr n o => .ptr (f n) o
  | .sl n o l c => .sl (f n) o l c
  | .map n => .map (f n)
  | .ro l xs => .ro l (renL f xs)
  | .rop xs => .rop (renL f xs)
  | .fn g fi ca => .fn g (renL f fi) (renL f ca)
  | .iface t v => .iface t (renA f v)
  | .agg l => .agg (renL f l)
  | .tup l => .tup (renL f l)
  | .bool b => .bool b
  | .int k n => .int k n
  | .str s => .str s
  | .nilp => .nilp
  | .nils => .nils
  | .nilf => .nilf
  | .nilm => .nilm
  | .nili => .nili
  | .val v => .val v
def renL (f : Nat → Nat) : List AV → List AV
  | [] => []
  | x :: r => renA f x :: renL f r
end
mutual
theorem den_ren {H : RO} {B : Names} {f : Nat → Nat} : ∀ (a : AV) {v : Value}, Den H B (renA f a) v → Den H (fun n => B (f n)) a v
  | .ptr n o, v, h => by simpa only [renA, Den] using h
  | .sl n o l c, v, h => by simpa only [renA, Den] using h
  | .map n, v, h => by simpa only [renA, Den] using h
  | .ro l xs, v, h => by
    simp only [renA, Den] at h ⊢
    obtain ⟨A, c, e, h1, h2⟩ := h
    exact ⟨A, c, e, h1, denAt_ren xs h2⟩
  | .rop xs, v, h => by
    simp only [renA, Den] at h ⊢
    obtain ⟨a, e, h2⟩ := h
    exact ⟨a, e, denAt_ren xs h2⟩
  | .fn g fi ca, v, h => by
    simp only [renA, Den] at h ⊢
    obtain ⟨x, y, e, h1, h2⟩ := h
    exact ⟨x, y, e, denL_ren fi h1, denL_ren ca h2⟩
  | .iface t x, v, h => by
    simp only [renA, Den] at h ⊢
    obtain ⟨y, e, h1⟩ := h
    exact ⟨y, e, den_ren x h1⟩
  | .agg l, v, h => by
    simp only [renA, Den] at h ⊢
    obtain ⟨y, e, h1⟩ := h
    exact ⟨y, e, denL_ren l h1⟩
  | .tup l, v, h => by
    simp only [renA, Den] at h ⊢
    obtain ⟨y, e, h1⟩ := h
    exact ⟨y, e, denL_ren l h1⟩
  | .bool b, v, h => by simpa only [renA, Den] using h
  | .int k n, v, h => by simpa only [renA, Den] using h
  | .str s, v, h => by simpa only [renA, Den] using h
  | .nilp, v, h => by simpa only [renA, Den] using h
  | .nils, v, h => by simpa only [renA, Den] using h
  | .nilf, v, h => by simpa only [renA, Den] using h
  | .nilm, v, h => by simpa only [renA, Den] using h
  | .nili, v, h => by simpa only [renA, Den] using h
  | .val u, v, h => by simpa only [renA, Den] using h
theorem denL_ren {H : RO} {B : Names} {f : Nat → Nat} : ∀ (l : List AV) {vs : List Value}, DenL H B (renL f l) vs → DenL H (fun n => B (f n)) l vs
  | [], vs, h => by simpa only [renL, DenL] using h
  | x :: r, vs, h => by
    simp only [renL, DenL] at h ⊢
    obtain ⟨v, s, e, h1, h2⟩ := h
    exact ⟨v, s, e, den_ren x h1, denL_ren r h2⟩
theorem denAt_ren {H : RO} {B : Names} {f : Nat → Nat} {A : Option Addr} : ∀ (l : List AV) {i : Nat}, DenAt H B A i (renL f l) → DenAt H (fun n => B (f n)) A i l
  | [], i, h => by simp only [DenAt]
  | x :: r, i, h => by
    simp only [renL, DenAt] at h ⊢
    obtain ⟨⟨a, v, e, h0, h1⟩, h2⟩ := h
    exact ⟨⟨a, v, e, h0, den_ren x h1⟩, denAt_ren r h2⟩
end
mutual
/-- no read-only memory in it -/
def noRo : AV → Bool
  | .ro _ _ => false
  | .rop _ => false
  | .fn _ fi ca => noRoL fi && noRoL ca
  | .iface _ v => noRo v
  | .agg l => noRoL l
  | .tup l => noRoL l
  | _ => true
def noRoL : List AV → Bool
  | [] => true
  | x :: r => noRo x && noRoL r
end
mutual
theorem den_back {H H' : RO} {B B' : Names} {f : Nat → Nat} (hb : ∀ n b, B' n = some b → B (f n) = some b) : ∀ (a : AV) {v : Value}, noRo a = true → Den H' B' a v → Den H B (renA f a) v
  | .ptr n o, v, _, h => by
    simp only [renA, Den] at h ⊢
    obtain ⟨b, h1, e⟩ := h
    exact ⟨b, hb _ _ h1, e⟩
  | .sl n o l c, v, _, h => by
    simp only [renA, Den] at h ⊢
    obtain ⟨b, a, h1, e⟩ := h
    exact ⟨b, a, hb _ _ h1, e⟩
  | .map n, v, _, h => by
    simp only [renA, Den] at h ⊢
    obtain ⟨b, h1, e⟩ := h
    exact ⟨b, hb _ _ h1, e⟩
  | .ro l xs, v, hn, h => by simp [noRo] at hn
  | .rop xs, v, hn, h => by simp [noRo] at hn
  | .fn g fi ca, v, hn, h => by
    simp only [renA, Den, noRo, Bool.and_eq_true] at h hn ⊢
    obtain ⟨x, y, e, h1, h2⟩ := h
    exact ⟨x, y, e, denL_back hb fi hn.1 h1, denL_back hb ca hn.2 h2⟩
  | .iface t x, v, hn, h => by
    simp only [renA, Den, noRo] at h hn ⊢
    obtain ⟨y, e, h1⟩ := h
    exact ⟨y, e, den_back hb x hn h1⟩
  | .agg l, v, hn, h => by
    simp only [renA, Den, noRo] at h hn ⊢
    obtain ⟨y, e, h1⟩ := h
    exact ⟨y, e, denL_back hb l hn h1⟩
  | .tup l, v, hn, h => by
    simp only [renA, Den, noRo] at h hn ⊢
    obtain ⟨y, e, h1⟩ := h
    exact ⟨y, e, denL_back hb l hn h1⟩
  | .bool b, v, _, h => by simpa only [renA, Den] using h
  | .int k n, v, _, h => by simpa only [renA, Den] using h
  | .str s, v, _, h => by simpa only [renA, Den] using h
  | .nilp, v, _, h => by simpa only [renA, Den] using h
  | .nils, v, _, h => by simpa only [renA, Den] using h
  | .nilf, v, _, h => by simpa only [renA, Den] using h
  | .nilm, v, _, h => by simpa only [renA, Den] using h
  | .nili, v, _, h => by simpa only [renA, Den] using h
  | .val u, v, _, h => by simpa only [renA, Den] using h
theorem denL_back {H H' : RO} {B B' : Names} {f : Nat → Nat} (hb : ∀ n b, B' n = some b → B (f n) = some b) : ∀ (l : List AV) {vs : List Value}, noRoL l = true → DenL H' B' l vs → DenL H B (renL f l) vs
  | [], vs, _, h => by simpa only [renL, DenL] using h
  | x :: r, vs, hn, h => by
    simp only [renL, DenL, noRoL, Bool.and_eq_true] at h hn ⊢
    obtain ⟨v, s, e, h1, h2⟩ := h
    exact ⟨v, s, e, den_back hb x hn.1 h1, denL_back hb r hn.2 h2⟩
end
/-- plain data -/
def flat : AV → Bool
  | .bool _ => true
  | .int _ _ => true
  | .str _ => true
  | .nilp => true
  | .nils => true
  | .nilf => true
  | .nilm => true
  | .nili => true
  | _ => false
theorem flat_den {H H' : RO} {B B' : Names} {a : AV} (hf : flat a = true) {v : Value} (h : Den H B a v) : Den H' B' a v := by
  cases a <;> first | (simp [flat] at hf; done) | (simpa only [Den] using h)
theorem flat_ren {a : AV} (hf : flat a = true) (f : Nat → Nat) : renA f a = a := by
  cases a <;> first | (simp [flat] at hf; done) | rfl
theorem flatL_ren : ∀ {l : List AV}, l.all flat = true → ∀ f, renL f l = l
  | [], _, _ => rfl
  | x :: r, h, f => by
    simp only [List.all_cons, Bool.and_eq_true] at h
    simp only [renL, flat_ren h.1 f, flatL_ren h.2 f]
theorem flat_noRo {a : AV} (hf : flat a = true) : noRo a = true := by
  cases a <;> first | (simp [flat] at hf; done) | rfl
theorem flatL_noRo : ∀ {l : List AV}, l.all flat = true → noRoL l = true
  | [], _ => rfl
  | x :: r, h => by
    simp only [List.all_cons, Bool.and_eq_true] at h
    simp only [noRoL, flat_noRo h.1, flatL_noRo h.2, Bool.and_self]
theorem renL_append (f : Nat → Nat) : ∀ (l l' : List AV), renL f (l ++ l') = renL f l ++ renL f l'
  | [], l' => rfl
  | x :: r, l' => by simp only [List.cons_append, renL, renL_append f r l']
theorem noRoL_append : ∀ (l l' : List AV), noRoL (l ++ l') = (noRoL l && noRoL l')
  | [], l' => by simp [noRoL]
  | x :: r, l' => by simp only [List.cons_append, noRoL, noRoL_append r l', Bool.and_assoc]
theorem renL_vals (f : Nat → Nat) : ∀ (l : List Value), renL f (l.map AV.val) = l.map AV.val
  | [] => rfl
  | x :: r => by simp only [List.map_cons, renL, renA, renL_vals f r]
theorem noRoL_vals : ∀ (l : List Value), noRoL (l.map AV.val) = true
  | [] => rfl
  | x :: r => by simp only [List.map_cons, noRoL, noRo, noRoL_vals r, Bool.and_self]

def renO (f : Nat → Nat) : AObj → AObj
  | .cells l ty => .cells (renL f l) ty
  | .opq o => .opq o
  | .fz l ty => .fz (renL f l) ty
  | .mp k keys vals => .mp k keys (renL f vals)
  | .mx kd keys vals born => .mx kd keys (renL f vals) born
def noRoO : AObj → Bool
  | .cells l _ => noRoL l
  | .opq _ => true
  | .fz l _ => noRoL l
  | .mp _ _ vals => noRoL vals
  | .mx _ _ vals _ => noRoL vals
def renM (f : Nat → Nat) : Mem → Mem
  | [] => []
  | (n, o) :: r => (f n, renO f o) :: renM f r
def noRoM : Mem → Bool
  | [] => true
  | (_, o) :: r => noRoO o && noRoM r
theorem holds_ren {H : RO} {B : Names} {f : Nat → Nat} {w : World} {b : Nat} : ∀ {o : AObj}, HoldsO H B w b (renO f o) → HoldsO H (fun n => B (f n)) w b o
  | .cells l ty, ⟨cs, h1, h2⟩ => ⟨cs, h1, denL_ren l h2⟩
  | .opq o, h => h
  | .fz l ty, ⟨cs, fr, h1, h2⟩ => ⟨cs, fr, h1, denL_ren l h2⟩
  | .mp k keys vals, ⟨ms, c, h1, h2, h3⟩ => ⟨ms, c, h1, h2, denL_ren vals h3⟩
  | .mx kd keys vals born, ⟨ms, c, h1, h2, h3, h4, h5, h6, h7⟩ => ⟨ms, c, h1, h2, h3, h4, h5, h6, denL_ren vals h7⟩
theorem holds_back {H H' : RO} {B B' : Names} {f : Nat → Nat} (hb : ∀ n b, B' n = some b → B (f n) = some b) {w : World} {b : Nat} : ∀ {o : AObj}, noRoO o = true → HoldsO H' B' w b o → HoldsO H B w b (renO f o)
  | .cells l ty, hn, ⟨cs, h1, h2⟩ => ⟨cs, h1, denL_back hb l hn h2⟩
  | .opq o, _, h => h
  | .fz l ty, hn, ⟨cs, fr, h1, h2⟩ => ⟨cs, fr, h1, denL_back hb l hn h2⟩
  | .mp k keys vals, hn, ⟨ms, c, h1, h2, h3⟩ => ⟨ms, c, h1, h2, denL_back hb vals hn h3⟩
  | .mx kd keys vals born, hn, ⟨ms, c, h1, h2, h3, h4, h5, h6, h7⟩ => ⟨ms, c, h1, h2, h3, h4, h5, h6, denL_back hb vals hn h7⟩
theorem noRoM_look {m : Mem} (h : noRoM m = true) {n : Nat} {o : AObj} (hl : look m n = some o) : noRoO o = true := by
  induction m with
  | nil => cases hl
  | cons x r ih =>
    obtain ⟨k, y⟩ := x
    simp only [noRoM, Bool.and_eq_true] at h
    simp only [look] at hl
    split at hl
    · cases hl; exact h.1
    · exact ih h.2 hl

/-- names anew: those told in the list, else as they are; what is new lies behind -/
def rf (l : List (Nat × Nat)) (nx nx' : Nat) (n : Nat) : Nat := match look l n with | some k => k | none => if n < nx' then n else n - nx' + nx
def slotsLe (f : Nat → Nat) (t : Slots) : Slots → Prop
  | [] => True
  | (s, v) :: r => look t s = some (renA f v) ∧ slotsLe f t r
def memLe (f : Nat → Nat) (wr wr' : Nat → Bool) (m : Mem) : Mem → Prop
  | [] => True
  | (n, o) :: r => look m (f n) = some (renO f o) ∧ wr (f n) = wr' n ∧ memLe f wr wr' m r
theorem slotsLe_look {f : Nat → Nat} {t : Slots} : ∀ {t' : Slots}, slotsLe f t t' → ∀ s v, look t' s = some v → look t s = some (renA f v)
  | [], _, s, v, e => by cases e
  | (k, x) :: r, h, s, v, e => by
    simp only [slotsLe] at h
    simp only [look] at e
    split at e
    · rename_i hk; cases e; subst hk; exact h.1
    · exact slotsLe_look h.2 s v e
theorem memLe_look {f : Nat → Nat} {wr wr' : Nat → Bool} {m : Mem} : ∀ {m' : Mem}, memLe f wr wr' m m' → ∀ n o, look m' n = some o → look m (f n) = some (renO f o) ∧ wr (f n) = wr' n
  | [], _, s, v, e => by cases e
  | (k, x) :: r, h, s, v, e => by
    simp only [memLe] at h
    simp only [look] at e
    split at e
    · rename_i hk; cases e; subst hk; exact ⟨h.1, h.2.1⟩
    · exact memLe_look h.2.2 s v e
def injOn (f : Nat → Nat) (m : Mem) : Prop := (m.map fun p => f p.1).Nodup
theorem injOn_look {f : Nat → Nat} : ∀ {m : Mem}, injOn f m → ∀ n n' o o', look m n = some o → look m n' = some o' → f n = f n' → n = n'
  | [], _, n, n', o, o', h1, _, _ => by cases h1
  | (k, x) :: r, h, n, n', o, o', h1, h2, e => by
    simp only [injOn, List.map_cons, List.nodup_cons] at h
    have hmem : ∀ {r : Mem} {n : Nat} {o : AObj}, look r n = some o → f n ∈ r.map fun p => f p.1 := by
      intro r n o hl
      induction r with
      | nil => cases hl
      | cons y s ih =>
        obtain ⟨k', z⟩ := y
        simp only [look] at hl
        split at hl
        · rename_i hk; subst hk; simp
        · simp only [List.map_cons, List.mem_cons]; exact .inr (ih hl)
    simp only [look] at h1 h2
    split at h1 <;> split at h2
    · rename_i a b; rw [← a, ← b]
    · rename_i a b; subst a; exact absurd (e ▸ hmem h2) h.1
    · rename_i a b; subst b; exact absurd (e ▸ hmem h1) h.1
    · exact injOn_look (show injOn f r from h.2) n n' o o' h1 h2 e
section
variable {P : Program} {w0 w : World} {FP : Nat → Prop} {wr rd : Nat → Bool} {m : Mem} {nx : Nat} {H : RO} {B : Names} {N : Nat} {t : Slots} {a : Act}
/-- From one state to another that says less, in other names. -/
structure Le (nf : Nat) (l : List (Nat × Nat)) (wr : Nat → Bool) (t : Slots) (m : Mem) (nx : Nat) (t' : Slots) (m' : Mem) (nx' : Nat) : Prop where
  keys : l.all (fun p => decide (nf ≤ p.1) && decide (p.1 < nx')) = true
  low : nf ≤ nx'
  slots : slotsLe (rf l nx nx') t t'
  mem : memLe (rf l nx nx') wr wr m m'
  inj : injOn (rf l nx nx') m'
  keep : ∀ n, wr n = false → ∃ o, look m' n = some o
  wrn : ∀ n, nx' ≤ n → wr n = true
theorem rf_ge {l : List (Nat × Nat)} {nx nx' : Nat} (h : l.all (fun p => decide (p.1 < nx')) = true) {n : Nat} (hn : nx' ≤ n) : nx ≤ rf l nx nx' n := by
  have hl : look l n = none := by
    induction l with
    | nil => rfl
    | cons x r ih =>
      obtain ⟨k, y⟩ := x
      simp only [List.all_cons, Bool.and_eq_true, decide_eq_true_eq] at h
      simp only [look]
      rw [if_neg (by omega)]
      exact ih h.2
  unfold rf
  rw [hl]
  simp only
  rw [if_neg (by omega)]
  omega
theorem keys_lt {nf nx' : Nat} {l : List (Nat × Nat)} (h : l.all (fun p => decide (nf ≤ p.1) && decide (p.1 < nx')) = true) : l.all (fun p => decide (p.1 < nx')) = true :=
  List.all_eq_true.2 fun p hp => by
    have := List.all_eq_true.1 h p hp
    simp only [Bool.and_eq_true] at this
    exact this.2
def ExtN (nf : Nat) (B B' : Names) : Prop := ∀ n b, n < nf → B n = some b → B' n = some b
theorem rf_low {nf nx nx' : Nat} {l : List (Nat × Nat)} (h : l.all (fun p => decide (nf ≤ p.1) && decide (p.1 < nx')) = true) (hl : nf ≤ nx') {n : Nat} (hn : n < nf) : rf l nx nx' n = n := by
  have : look l n = none := by
    induction l with
    | nil => rfl
    | cons x r ih =>
      obtain ⟨k, y⟩ := x
      simp only [List.all_cons, Bool.and_eq_true, decide_eq_true_eq] at h
      simp only [look]
      rw [if_neg (by omega)]
      exact ih (by simpa using h.2)
  unfold rf
  rw [this]
  simp only
  rw [if_pos (by omega)]
theorem Le.ok {nf : Nat} {l : List (Nat × Nat)} {t' : Slots} {m' : Mem} {nx' : Nat} (h : Le nf l wr t m nx t' m' nx') (hi : Inv w0 FP wr m nx H B w) (hs : SlotsOk N H B t a) :
    Inv w0 FP wr m' nx' H (fun n => B (rf l nx nx' n)) w ∧ SlotsOk N H (fun n => B (rf l nx nx' n)) t' a ∧ ExtN nf B (fun n => B (rf l nx nx' n)) := by
  refine ⟨⟨hi.size, hi.os, hi.tape, hi.out, hi.frame, fun ad v e => ⟨(hi.ro ad v e).1, fun n o hn => (hi.ro ad v e).2 _ _ (memLe_look h.mem n o hn).1⟩, fun n o hn => ?_, fun n n' o o' h1 h2 e => ?_, fun n hn => hi.fresh _ (rf_ge (keys_lt h.keys) hn), h.wrn, h.keep⟩, ⟨hs.1, fun s av e => ?_⟩, fun n b hn e => by show B (rf l nx nx' n) = some b; rw [rf_low h.keys h.low hn]; exact e⟩
  · obtain ⟨h1, h2⟩ := memLe_look h.mem n o hn
    obtain ⟨b, hb, ho, hl, r1, r2⟩ := hi.obj _ _ h1
    exact ⟨b, hb, holds_ren ho, hl, fun e => r1 (h2.trans e), fun e => r2 (h2.trans e)⟩
  · exact injOn_look h.inj n n' o o' h1 h2 (hi.inj _ _ _ _ (memLe_look h.mem n o h1).1 (memLe_look h.mem n' o' h2).1 e)
  · exact den_ren av (hs.2 s _ (slotsLe_look h.slots s av e))
end
end Go.Eng
end
section
/- The engine, part 20: a region that draws its order, where something is read that is written later in it. Own work, after the kit's law on orders that hold a condition. -/
set_option linter.unusedVariables false
set_option linter.unusedSimpArgs false
namespace Go.Eng
open Go

section
variable {P : Program} {ops : Array Oper} {Q : Exit → Act → World → Prop} {md : Region.Mode} {S : Bool → World → Prop} {Wr : List Nat}
/-- none of the writers has come up -/
def flg (Wr : List Nat) (listed : Array Bool) : Bool := Wr.all fun j => !(listed.getD j true)
def wpAnyF (P : Program) (md : Region.Mode) (ops : Array Oper) (Q : Exit → Act → World → Prop) (Wr : List Nat) (S : Bool → World → Prop) : Nat → Array Bool → Act → World → Prop
  | 0, listed, a, w => Region.ready md ops listed = [] ∧ Q .normal a w
  | fuel + 1, listed, a, w =>
    (Region.ready md ops listed = [] → Q .normal a w) ∧
    ∀ i ∈ Region.ready md ops listed, wpOp P ops Q i (fun a' w' => S (flg Wr (listed.setIfInBounds i true)) w' ∧ wpAnyF P md ops Q Wr S fuel (listed.setIfInBounds i true) a' w') a w
theorem wpAny_of_flagged : ∀ (fuel : Nat) (listed : Array Bool) (a : Act) (w : World), wpAnyF P md ops Q Wr S fuel listed a w → wpAny P md ops Q fuel listed a w
  | 0, _, _, _, h => h
  | fuel + 1, _, _, _, h => ⟨h.1, fun i hi => wpOp_mono (fun a' w' h' => wpAny_of_flagged fuel _ a' w' h'.2) (h.2 i hi)⟩
/-- operations that wait for number i, each for it or for another of them -/
def waits (md : Region.Mode) (ops : Array Oper) (C : List Nat) (i : Nat) : Prop := ∀ k ∈ C, ∃ o, ops[k]? = some o ∧ ∃ e ∈ o.after, Region.binds md e = true ∧ (e.on = i ∨ e.on ∈ C)
theorem flg_set {listed : Array Bool} {j : Nat} (hj : j ∉ Wr) : flg Wr (listed.setIfInBounds j true) = flg Wr listed := by
  unfold flg
  rw [Bool.eq_iff_iff, List.all_eq_true, List.all_eq_true]
  refine forall_congr' fun k => forall_congr' fun hk => ?_
  have hne : j ≠ k := fun e => hj (by rw [e]; exact hk)
  rw [getD_set_ne true hne]
theorem toB {b f : Bool} (hS10 : ∀ w, S true w → S false w) {w : World} (h : S f w) (hbf : b = true → f = true) : S b w := by
  cases b with
  | true => rw [hbf rfl] at h; exact h
  | false => cases f with
    | true => exact hS10 _ h
    | false => exact h
theorem wpAnyF_first {b : Bool} {i : Nat} {oi : Oper} {v : Value} (hi : ops[i]? = some oi) (hsel : ∀ (j : Nat) (o : Oper) cs b, ops[j]? = some o → o.op ≠ .select cs b)
    (hQ : ∀ c a w, Q (.panic c) (a.put oi.dst v) w → Q (.panic c) a w) (hS10 : ∀ w, S true w → S false w) {C : List Nat} (hC : waits md ops C i) (hWC : b = true → ∀ j ∈ Wr, j ∈ C) (hiW : i ∉ Wr) :
    ∀ (fuel : Nat) (listed : Array Bool) (a : Act) (w : World),
      (∀ j oj, ops[j]? = some oj → j ≠ i → listed.getD j true = false → (∀ e ∈ oj.after, Region.binds md e = true → e.on ≠ i) → oi.apart ops oj = true) →
      (∀ k ∈ C, listed.getD k true = false) → (b = true → flg Wr listed = true) → i ∈ Region.ready md ops listed → YieldsIf P ops (S b) oi v a → S (flg Wr listed) w →
      wpAnyF P md ops Q Wr S fuel (listed.setIfInBounds i true) (a.put oi.dst v) w → wpAnyF P md ops Q Wr S (fuel + 1) listed a w := by
  intro fuel
  induction fuel with
  | zero =>
    intro listed a w _ hCl hfl hr hy hS H
    refine ⟨fun h => (by rw [h] at hr; cases hr), fun j hj => ?_⟩
    by_cases hji : j = i
    · subst hji; exact hy.wpOp hi (toB hS10 hS hfl) ⟨by rw [flg_set hiW]; exact hS, H⟩
    · have := ready_mono hj hji
      rw [H.1] at this
      cases this
  | succ fuel ih =>
    intro listed a w hfree hCl hfl hr hy hS H
    refine ⟨fun h => (by rw [h] at hr; cases hr), fun j hj => ?_⟩
    by_cases hji : j = i
    · subst hji; exact hy.wpOp hi (toB hS10 hS hfl) ⟨by rw [flg_set hiW]; exact hS, H⟩
    · have h1 := H.2 j (ready_mono hj hji)
      obtain ⟨hjun, oj, hoj, hall⟩ := mem_ready.1 hj
      have hnot : ∀ e ∈ oj.after, Region.binds md e = true → e.on ≠ i := fun e he hb heq => by
        have h1 := hall e he hb
        have h0 := (mem_ready.1 hr).1
        rw [heq] at h1
        rcases Nat.lt_or_ge i listed.size with h' | h'
        · simp [h'] at h0 h1; rw [h0] at h1; cases h1
        · simp [Array.getElem?_eq_none h'] at h1
      have hjC : j ∉ C := fun hjC => by
        obtain ⟨o', ho', e, he, hbi, hon⟩ := hC j hjC
        rw [hoj] at ho'; cases ho'
        have hl := hall e he hbi
        rcases hon with hon | hon
        · exact hnot e he hbi hon
        · have h0 := hCl _ hon
          rcases Nat.lt_or_ge e.on listed.size with h' | h'
          · simp [h'] at h0 hl; rw [h0] at hl; cases hl
          · simp [Array.getElem?_eq_none h'] at hl
      have hjw : b = true → j ∉ Wr := fun hb hjW => hjC (hWC hb j hjW)
      have hCl' : ∀ k ∈ C, (listed.setIfInBounds j true).getD k true = false := fun k hk => by
        have hne : j ≠ k := fun e => hjC (by rw [e]; exact hk)
        rw [getD_set_ne true hne]; exact hCl k hk
      have h2 := wpOp_putIf hoj (hfree j oj hoj hji hjun hnot) (fun cs b => hsel i oi cs b hi) (fun cs b => hsel j oj cs b hoj) hQ hy h1
      have hfree' : ∀ k ok, ops[k]? = some ok → k ≠ i → (listed.setIfInBounds j true).getD k true = false →
          (∀ e ∈ ok.after, Region.binds md e = true → e.on ≠ i) → oi.apart ops ok = true := fun k ok hk hki hun hno => by
        refine hfree k ok hk hki ?_ hno
        by_cases hjk : j = k
        · subst hjk; exact hjun
        · rw [getD_set_ne true hjk] at hun; exact hun
      refine wpOp_mono (fun a' w' h3 => ?_) h2
      have hcomm : (listed.setIfInBounds i true).setIfInBounds j true = (listed.setIfInBounds j true).setIfInBounds i true := (Array.setIfInBounds_comm _ _ (Ne.symm hji))
      have hSj : S (flg Wr (listed.setIfInBounds j true)) w' := by
        have := h3.2.1
        rwa [hcomm, flg_set hiW] at this
      refine ⟨hSj, ih (listed.setIfInBounds j true) a' w' hfree' hCl' (fun hb => by rw [flg_set (hjw hb)]; exact hfl hb) (ready_mono hr (Ne.symm hji)) h3.1 hSj ?_⟩
      rw [← hcomm]
      exact h3.2.2
theorem wpAnyF_take {b : Bool} {i : Nat} {oi : Oper} {v : Value} {fuel : Nat} {listed : Array Bool} {a : Act} {w : World} (hi : ops[i]? = some oi) (hS10 : ∀ w, S true w → S false w) {C : List Nat} (hC : waits md ops C i) (hWC : b = true → ∀ j ∈ Wr, j ∈ C) (hCl : ∀ k ∈ C, listed.getD k true = false) (hiW : i ∉ Wr)
    (hs : Region.noSelect ops = true) (hf : Region.free md ops listed i = true) (hr : (Region.ready md ops listed).contains i = true) (hfl : b = true → flg Wr listed = true)
    (hQ : ∀ c a w, Q (.panic c) (a.put oi.dst v) w → Q (.panic c) a w) (hy : YieldsIf P ops (S b) oi v a) (hS : S (flg Wr listed) w)
    (h : wpAnyF P md ops Q Wr S fuel (listed.setIfInBounds i true) (a.put oi.dst v) w) : wpAnyF P md ops Q Wr S (fuel + 1) listed a w :=
  wpAnyF_first hi (Region.noSelect_spec hs) hQ hS10 hC hWC hiW fuel listed a w (Region.free_spec hi hf) hCl hfl (by simpa using hr) hy hS h
theorem wpAnyF_all {rs : List Nat} {fuel : Nat} {listed : Array Bool} {a : Act} {w : World} (hr : Region.ready md ops listed = rs) (hne : rs ≠ [])
    (h : ∀ i ∈ rs, wpOp P ops Q i (fun a' w' => S (flg Wr (listed.setIfInBounds i true)) w' ∧ wpAnyF P md ops Q Wr S fuel (listed.setIfInBounds i true) a' w') a w) : wpAnyF P md ops Q Wr S (fuel + 1) listed a w :=
  ⟨fun h0 => absurd (hr ▸ h0) hne, hr ▸ h⟩
theorem wpAnyF_done {listed : Array Bool} {a : Act} {w : World} (hr : Region.ready md ops listed = []) (h : Q .normal a w) : ∀ fuel, wpAnyF P md ops Q Wr S fuel listed a w
  | 0 => ⟨hr, h⟩
  | _ + 1 => ⟨fun _ => h, by rw [hr]; simp⟩
theorem wp_region_flagged {id : Nat} {a : Act} {w : World} (hm : P.follows .mixedOrders = true)
    (h : wpAnyF P .any ops Q Wr S ops.size (Array.replicate ops.size false) a { w with drawn := w.drawn + 1 }) : (Code.region id ops true).wp P Q a w :=
  wp_region_any hm (wpAny_of_flagged _ _ _ _ h)
end
end Go.Eng
end
