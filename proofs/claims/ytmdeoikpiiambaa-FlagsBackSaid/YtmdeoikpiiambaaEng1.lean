/- The engine, part 1: abstract values and memory, what they stand for, and the invariant that a walk keeps. Own work. -/
import Derived.Calls
import Derived.Tactics
import Derived.Tactics2
import Derived.OrdersHeld
import Derived.Below
import Derived.Laws.Rows
import Derived.Laws.IdiomCopy
import Derived.Laws.NewBlocks
import Derived.Laws.ResultCell
import Derived.Laws.Slices
import Derived.Deep.MidRow
import Derived.KernelRfl
import Derived.RowKit3
set_option linter.unusedVariables false
set_option linter.unusedSimpArgs false
namespace Go.Eng
open Go

/-- An abstract value: numbers are plain Lean terms, memory has names. -/
inductive AV where
  | bool (b : Bool)
  | int (k : IntKind) (n : Int)
  | str (s : ByteArray)
  | ptr (n off : Nat)
  | nilp
  | sl (n off len cap : Nat)
  | nils
  | ro (len : Nat) (xs : List AV)
  | rop (xs : List AV)
  | fn (f : Fn) (fi ca : List AV)
  | nilf
  | map (n : Nat)
  | nilm
  | iface (t : TypeId) (v : AV)
  | nili
  | agg (l : List AV)
  | tup (l : List AV)
  | val (v : Value)
  deriving Inhabited

abbrev RO := Addr → Option Value
abbrev Names := Nat → Option Nat

mutual
def Den (H : RO) (B : Names) : AV → Value → Prop
  | .bool b, v => v = .bool b
  | .int k n, v => v = .int k n
  | .str s, v => v = .string s
  | .ptr n off, v => ∃ b, B n = some b ∧ v = .pointer (some ⟨b, off, none⟩)
  | .nilp, v => v = .pointer none
  | .sl n off len cap, v => ∃ b a, B n = some b ∧ v = .slice (some a) len cap ∧ len ≤ cap ∧ (cap ≠ 0 → a = ⟨b, off, none⟩)
  | .nils, v => v = .slice none 0 0
  | .ro len xs, v => ∃ A cap, v = .slice A len cap ∧ len ≤ cap ∧ DenAt H B A 0 xs
  | .rop xs, v => ∃ a, v = .pointer (some a) ∧ DenAt H B (some a) 0 xs
  | .fn f fi ca, v => ∃ x y : List Value, v = .func f x.toArray y.toArray ∧ DenL H B fi x ∧ DenL H B ca y
  | .nilf, v => v = .nilFunc
  | .map n, v => ∃ b, B n = some b ∧ v = .map (some b)
  | .nilm, v => v = .map none
  | .iface t x, v => ∃ y, v = .iface t y ∧ Den H B x y
  | .nili, v => v = .nilIface
  | .agg l, v => ∃ cs : List Value, v = .agg cs.toArray ∧ DenL H B l cs
  | .tup l, v => ∃ cs : List Value, v = .tuple cs.toArray ∧ DenL H B l cs
  | .val u, v => v = u
def DenL (H : RO) (B : Names) : List AV → List Value → Prop
  | [], vs => vs = []
  | x :: r, vs => ∃ v s, vs = v :: s ∧ Den H B x v ∧ DenL H B r s
def DenAt (H : RO) (B : Names) (A : Option Addr) (i : Nat) : List AV → Prop
  | [] => True
  | x :: r => (∃ a v, A = some a ∧ H (a.add i) = some v ∧ Den H B x v) ∧ DenAt H B A (i + 1) r
end

structure Ext (H : RO) (B : Names) (H' : RO) (B' : Names) : Prop where
  ro : ∀ a v, H a = some v → H' a = some v
  nm : ∀ n b, B n = some b → B' n = some b
theorem Ext.refl (H : RO) (B : Names) : Ext H B H B := ⟨fun _ _ h => h, fun _ _ h => h⟩
theorem Ext.trans {H H' H'' : RO} {B B' B'' : Names} (h : Ext H B H' B') (k : Ext H' B' H'' B'') : Ext H B H'' B'' :=
  ⟨fun _ _ e => k.ro _ _ (h.ro _ _ e), fun _ _ e => k.nm _ _ (h.nm _ _ e)⟩

mutual
theorem Den.mono {H H' : RO} {B B' : Names} (x : Ext H B H' B') : ∀ (a : AV) {v : Value}, Den H B a v → Den H' B' a v
  | .bool _, _, h => by simpa [Den] using h
  | .int _ _, _, h => by simpa [Den] using h
  | .str _, _, h => by simpa [Den] using h
  | .ptr _ _, _, h => by
    simp only [Den] at h ⊢
    obtain ⟨b, hb, e⟩ := h
    exact ⟨b, x.nm _ _ hb, e⟩
  | .nilp, _, h => by simpa [Den] using h
  | .sl _ _ _ _, _, h => by
    simp only [Den] at h ⊢
    obtain ⟨b, a, hb, e⟩ := h
    exact ⟨b, a, x.nm _ _ hb, e⟩
  | .nils, _, h => by simpa [Den] using h
  | .ro _ xs, _, h => by
    simp only [Den] at h ⊢
    obtain ⟨A, c, e, hl, hd⟩ := h
    exact ⟨A, c, e, hl, DenAt.mono x xs hd⟩
  | .rop xs, _, h => by
    simp only [Den] at h ⊢
    obtain ⟨a, e, hd⟩ := h
    exact ⟨a, e, DenAt.mono x xs hd⟩
  | .fn _ fi ca, _, h => by
    simp only [Den] at h ⊢
    obtain ⟨p, q, e, h1, h2⟩ := h
    exact ⟨p, q, e, DenL.mono x fi h1, DenL.mono x ca h2⟩
  | .nilf, _, h => by simpa [Den] using h
  | .map _, _, h => by
    simp only [Den] at h ⊢
    obtain ⟨b, hb, e⟩ := h
    exact ⟨b, x.nm _ _ hb, e⟩
  | .nilm, _, h => by simpa [Den] using h
  | .iface _ y, _, h => by
    simp only [Den] at h ⊢
    obtain ⟨p, e, h1⟩ := h
    exact ⟨p, e, Den.mono x y h1⟩
  | .nili, _, h => by simpa [Den] using h
  | .agg l, _, h => by
    simp only [Den] at h ⊢
    obtain ⟨p, e, h1⟩ := h
    exact ⟨p, e, DenL.mono x l h1⟩
  | .tup l, _, h => by
    simp only [Den] at h ⊢
    obtain ⟨p, e, h1⟩ := h
    exact ⟨p, e, DenL.mono x l h1⟩
  | .val _, _, h => by simpa [Den] using h
theorem DenL.mono {H H' : RO} {B B' : Names} (x : Ext H B H' B') : ∀ (l : List AV) {vs : List Value}, DenL H B l vs → DenL H' B' l vs
  | [], _, h => by simpa [DenL] using h
  | y :: r, _, h => by
    simp only [DenL] at h ⊢
    obtain ⟨v, s, e, h1, h2⟩ := h
    exact ⟨v, s, e, Den.mono x y h1, DenL.mono x r h2⟩
theorem DenAt.mono {H H' : RO} {B B' : Names} (x : Ext H B H' B') {A : Option Addr} : ∀ (l : List AV) {i : Nat}, DenAt H B A i l → DenAt H' B' A i l
  | [], _, h => by simp [DenAt]
  | y :: r, _, h => by
    simp only [DenAt] at h ⊢
    obtain ⟨⟨a, v, e, h0, h1⟩, h2⟩ := h
    exact ⟨⟨a, v, e, x.ro _ _ h0, Den.mono x y h1⟩, DenAt.mono x r h2⟩
end

/-! Lists of cells -/
section
variable {H : RO} {B : Names}
theorem DenL.length : ∀ {l : List AV} {vs : List Value}, DenL H B l vs → vs.length = l.length
  | [], _, h => by simp only [DenL] at h; simp [h]
  | _ :: r, _, h => by
    simp only [DenL] at h
    obtain ⟨v, s, rfl, _, h2⟩ := h
    simp [DenL.length h2]
theorem DenL.get : ∀ {l : List AV} {vs : List Value}, DenL H B l vs → ∀ (i : Nat) (a : AV), l[i]? = some a → ∃ v, vs[i]? = some v ∧ Den H B a v
  | [], _, _, i, a, e => by simp at e
  | x :: r, _, h, i, a, e => by
    simp only [DenL] at h
    obtain ⟨v, s, rfl, h1, h2⟩ := h
    cases i with
    | zero => simp at e; subst e; exact ⟨v, rfl, h1⟩
    | succ i => simp at e; obtain ⟨u, hu, hd⟩ := DenL.get h2 i a e; exact ⟨u, by simpa using hu, hd⟩
theorem DenL.of_get : ∀ {l : List AV} {vs : List Value}, vs.length = l.length → (∀ (i : Nat) (a : AV) (v : Value), l[i]? = some a → vs[i]? = some v → Den H B a v) → DenL H B l vs
  | [], vs, hl, _ => by simp only [DenL]; exact List.eq_nil_of_length_eq_zero hl
  | x :: r, [], hl, _ => by simp at hl
  | x :: r, v :: s, hl, h => by
    simp only [DenL]
    exact ⟨v, s, rfl, h 0 x v rfl rfl, DenL.of_get (by simpa using hl) fun i a u h1 h2 => h (i + 1) a u (by simpa using h1) (by simpa using h2)⟩
theorem DenL.set {l : List AV} {vs : List Value} (h : DenL H B l vs) (i : Nat) {a : AV} {v : Value} (hd : Den H B a v) : DenL H B (l.set i a) (vs.set i v) := by
  refine DenL.of_get (by simp [h.length]) fun j b u h1 h2 => ?_
  rw [List.getElem?_set] at h1 h2
  by_cases e : i = j
  · subst e
    by_cases hi : i < l.length
    · rw [if_pos rfl, if_pos hi] at h1
      rw [if_pos rfl, if_pos (by rw [h.length]; exact hi)] at h2
      cases h1; cases h2; exact hd
    · rw [if_pos rfl, if_neg hi] at h1; cases h1
  · rw [if_neg e] at h1 h2
    obtain ⟨u', hu', hd'⟩ := h.get j b h1
    rw [h2] at hu'; cases hu'; exact hd'
theorem DenL.append {l l' : List AV} {vs vs' : List Value} (h : DenL H B l vs) (h' : DenL H B l' vs') : DenL H B (l ++ l') (vs ++ vs') := by
  refine DenL.of_get (by simp [h.length, h'.length]) fun j b u h1 h2 => ?_
  by_cases e : j < l.length
  · rw [List.getElem?_append_left e] at h1
    rw [List.getElem?_append_left (by rw [h.length]; exact e)] at h2
    obtain ⟨u', hu', hd'⟩ := h.get j b h1
    rw [h2] at hu'; cases hu'; exact hd'
  · rw [List.getElem?_append_right (by omega)] at h1
    rw [List.getElem?_append_right (by rw [h.length]; omega), h.length] at h2
    obtain ⟨u', hu', hd'⟩ := h'.get _ b h1
    rw [h2] at hu'; cases hu'; exact hd'
theorem DenL.drop {l : List AV} {vs : List Value} (h : DenL H B l vs) (n : Nat) : DenL H B (l.drop n) (vs.drop n) := by
  refine DenL.of_get (by simp [h.length]) fun j b u h1 h2 => ?_
  rw [List.getElem?_drop] at h1 h2
  obtain ⟨u', hu', hd'⟩ := h.get _ b h1
  rw [h2] at hu'; cases hu'; exact hd'
theorem DenL.take {l : List AV} {vs : List Value} (h : DenL H B l vs) (n : Nat) : DenL H B (l.take n) (vs.take n) := by
  refine DenL.of_get (by simp [h.length]) fun j b u h1 h2 => ?_
  rw [List.getElem?_take] at h1 h2
  by_cases e : j < n
  · rw [if_pos e] at h1 h2
    obtain ⟨u', hu', hd'⟩ := h.get _ b h1
    rw [h2] at hu'; cases hu'; exact hd'
  · rw [if_neg e] at h1; cases h1
theorem DenL.replicate {a : AV} {v : Value} (hd : Den H B a v) (n : Nat) : DenL H B (List.replicate n a) (List.replicate n v) := by
  refine DenL.of_get (by simp) fun j b u h1 h2 => ?_
  rw [List.getElem?_replicate] at h1 h2
  split at h1
  · cases h1; rw [if_pos (by assumption)] at h2; cases h2; exact hd
  · cases h1
theorem DenAt.get {A : Option Addr} : ∀ {l : List AV} {i : Nat}, DenAt H B A i l → ∀ (j : Nat) (x : AV), l[j]? = some x → ∃ a v, A = some a ∧ H (a.add (i + j)) = some v ∧ Den H B x v
  | [], _, _, j, x, e => by simp at e
  | y :: r, i, h, j, x, e => by
    simp only [DenAt] at h
    obtain ⟨h0, h2⟩ := h
    cases j with
    | zero => simp at e; subst e; exact h0
    | succ j => simp at e; have := DenAt.get h2 j x e; rwa [show i + 1 + j = i + (j + 1) by omega] at this
theorem DenAt.of_get {A : Option Addr} : ∀ {l : List AV} {i : Nat}, (∀ (j : Nat) (x : AV), l[j]? = some x → ∃ a v, A = some a ∧ H (a.add (i + j)) = some v ∧ Den H B x v) → DenAt H B A i l
  | [], _, _ => by simp [DenAt]
  | y :: r, i, h => by
    simp only [DenAt]
    exact ⟨h 0 y rfl, DenAt.of_get fun j x e => by rw [show i + 1 + j = i + (j + 1) by omega]; exact h (j + 1) x (by simpa using e)⟩
end

theorem add_add' (a : Addr) (i j : Nat) : (a.add i).add j = a.add (i + j) := by
  unfold Addr.add
  by_cases hi : i = 0
  · simp [hi]
  · by_cases hj : j = 0
    · simp [hi, hj]
    · simp [hi, hj, Nat.add_assoc]

/-! Objects, memory, slots -/
/-- a map's key: a number, or two bytes -/
inductive Key where
  | i (k : IntKind) (z : Int)
  | b (x y : BitVec 8)
  deriving DecidableEq
inductive KD where
  | i (k : IntKind)
  | b
  deriving DecidableEq
def Key.kd : Key → KD
  | .i k _ => .i k
  | .b _ _ => .b
def Key.val : Key → Value
  | .i k z => .int k z
  | .b x y => .agg #[.int .u8 (x.toNat : Int), .int .u8 (y.toNat : Int)]
inductive AObj where
  | cells (l : List AV) (ty : TypeId)
  | opq (o : Obj)
  | fz (l : List AV) (ty : TypeId)
  | mp (k : IntKind) (keys : List Int) (vals : List AV)
  | mx (kd : KD) (keys : List Key) (vals : List AV) (born : List Nat)
  deriving Inhabited
abbrev Mem := List (Nat × AObj)
abbrev Slots := List (Nat × AV)
def look {α : Type} : List (Nat × α) → Nat → Option α
  | [], _ => none
  | (k, x) :: r, n => if k = n then some x else look r n
def upd : Mem → Nat → AObj → Mem
  | [], _, _ => []
  | (k, x) :: r, n, o => if k = n then (k, o) :: r else (k, x) :: upd r n o
def del : Mem → Nat → Mem
  | [], _ => []
  | (k, x) :: r, n => if k = n then del r n else (k, x) :: del r n
theorem look_cons {α : Type} (k : Nat) (x : α) (r : List (Nat × α)) (n : Nat) : look ((k, x) :: r) n = if k = n then some x else look r n := rfl
theorem look_nil {α : Type} (n : Nat) : look ([] : List (Nat × α)) n = none := rfl
theorem look_upd_same {m : Mem} {n : Nat} {o : AObj} (p : AObj) : look m n = some o → look (upd m n p) n = some p := by
  induction m with
  | nil => simp [look]
  | cons x r ih =>
    obtain ⟨k, y⟩ := x
    intro h
    simp only [look] at h
    simp only [upd]
    by_cases e : k = n
    · simp [e, look]
    · rw [if_neg e] at h; rw [if_neg e]; simp [look, e, ih h]
theorem look_upd_other {m : Mem} {n n' : Nat} (p : AObj) (hne : n ≠ n') : look (upd m n p) n' = look m n' := by
  induction m with
  | nil => simp [upd, look]
  | cons x r ih =>
    obtain ⟨k, y⟩ := x
    simp only [upd]
    by_cases e : k = n
    · subst e; simp [look, hne]
    · rw [if_neg e]; simp [look, ih]
theorem look_del_same (m : Mem) (n : Nat) : look (del m n) n = none := by
  induction m with
  | nil => rfl
  | cons x r ih =>
    obtain ⟨k, y⟩ := x
    simp only [del]
    by_cases e : k = n
    · rw [if_pos e]; exact ih
    · rw [if_neg e]; simp [look, e, ih]
theorem look_del_other {m : Mem} {n n' : Nat} (hne : n ≠ n') : look (del m n) n' = look m n' := by
  induction m with
  | nil => rfl
  | cons x r ih =>
    obtain ⟨k, y⟩ := x
    simp only [del]
    by_cases e : k = n
    · subst e; rw [if_pos rfl, ih]; simp [look, hne]
    · rw [if_neg e]; simp [look, ih]

def HoldsO (H : RO) (B : Names) (w : World) (b : Nat) : AObj → Prop
  | .cells l ty => ∃ cs : List Value, w.heap[b]? = some (.cells cs.toArray ty (0, 0)) ∧ DenL H B l cs
  | .opq o => w.heap[b]? = some o
  | .mp k keys vals => ∃ (ms : List MapEntry) (clock : Nat), w.heap[b]? = some (.map ms.toArray clock) ∧ ms.map (·.key) = keys.map (Value.int k) ∧ DenL H B vals (ms.map (·.val))
  | .fz l ty => ∃ (cs : List Value) (fr : Nat × Nat), w.heap[b]? = some (.cells cs.toArray ty fr) ∧ DenL H B l cs
  | .mx kd keys vals born => ∃ (ms : List MapEntry) (clock : Nat), w.heap[b]? = some (.map ms.toArray clock) ∧ ms.map (·.key) = keys.map Key.val ∧ ms.map (·.born) = born ∧ born.Nodup ∧ (∀ x ∈ born, x < clock) ∧ (∀ k ∈ keys, k.kd = kd) ∧ DenL H B vals (ms.map (·.val))
theorem HoldsO.mono {H H' : RO} {B B' : Names} (x : Ext H B H' B') {w w' : World} {b : Nat} (hw : w'.heap[b]? = w.heap[b]?) : ∀ {o : AObj}, HoldsO H B w b o → HoldsO H' B' w' b o
  | .cells l ty, ⟨cs, h1, h2⟩ => ⟨cs, hw.trans h1, h2.mono x⟩
  | .opq o, h => hw.trans h
  | .fz l ty, ⟨cs, fr, h1, h2⟩ => ⟨cs, fr, hw.trans h1, h2.mono x⟩
  | .mp k keys vals, ⟨ms, c, h1, h2, h3⟩ => ⟨ms, c, hw.trans h1, h2, h3.mono x⟩
  | .mx kd keys vals born, ⟨ms, c, h1, h2, h3, h4, h5, h6, h7⟩ => ⟨ms, c, hw.trans h1, h2, h3, h4, h5, h6, h7.mono x⟩

/-- What a walk keeps. w0: the world at the begin; FP: blocks that may be written though they were there; wr: the names that may be written. -/
structure Inv (w0 : World) (FP : Nat → Prop) (wr : Nat → Bool) (m : Mem) (nx : Nat) (H : RO) (B : Names) (w : World) : Prop where
  size : w0.heap.size ≤ w.heap.size
  os : w.os = w0.os
  tape : w.tape = w0.tape
  out : w.output = w0.output
  frame : ∀ b, b < w0.heap.size → ¬ FP b → w.heap[b]? = w0.heap[b]?
  ro : ∀ a v, H a = some v → w.cell? a = some v ∧ ∀ n o, look m n = some o → B n ≠ some a.block
  obj : ∀ n o, look m n = some o → ∃ b, B n = some b ∧ HoldsO H B w b o ∧ b < w.heap.size ∧ (wr n = true → FP b ∨ w0.heap.size ≤ b) ∧ (wr n = false → b < w0.heap.size ∧ ¬ FP b)
  inj : ∀ n n' o o', look m n = some o → look m n' = some o' → B n = B n' → n = n'
  fresh : ∀ n, nx ≤ n → B n = none
  wrn : ∀ n, nx ≤ n → wr n = true
  keep : ∀ n, wr n = false → ∃ o, look m n = some o

theorem HoldsO.lt {H : RO} {B : Names} {w : World} {b : Nat} : ∀ {o : AObj}, HoldsO H B w b o → b < w.heap.size
  | .cells l ty, ⟨cs, h1, _⟩ => (Array.getElem?_eq_some_iff.1 h1).1
  | .opq o, h => (Array.getElem?_eq_some_iff.1 h).1
  | .fz l ty, ⟨cs, fr, h1, _⟩ => (Array.getElem?_eq_some_iff.1 h1).1
  | .mp k keys vals, ⟨ms, c, h1, _⟩ => (Array.getElem?_eq_some_iff.1 h1).1
  | .mx kd keys vals born, ⟨ms, c, h1, _⟩ => (Array.getElem?_eq_some_iff.1 h1).1

section
variable {w0 w : World} {FP : Nat → Prop} {wr : Nat → Bool} {m : Mem} {nx : Nat} {H : RO} {B : Names}
theorem Inv.lt_nx (h : Inv w0 FP wr m nx H B w) {n : Nat} {o : AObj} (hn : look m n = some o) : n < nx := by
  obtain ⟨b, hb, _⟩ := h.obj n o hn
  rcases Nat.lt_or_ge n nx with h' | h'
  · exact h'
  · rw [h.fresh n h'] at hb; cases hb
/-- A draw. -/
theorem Inv.drew (h : Inv w0 FP wr m nx H B w) {w' : World} (h1 : w'.heap = w.heap) (h2 : w'.os = w.os) (h3 : w'.tape = w.tape) (h4 : w'.output = w.output) : Inv w0 FP wr m nx H B w' := by
  refine ⟨by rw [h1]; exact h.size, h2.trans h.os, h3.trans h.tape, h4.trans h.out, fun b hb hf => by rw [h1]; exact h.frame b hb hf, fun a v e => ?_, fun n o e => ?_, h.inj, h.fresh, h.wrn, h.keep⟩
  · exact ⟨(World.cell?_of_block (w := w) (by rw [h1])).trans (h.ro a v e).1, (h.ro a v e).2⟩
  · obtain ⟨b, hb, ho, hl, r⟩ := h.obj n o e
    exact ⟨b, hb, ho.mono (Ext.refl _ _) (by rw [h1]), by rw [h1]; exact hl, r⟩
/-- A new block gets the next name. -/
theorem Inv.alloc (h : Inv w0 FP wr m nx H B w) (p : Obj) (o : AObj) {w' : World} (hw : w' = { w with heap := w.heap.push p })
    (ho : HoldsO H (fun n => if n = nx then some w.heap.size else B n) w' w.heap.size o) :
    Inv w0 FP wr ((nx, o) :: m) (nx + 1) H (fun n => if n = nx then some w.heap.size else B n) w' ∧ Ext H B H (fun n => if n = nx then some w.heap.size else B n) := by
  subst hw
  have hx : Ext H B H (fun n => if n = nx then some w.heap.size else B n) := ⟨fun _ _ e => e, fun n b e => by
    have : n ≠ nx := fun hn => by rw [hn, h.fresh nx (Nat.le_refl _)] at e; cases e
    simp [this, e]⟩
  have hsz : (w.heap.push p).size = w.heap.size + 1 := by simp
  have hold : ∀ b, b < w.heap.size → (w.heap.push p)[b]? = w.heap[b]? := fun b hb => by rw [Array.getElem?_push, if_neg (by omega)]
  refine ⟨⟨?_, h.os, h.tape, h.out, ?_, ?_, ?_, ?_, ?_, ?_, ?_⟩, hx⟩
  · show w0.heap.size ≤ (w.heap.push p).size; rw [hsz]; have := h.size; omega
  · intro b hb hf
    exact (hold b (Nat.lt_of_lt_of_le hb h.size)).trans (h.frame b hb hf)
  · intro a v e
    obtain ⟨h1, h2⟩ := h.ro a v e
    have hlt : a.block < w.heap.size := block_lt_of_cell h1
    refine ⟨(World.cell?_of_block (w := w) (hold _ hlt)).trans h1, fun n o' hn => ?_⟩
    by_cases hnn : n = nx
    · subst hnn
      simp only [if_true]
      intro e'; injection e' with e'; omega
    · simp only [look, Ne.symm hnn, if_false] at hn
      simp only [hnn, if_false]
      exact h2 n o' hn
  · intro n o' hn
    by_cases hnn : n = nx
    · subst hnn
      simp only [look, if_true] at hn
      injection hn with hn
      subst hn
      refine ⟨w.heap.size, by simp, ho, by show _ < (w.heap.push p).size; rw [hsz]; omega, fun _ => .inr h.size, fun e => ?_⟩
      rw [h.wrn n (Nat.le_refl _)] at e; cases e
    · simp only [look, Ne.symm hnn, if_false] at hn
      obtain ⟨b, hb, ho', hl, r⟩ := h.obj n o' hn
      exact ⟨b, hx.nm _ _ hb, ho'.mono hx (hold b hl), by show _ < (w.heap.push p).size; rw [hsz]; omega, r⟩
  · intro n n' o1 o2 h1 h2 e
    by_cases a1 : n = nx <;> by_cases a2 : n' = nx
    · rw [a1, a2]
    · simp only [look, Ne.symm a2, if_false] at h2
      obtain ⟨b, hb, _, hl, _⟩ := h.obj n' o2 h2
      simp only [a1, a2, if_true, if_false, hb] at e
      injection e with e; omega
    · simp only [look, Ne.symm a1, if_false] at h1
      obtain ⟨b, hb, _, hl, _⟩ := h.obj n o1 h1
      simp only [a1, a2, if_true, if_false, hb] at e
      injection e with e; omega
    · simp only [look, Ne.symm a1, if_false] at h1
      simp only [look, Ne.symm a2, if_false] at h2
      simp only [a1, a2, if_false] at e
      exact h.inj _ _ _ _ h1 h2 e
  · intro n hn
    have : n ≠ nx := by omega
    simp only [this, if_false]
    exact h.fresh n (by omega)
  · intro n hn
    exact h.wrn n (by omega)
  · intro n hn
    obtain ⟨o', ho'⟩ := h.keep n hn
    by_cases e : nx = n
    · exact ⟨o, by simp [look, e]⟩
    · exact ⟨o', by simp [look, e, ho']⟩
/-- A named block is written. -/
theorem Inv.write (h : Inv w0 FP wr m nx H B w) {n : Nat} {o : AObj} (hn : look m n = some o) (hw : wr n = true) {b : Nat} (hb : B n = some b) {w' : World} (o' : AObj)
    (h1 : w'.heap.size = w.heap.size) (h2 : w'.os = w.os) (h3 : w'.tape = w.tape) (h4 : w'.output = w.output) (hf : ∀ k, k ≠ b → w'.heap[k]? = w.heap[k]?) (ho : HoldsO H B w' b o') :
    Inv w0 FP wr (upd m n o') nx H B w' := by
  have hown : ∀ k o'', look (upd m n o') k = some o'' → k ≠ n → look m k = some o'' := fun k o'' e hk => by rwa [look_upd_other o' (Ne.symm hk)] at e
  have hlk : ∀ k o'', look (upd m n o') k = some o'' → ∃ o3, look m k = some o3 := fun k o'' e => by
    by_cases hk : k = n
    · subst hk; exact ⟨o, hn⟩
    · exact ⟨o'', hown k o'' e hk⟩
  obtain ⟨b', hb', _, hl', hfp, _⟩ := h.obj n o hn
  have ebb : b' = b := by rw [hb] at hb'; injection hb' with e; exact e.symm
  subst ebb
  refine ⟨by rw [h1]; exact h.size, h2.trans h.os, h3.trans h.tape, h4.trans h.out, ?_, ?_, ?_, ?_, h.fresh, h.wrn, fun k hk => by
    obtain ⟨o3, h3'⟩ := h.keep k hk
    have hkn : n ≠ k := fun e => by rw [← e, hw] at hk; cases hk
    exact ⟨o3, by rw [look_upd_other o' hkn]; exact h3'⟩⟩
  · intro k hk hfk
    have : k ≠ b' := fun e => by
      subst e
      rcases hfp hw with h' | h'
      · exact hfk h'
      · omega
    exact (hf k this).trans (h.frame k hk hfk)
  · intro a v e
    obtain ⟨g1, g2⟩ := h.ro a v e
    refine ⟨(World.cell?_of_block (w := w) (hf _ fun e' => g2 n o hn (by rw [hb, e']))).trans g1, fun k o'' hk => ?_⟩
    obtain ⟨o3, h3'⟩ := hlk k o'' hk
    exact g2 k o3 h3'
  · intro k o'' hk
    by_cases hkn : k = n
    · subst hkn
      rw [look_upd_same o' hn] at hk
      injection hk with hk
      subst hk
      exact ⟨b', hb, ho, by rw [h1]; exact hl', fun _ => hfp hw, fun e => by rw [hw] at e; cases e⟩
    · have hk' := hown k o'' hk hkn
      obtain ⟨c, hc, hho, hcl, r⟩ := h.obj k o'' hk'
      have hne : c ≠ b' := fun e => hkn (h.inj k n _ _ hk' hn (by rw [hc, hb, e]))
      exact ⟨c, hc, hho.mono (Ext.refl _ _) (hf c hne), by rw [h1]; exact hcl, r⟩
  · intro k k' p p' e1 e2 e
    obtain ⟨_, g1⟩ := hlk k p e1
    obtain ⟨_, g2⟩ := hlk k' p' e2
    exact h.inj k k' _ _ g1 g2 e
/-- Names may be forgotten. -/
theorem Inv.less (h : Inv w0 FP wr m nx H B w) {m' : Mem} (hm : ∀ n o, look m' n = some o → look m n = some o) (hk : ∀ n, wr n = false → ∃ o, look m' n = some o) : Inv w0 FP wr m' nx H B w :=
  ⟨h.size, h.os, h.tape, h.out, h.frame, fun a v e => ⟨(h.ro a v e).1, fun n o hn => (h.ro a v e).2 n o (hm n o hn)⟩, fun n o hn => h.obj n o (hm n o hn), fun n n' o o' h1 h2 e => h.inj n n' o o' (hm _ _ h1) (hm _ _ h2) e, h.fresh, h.wrn, hk⟩
end

end Go.Eng
