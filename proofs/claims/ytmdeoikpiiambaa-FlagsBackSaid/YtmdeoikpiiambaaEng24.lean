/- The engine, part 24: a law's arguments of any plain shape. Own work. -/
import Derived.Test.YtmdeoikpiiambaaEng14
import Derived.OpenShut
import Derived.DataElems
set_option linter.unusedVariables false
namespace Go.Eng
open Go Go.RowKit

/-- whatever reads as a value of the type is what 'f' tells of some 'a' -/
def Reads (P : Program) (W : World) (t : TypeId) {α : Type} (f : α → List AV) (ok : α → Prop) : Prop :=
  ∀ (H : Type) (enc : TypeId × Value → H) (base : Nat) (sp : Nat → Bool) (held : Bool) (fuel : Nat) (cs : List Value) (x : DataW H × List MemPlace),
    DataW.trod enc P W base sp held fuel t cs = some x → ∃ a, ok a ∧ ∀ B, DenL (fun a => W.cell? a) B (f a) cs
section
variable {P : Program} {W : World} {t e : TypeId}
theorem Reads.u8 (ht : P.underlying t = some (.int .u8)) : Reads P W t (fun b : BitVec 8 => [.int .u8 (b.toNat : Int)]) (fun _ => True) := by
  intro H enc base sp held fuel cs x h
  obtain ⟨n, rfl, _, hw⟩ := DataW.trod_int ht h
  exact ⟨BitVec.ofInt 8 n, trivial, fun B => by
    have e := wf_u8 hw
    simp only [DenL, Den]
    exact ⟨_, _, rfl, by rw [← e], rfl⟩⟩
theorem Reads.u16 (ht : P.underlying t = some (.int .u16)) : Reads P W t (fun b : BitVec 16 => [.int .u16 (b.toNat : Int)]) (fun _ => True) := by
  intro H enc base sp held fuel cs x h
  obtain ⟨n, rfl, _, hw⟩ := DataW.trod_int ht h
  exact ⟨BitVec.ofInt 16 n, trivial, fun B => by
    have e := wf_u16 hw
    simp only [DenL, Den]
    exact ⟨_, _, rfl, by rw [← e], rfl⟩⟩
theorem Reads.u32 (ht : P.underlying t = some (.int .u32)) : Reads P W t (fun b : BitVec 32 => [.int .u32 (b.toNat : Int)]) (fun _ => True) := by
  intro H enc base sp held fuel cs x h
  obtain ⟨n, rfl, _, hw⟩ := DataW.trod_int ht h
  exact ⟨BitVec.ofInt 32 n, trivial, fun B => by
    have e := wf_u32 hw
    simp only [DenL, Den]
    exact ⟨_, _, rfl, by rw [← e], rfl⟩⟩
theorem Reads.u64 (ht : P.underlying t = some (.int .u64)) : Reads P W t (fun b : BitVec 64 => [.int .u64 (b.toNat : Int)]) (fun _ => True) := by
  intro H enc base sp held fuel cs x h
  obtain ⟨n, rfl, _, hw⟩ := DataW.trod_int ht h
  exact ⟨BitVec.ofInt 64 n, trivial, fun B => by
    have e := wf_u64 hw
    simp only [DenL, Den]
    exact ⟨_, _, rfl, by rw [← e], rfl⟩⟩
theorem Reads.i64 (ht : P.underlying t = some (.int .i64)) : Reads P W t (fun n : Int => [.int .i64 n]) (fun n => -9223372036854775808 ≤ n ∧ n < 9223372036854775808) := by
  intro H enc base sp held fuel cs x h
  obtain ⟨n, rfl, _, hw⟩ := DataW.trod_int ht h
  exact ⟨n, wf_i64 hw, fun B => by simp [DenL, Den]⟩
theorem Reads.bool (ht : P.underlying t = some .bool) : Reads P W t (fun b : Bool => [.bool b]) (fun _ => True) := by
  intro H enc base sp held fuel cs x h
  obtain ⟨b, rfl, _⟩ := DataW.trod_bool ht h
  exact ⟨b, trivial, fun B => by simp [DenL, Den]⟩
theorem DenAt.app {H : RO} {B : Names} {A : Option Addr} : ∀ {l l' : List AV} {i : Nat}, DenAt H B A i l → DenAt H B A (i + l.length) l' → DenAt H B A i (l ++ l')
  | [], l', i, _, h => by simpa using h
  | x :: r, l', i, h, h' => by
    simp only [DenAt, List.cons_append] at h ⊢
    refine ⟨h.1, DenAt.app h.2 ?_⟩
    rw [List.length_cons] at h'
    rw [show i + 1 + r.length = i + (r.length + 1) by omega]
    exact h'
theorem Reads.build {α : Type} {f : α → List AV} {ok : α → Prop} (he : Reads P W e f ok) {H : Type} {enc : TypeId × Value → H} {base : Nat} {sp : Nat → Bool} {held : Bool} {m : Nat} (a : Addr) :
    ∀ (n o : Nat), (∀ i, i < n → ∃ y, (W.cells? base (a.add ((o + i) * P.cellsOf e)) (P.cellsOf e)).bind (DataW.trod enc P W base sp held m e) = some y) →
      ∃ L : List α, L.length = n ∧ (∀ z ∈ L, ok z) ∧ ∀ B, DenAt (fun a => W.cell? a) B (some a) (o * P.cellsOf e) (L.flatMap f)
  | 0, o, _ => ⟨[], rfl, (fun z hz => by cases hz), fun B => trivial⟩
  | n + 1, o, h => by
    obtain ⟨y, hy⟩ := h 0 (by omega)
    obtain ⟨cs, hcs, hy⟩ := Option.bind_eq_some_iff.1 hy
    obtain ⟨z, hz, hd⟩ := he _ _ _ _ _ _ _ _ hy
    obtain ⟨_, hl, hc⟩ := World.cells?_some hcs
    obtain ⟨L, hL, hok, hD⟩ := Reads.build he a n (o + 1) fun i hi => by
      have := h (i + 1) (by omega)
      rwa [show o + (i + 1) = o + 1 + i by omega] at this
    refine ⟨z :: L, by rw [List.length_cons, hL], fun z' hz' => ?_, fun B => ?_⟩
    · rcases List.mem_cons.1 hz' with rfl | h'
      · exact hz
      · exact hok _ h'
    · rw [List.flatMap_cons]
      have hfl : (f z).length = P.cellsOf e := by rw [← (hd B).length, hl]
      refine DenAt.app (DenAt.of_get fun j x hj => ?_) ?_
      · obtain ⟨v, hv, hdv⟩ := (hd B).get j x hj
        refine ⟨a, v, rfl, ?_, hdv⟩
        have hj' : j < P.cellsOf e := by rw [← hfl]; exact (List.getElem?_eq_some_iff.1 hj).1
        have := hc j hj'
        rw [Nat.add_zero, Addr.add_add] at this
        rw [← hv]; exact this
      · rw [hfl, show o * P.cellsOf e + P.cellsOf e = (o + 1) * P.cellsOf e by rw [Nat.add_mul, Nat.one_mul]]
        exact hD B
theorem Reads.slice {α : Type} {f : α → List AV} {ok : α → Prop} (ht : P.underlying t = some (.slice e)) (he : Reads P W e f ok) :
    Reads P W t (fun L : List α => [.ro L.length (L.flatMap f)]) (fun L => L.length ≤ maxLen ∧ ∀ z ∈ L, ok z) := by
  intro H enc base sp held fuel cs x h
  rcases DataW.trod_slice ht h with ⟨rfl, _⟩ | ⟨a, len, cap, elems, rest, n, _, rfl, _, _, hl, hm, hlen, hel, _⟩
  · refine ⟨[], ⟨Nat.zero_le _, (fun z hz => by cases hz)⟩, fun B => ?_⟩
    simp only [DenL]
    exact ⟨_, _, rfl, by simp only [Den]; exact ⟨none, 0, rfl, Nat.le_refl _, trivial⟩, rfl⟩
  · obtain ⟨L, hL, hok, hD⟩ := Reads.build he (H := H) (enc := enc) (base := base) (sp := sp) (held := held) (m := n) a len 0 fun i hi => by
      rw [Nat.zero_add, hel i hi, List.getElem?_eq_getElem (by omega)]
      exact ⟨_, rfl⟩
    refine ⟨L, ⟨by omega, hok⟩, fun B => ?_⟩
    simp only [DenL]
    refine ⟨_, _, rfl, ?_, rfl⟩
    simp only [Den]
    refine ⟨some a, cap, by rw [hL], by omega, ?_⟩
    have := hD B
    rwa [Nat.zero_mul] at this
theorem bvs_fm (k : IntKind) {w : Nat} (L : List (BitVec w)) : bvs k L = L.flatMap fun b => [AV.int k (b.toNat : Int)] := by
  induction L with
  | nil => rfl
  | cons x r ih => rw [bvs_cons, List.flatMap_cons, ih]; rfl
theorem Reads.sl8 (ht : P.underlying t = some (.slice e)) (he : P.underlying e = some (.int .u8)) : Reads P W t (fun L : List (BitVec 8) => [.ro L.length (bvs .u8 L)]) (fun L => L.length ≤ maxLen) := by
  intro H enc base sp held fuel cs x h
  obtain ⟨L, hL, hd⟩ := (Reads.slice (W := W) ht (Reads.u8 he)) H enc base sp held fuel cs x h
  refine ⟨L, hL.1, fun B => ?_⟩
  show DenL _ B [.ro L.length (bvs .u8 L)] cs
  rw [bvs_fm]
  exact hd B
theorem Reads.sl32 (ht : P.underlying t = some (.slice e)) (he : P.underlying e = some (.int .u32)) : Reads P W t (fun L : List (BitVec 32) => [.ro L.length (bvs .u32 L)]) (fun L => L.length ≤ maxLen) := by
  intro H enc base sp held fuel cs x h
  obtain ⟨L, hL, hd⟩ := (Reads.slice (W := W) ht (Reads.u32 he)) H enc base sp held fuel cs x h
  refine ⟨L, hL.1, fun B => ?_⟩
  show DenL _ B [.ro L.length (bvs .u32 L)] cs
  rw [bvs_fm]
  exact hd B
/-- a struct's fields, from a cell on -/
def ReadsF (P : Program) (W : World) (fs : List Field) (o e : Nat) {α : Type} (f : α → List AV) (ok : α → Prop) : Prop :=
  ∀ (H : Type) (enc : TypeId × Value → H) (base : Nat) (sp : Nat → Bool) (held : Bool) (n : Nat) (cs : List Value), cs.length = e →
    (∀ fd ∈ fs, ∃ y, DataW.trod enc P W base sp held n fd.type ((cs.drop fd.offset).take (P.cellsOf fd.type)) = some y) → ∃ a, ok a ∧ ∀ B, DenL (fun a => W.cell? a) B (f a) (cs.drop o)
theorem ReadsF.nil {o e : Nat} (h : o = e) : ReadsF P W [] o e (fun _ : Unit => []) (fun _ => True) := by
  intro H enc base sp held n cs hl _
  refine ⟨(), trivial, fun B => ?_⟩
  rw [List.drop_eq_nil_of_le (by omega)]
  rfl
theorem ReadsF.cons {o e o' : Nat} {fd : Field} {fs : List Field} {α β : Type} {f : α → List AV} {ok : α → Prop} {g : β → List AV} {ok' : β → Prop} (ho : fd.offset = o) (ho' : o + P.cellsOf fd.type = o')
    (h1 : Reads P W fd.type f ok) (h2 : ReadsF P W fs o' e g ok') : ReadsF P W (fd :: fs) o e (fun p : α × β => f p.1 ++ g p.2) (fun p => ok p.1 ∧ ok' p.2) := by
  intro H enc base sp held n cs hl hf
  obtain ⟨y, hy⟩ := hf fd (List.mem_cons_self ..)
  obtain ⟨a, ha, hda⟩ := h1 _ _ _ _ _ _ _ _ hy
  obtain ⟨b, hb, hdb⟩ := h2 H enc base sp held n cs hl fun fd' h => hf fd' (List.mem_cons_of_mem _ h)
  refine ⟨(a, b), ⟨ha, hb⟩, fun B => ?_⟩
  have : cs.drop o = (cs.drop fd.offset).take (P.cellsOf fd.type) ++ cs.drop o' := by
    rw [ho, ← ho', ← List.drop_drop, List.take_append_drop]
  rw [this]
  exact (hda B).append (hdb B)
theorem Reads.struct {α : Type} {f : α → List AV} {ok : α → Prop} {fs : Array Field} (ht : P.underlying t = some (.struct fs)) (h : ReadsF P W fs.toList 0 (P.cellsOf t) f ok) : Reads P W t f ok := by
  intro H enc base sp held fuel cs x hx
  obtain ⟨xs, n, _, _, hl, hxl, hf⟩ := DataW.trod_struct ht hx
  obtain ⟨a, ha, hd⟩ := h H enc base sp held n cs hl fun fd hfd => by
    obtain ⟨i, hi⟩ := List.getElem?_of_mem hfd
    have hi' : fs[i]? = some fd := by simpa using hi
    rw [hf i fd hi', List.getElem?_eq_getElem (by rw [hxl]; exact (Array.getElem?_eq_some_iff.1 hi').1)]
    exact ⟨_, rfl⟩
  exact ⟨a, ha, fun B => by simpa using hd B⟩
/-- an argument that is a slice -/
theorem Reads.argS {H : Type} {enc : TypeId × Value → H} {base : Nat} {sp : Nat → Bool} {held : Bool} {v : Value} {d : DataW H} {p : List MemPlace} {α : Type} {g : α → AV} {ok : α → Prop} (h : Reads P W t (fun a => [g a]) ok)
    (ht : P.underlying t = some (.slice e)) (hv : ∃ a len cap, v = .slice a len cap) (hd : DataW.Trod enc P W base sp held t v d p) : ∃ a, ok a ∧ ∀ B, Den (fun a => W.cell? a) B (g a) v := by
  obtain ⟨fuel, hf⟩ := hd
  obtain ⟨a, ha, hD⟩ := h _ _ _ _ _ _ _ _ hf
  refine ⟨a, ha, fun B => ?_⟩
  obtain ⟨x, len, cap, rfl⟩ := hv
  have := hD B
  simp only [DenL] at this
  obtain ⟨u, s, e1, h1, rfl⟩ := this
  have e2 : (Value.slice x len cap).cells.toList = [.slice x len cap] := by simp [Value.cells]
  rw [e2] at e1
  cases e1
  exact h1
/-- an argument that is a struct -/
theorem Reads.argT {H : Type} {enc : TypeId × Value → H} {base : Nat} {sp : Nat → Bool} {held : Bool} {v : Value} {d : DataW H} {p : List MemPlace} {α : Type} {f : α → List AV} {ok : α → Prop} (h : Reads P W t f ok)
    (hv : ∃ cs, v = .agg cs) (hd : DataW.Trod enc P W base sp held t v d p) : ∃ a, ok a ∧ ∀ B, Den (fun a => W.cell? a) B (.agg (f a)) v := by
  obtain ⟨fuel, hf⟩ := hd
  obtain ⟨a, ha, hD⟩ := h _ _ _ _ _ _ _ _ hf
  refine ⟨a, ha, fun B => ?_⟩
  obtain ⟨cs, rfl⟩ := hv
  simp only [Den]
  have := hD B
  refine ⟨cs.toList, by simp, ?_⟩
  have e2 : (Value.agg cs).cells.toList = cs.toList := by simp [Value.cells]
  rw [e2] at this
  exact this
end
end Go.Eng
