/- The engine, part 8: names anew; a function's contract met in a greater memory. Own work. -/
import Derived.Test.YtmdeoikpiiambaaEng7
set_option linter.unusedVariables false
set_option linter.unusedSimpArgs false
namespace Go.Eng
open Go

mutual
def renA (f : Nat → Nat) : AV → AV
  | .ptr n o => .ptr (f n) o
  | .sl n o l c => .sl (f n) o l c
  | .map n => .map (f n)
  | .ro l xs => .ro l (renL f xs)
  | .rop xs => .rop (renL f xs)
  | .fn g fi ca => .fn g (renL f fi) (renL f ca)
  | .iface t v => .iface t (renA f v)
  | .agg l => .agg (renL f l)
  | .tup l => .tup (renL f l)
  | .bool b => .bool b
  | .int k n => .int k n
  | .str s => .str s
  | .nilp => .nilp
  | .nils => .nils
  | .nilf => .nilf
  | .nilm => .nilm
  | .nili => .nili
  | .val v => .val v
def renL (f : Nat → Nat) : List AV → List AV
  | [] => []
  | x :: r => renA f x :: renL f r
end
mutual
theorem den_ren {H : RO} {B : Names} {f : Nat → Nat} : ∀ (a : AV) {v : Value}, Den H B (renA f a) v → Den H (fun n => B (f n)) a v
  | .ptr n o, v, h => by simpa only [renA, Den] using h
  | .sl n o l c, v, h => by simpa only [renA, Den] using h
  | .map n, v, h => by simpa only [renA, Den] using h
  | .ro l xs, v, h => by
    simp only [renA, Den] at h ⊢
    obtain ⟨A, c, e, h1, h2⟩ := h
    exact ⟨A, c, e, h1, denAt_ren xs h2⟩
  | .rop xs, v, h => by
    simp only [renA, Den] at h ⊢
    obtain ⟨a, e, h2⟩ := h
    exact ⟨a, e, denAt_ren xs h2⟩
  | .fn g fi ca, v, h => by
    simp only [renA, Den] at h ⊢
    obtain ⟨x, y, e, h1, h2⟩ := h
    exact ⟨x, y, e, denL_ren fi h1, denL_ren ca h2⟩
  | .iface t x, v, h => by
    simp only [renA, Den] at h ⊢
    obtain ⟨y, e, h1⟩ := h
    exact ⟨y, e, den_ren x h1⟩
  | .agg l, v, h => by
    simp only [renA, Den] at h ⊢
    obtain ⟨y, e, h1⟩ := h
    exact ⟨y, e, denL_ren l h1⟩
  | .tup l, v, h => by
    simp only [renA, Den] at h ⊢
    obtain ⟨y, e, h1⟩ := h
    exact ⟨y, e, denL_ren l h1⟩
  | .bool b, v, h => by simpa only [renA, Den] using h
  | .int k n, v, h => by simpa only [renA, Den] using h
  | .str s, v, h => by simpa only [renA, Den] using h
  | .nilp, v, h => by simpa only [renA, Den] using h
  | .nils, v, h => by simpa only [renA, Den] using h
  | .nilf, v, h => by simpa only [renA, Den] using h
  | .nilm, v, h => by simpa only [renA, Den] using h
  | .nili, v, h => by simpa only [renA, Den] using h
  | .val u, v, h => by simpa only [renA, Den] using h
theorem denL_ren {H : RO} {B : Names} {f : Nat → Nat} : ∀ (l : List AV) {vs : List Value}, DenL H B (renL f l) vs → DenL H (fun n => B (f n)) l vs
  | [], vs, h => by simpa only [renL, DenL] using h
  | x :: r, vs, h => by
    simp only [renL, DenL] at h ⊢
    obtain ⟨v, s, e, h1, h2⟩ := h
    exact ⟨v, s, e, den_ren x h1, denL_ren r h2⟩
theorem denAt_ren {H : RO} {B : Names} {f : Nat → Nat} {A : Option Addr} : ∀ (l : List AV) {i : Nat}, DenAt H B A i (renL f l) → DenAt H (fun n => B (f n)) A i l
  | [], i, h => by simp only [DenAt]
  | x :: r, i, h => by
    simp only [renL, DenAt] at h ⊢
    obtain ⟨⟨a, v, e, h0, h1⟩, h2⟩ := h
    exact ⟨⟨a, v, e, h0, den_ren x h1⟩, denAt_ren r h2⟩
end
mutual
/-- no read-only memory in it -/
def noRo : AV → Bool
  | .ro _ _ => false
  | .rop _ => false
  | .fn _ fi ca => noRoL fi && noRoL ca
  | .iface _ v => noRo v
  | .agg l => noRoL l
  | .tup l => noRoL l
  | _ => true
def noRoL : List AV → Bool
  | [] => true
  | x :: r => noRo x && noRoL r
end
mutual
theorem den_back {H H' : RO} {B B' : Names} {f : Nat → Nat} (hb : ∀ n b, B' n = some b → B (f n) = some b) : ∀ (a : AV) {v : Value}, noRo a = true → Den H' B' a v → Den H B (renA f a) v
  | .ptr n o, v, _, h => by
    simp only [renA, Den] at h ⊢
    obtain ⟨b, h1, e⟩ := h
    exact ⟨b, hb _ _ h1, e⟩
  | .sl n o l c, v, _, h => by
    simp only [renA, Den] at h ⊢
    obtain ⟨b, a, h1, e⟩ := h
    exact ⟨b, a, hb _ _ h1, e⟩
  | .map n, v, _, h => by
    simp only [renA, Den] at h ⊢
    obtain ⟨b, h1, e⟩ := h
    exact ⟨b, hb _ _ h1, e⟩
  | .ro l xs, v, hn, h => by simp [noRo] at hn
  | .rop xs, v, hn, h => by simp [noRo] at hn
  | .fn g fi ca, v, hn, h => by
    simp only [renA, Den, noRo, Bool.and_eq_true] at h hn ⊢
    obtain ⟨x, y, e, h1, h2⟩ := h
    exact ⟨x, y, e, denL_back hb fi hn.1 h1, denL_back hb ca hn.2 h2⟩
  | .iface t x, v, hn, h => by
    simp only [renA, Den, noRo] at h hn ⊢
    obtain ⟨y, e, h1⟩ := h
    exact ⟨y, e, den_back hb x hn h1⟩
  | .agg l, v, hn, h => by
    simp only [renA, Den, noRo] at h hn ⊢
    obtain ⟨y, e, h1⟩ := h
    exact ⟨y, e, denL_back hb l hn h1⟩
  | .tup l, v, hn, h => by
    simp only [renA, Den, noRo] at h hn ⊢
    obtain ⟨y, e, h1⟩ := h
    exact ⟨y, e, denL_back hb l hn h1⟩
  | .bool b, v, _, h => by simpa only [renA, Den] using h
  | .int k n, v, _, h => by simpa only [renA, Den] using h
  | .str s, v, _, h => by simpa only [renA, Den] using h
  | .nilp, v, _, h => by simpa only [renA, Den] using h
  | .nils, v, _, h => by simpa only [renA, Den] using h
  | .nilf, v, _, h => by simpa only [renA, Den] using h
  | .nilm, v, _, h => by simpa only [renA, Den] using h
  | .nili, v, _, h => by simpa only [renA, Den] using h
  | .val u, v, _, h => by simpa only [renA, Den] using h
theorem denL_back {H H' : RO} {B B' : Names} {f : Nat → Nat} (hb : ∀ n b, B' n = some b → B (f n) = some b) : ∀ (l : List AV) {vs : List Value}, noRoL l = true → DenL H' B' l vs → DenL H B (renL f l) vs
  | [], vs, _, h => by simpa only [renL, DenL] using h
  | x :: r, vs, hn, h => by
    simp only [renL, DenL, noRoL, Bool.and_eq_true] at h hn ⊢
    obtain ⟨v, s, e, h1, h2⟩ := h
    exact ⟨v, s, e, den_back hb x hn.1 h1, denL_back hb r hn.2 h2⟩
end
/-- plain data -/
def flat : AV → Bool
  | .bool _ => true
  | .int _ _ => true
  | .str _ => true
  | .nilp => true
  | .nils => true
  | .nilf => true
  | .nilm => true
  | .nili => true
  | _ => false
theorem flat_den {H H' : RO} {B B' : Names} {a : AV} (hf : flat a = true) {v : Value} (h : Den H B a v) : Den H' B' a v := by
  cases a <;> first | (simp [flat] at hf; done) | (simpa only [Den] using h)
theorem flat_ren {a : AV} (hf : flat a = true) (f : Nat → Nat) : renA f a = a := by
  cases a <;> first | (simp [flat] at hf; done) | rfl
theorem flatL_ren : ∀ {l : List AV}, l.all flat = true → ∀ f, renL f l = l
  | [], _, _ => rfl
  | x :: r, h, f => by
    simp only [List.all_cons, Bool.and_eq_true] at h
    simp only [renL, flat_ren h.1 f, flatL_ren h.2 f]
theorem flat_noRo {a : AV} (hf : flat a = true) : noRo a = true := by
  cases a <;> first | (simp [flat] at hf; done) | rfl
theorem flatL_noRo : ∀ {l : List AV}, l.all flat = true → noRoL l = true
  | [], _ => rfl
  | x :: r, h => by
    simp only [List.all_cons, Bool.and_eq_true] at h
    simp only [noRoL, flat_noRo h.1, flatL_noRo h.2, Bool.and_self]
theorem renL_append (f : Nat → Nat) : ∀ (l l' : List AV), renL f (l ++ l') = renL f l ++ renL f l'
  | [], l' => rfl
  | x :: r, l' => by simp only [List.cons_append, renL, renL_append f r l']
theorem noRoL_append : ∀ (l l' : List AV), noRoL (l ++ l') = (noRoL l && noRoL l')
  | [], l' => by simp [noRoL]
  | x :: r, l' => by simp only [List.cons_append, noRoL, noRoL_append r l', Bool.and_assoc]
theorem renL_vals (f : Nat → Nat) : ∀ (l : List Value), renL f (l.map AV.val) = l.map AV.val
  | [] => rfl
  | x :: r => by simp only [List.map_cons, renL, renA, renL_vals f r]
theorem noRoL_vals : ∀ (l : List Value), noRoL (l.map AV.val) = true
  | [] => rfl
  | x :: r => by simp only [List.map_cons, noRoL, noRo, noRoL_vals r, Bool.and_self]

def renO (f : Nat → Nat) : AObj → AObj
  | .cells l ty => .cells (renL f l) ty
  | .opq o => .opq o
  | .fz l ty => .fz (renL f l) ty
  | .mp k keys vals => .mp k keys (renL f vals)
  | .mx kd keys vals born => .mx kd keys (renL f vals) born
def noRoO : AObj → Bool
  | .cells l _ => noRoL l
  | .opq _ => true
  | .fz l _ => noRoL l
  | .mp _ _ vals => noRoL vals
  | .mx _ _ vals _ => noRoL vals
def renM (f : Nat → Nat) : Mem → Mem
  | [] => []
  | (n, o) :: r => (f n, renO f o) :: renM f r
def noRoM : Mem → Bool
  | [] => true
  | (_, o) :: r => noRoO o && noRoM r
theorem holds_ren {H : RO} {B : Names} {f : Nat → Nat} {w : World} {b : Nat} : ∀ {o : AObj}, HoldsO H B w b (renO f o) → HoldsO H (fun n => B (f n)) w b o
  | .cells l ty, ⟨cs, h1, h2⟩ => ⟨cs, h1, denL_ren l h2⟩
  | .opq o, h => h
  | .fz l ty, ⟨cs, fr, h1, h2⟩ => ⟨cs, fr, h1, denL_ren l h2⟩
  | .mp k keys vals, ⟨ms, c, h1, h2, h3⟩ => ⟨ms, c, h1, h2, denL_ren vals h3⟩
  | .mx kd keys vals born, ⟨ms, c, h1, h2, h3, h4, h5, h6, h7⟩ => ⟨ms, c, h1, h2, h3, h4, h5, h6, denL_ren vals h7⟩
theorem holds_back {H H' : RO} {B B' : Names} {f : Nat → Nat} (hb : ∀ n b, B' n = some b → B (f n) = some b) {w : World} {b : Nat} : ∀ {o : AObj}, noRoO o = true → HoldsO H' B' w b o → HoldsO H B w b (renO f o)
  | .cells l ty, hn, ⟨cs, h1, h2⟩ => ⟨cs, h1, denL_back hb l hn h2⟩
  | .opq o, _, h => h
  | .fz l ty, hn, ⟨cs, fr, h1, h2⟩ => ⟨cs, fr, h1, denL_back hb l hn h2⟩
  | .mp k keys vals, hn, ⟨ms, c, h1, h2, h3⟩ => ⟨ms, c, h1, h2, denL_back hb vals hn h3⟩
  | .mx kd keys vals born, hn, ⟨ms, c, h1, h2, h3, h4, h5, h6, h7⟩ => ⟨ms, c, h1, h2, h3, h4, h5, h6, denL_back hb vals hn h7⟩
theorem noRoM_look {m : Mem} (h : noRoM m = true) {n : Nat} {o : AObj} (hl : look m n = some o) : noRoO o = true := by
  induction m with
  | nil => cases hl
  | cons x r ih =>
    obtain ⟨k, y⟩ := x
    simp only [noRoM, Bool.and_eq_true] at h
    simp only [look] at hl
    split at hl
    · cases hl; exact h.1
    · exact ih h.2 hl

/-- names anew: those told in the list, else as they are; what is new lies behind -/
def rf (l : List (Nat × Nat)) (nx nx' : Nat) (n : Nat) : Nat := match look l n with | some k => k | none => if n < nx' then n else n - nx' + nx
def slotsLe (f : Nat → Nat) (t : Slots) : Slots → Prop
  | [] => True
  | (s, v) :: r => look t s = some (renA f v) ∧ slotsLe f t r
def memLe (f : Nat → Nat) (wr wr' : Nat → Bool) (m : Mem) : Mem → Prop
  | [] => True
  | (n, o) :: r => look m (f n) = some (renO f o) ∧ wr (f n) = wr' n ∧ memLe f wr wr' m r
theorem slotsLe_look {f : Nat → Nat} {t : Slots} : ∀ {t' : Slots}, slotsLe f t t' → ∀ s v, look t' s = some v → look t s = some (renA f v)
  | [], _, s, v, e => by cases e
  | (k, x) :: r, h, s, v, e => by
    simp only [slotsLe] at h
    simp only [look] at e
    split at e
    · rename_i hk; cases e; subst hk; exact h.1
    · exact slotsLe_look h.2 s v e
theorem memLe_look {f : Nat → Nat} {wr wr' : Nat → Bool} {m : Mem} : ∀ {m' : Mem}, memLe f wr wr' m m' → ∀ n o, look m' n = some o → look m (f n) = some (renO f o) ∧ wr (f n) = wr' n
  | [], _, s, v, e => by cases e
  | (k, x) :: r, h, s, v, e => by
    simp only [memLe] at h
    simp only [look] at e
    split at e
    · rename_i hk; cases e; subst hk; exact ⟨h.1, h.2.1⟩
    · exact memLe_look h.2.2 s v e
def injOn (f : Nat → Nat) (m : Mem) : Prop := (m.map fun p => f p.1).Nodup
theorem injOn_look {f : Nat → Nat} : ∀ {m : Mem}, injOn f m → ∀ n n' o o', look m n = some o → look m n' = some o' → f n = f n' → n = n'
  | [], _, n, n', o, o', h1, _, _ => by cases h1
  | (k, x) :: r, h, n, n', o, o', h1, h2, e => by
    simp only [injOn, List.map_cons, List.nodup_cons] at h
    have hmem : ∀ {r : Mem} {n : Nat} {o : AObj}, look r n = some o → f n ∈ r.map fun p => f p.1 := by
      intro r n o hl
      induction r with
      | nil => cases hl
      | cons y s ih =>
        obtain ⟨k', z⟩ := y
        simp only [look] at hl
        split at hl
        · rename_i hk; subst hk; simp
        · simp only [List.map_cons, List.mem_cons]; exact .inr (ih hl)
    simp only [look] at h1 h2
    split at h1 <;> split at h2
    · rename_i a b; rw [← a, ← b]
    · rename_i a b; subst a; exact absurd (e ▸ hmem h2) h.1
    · rename_i a b; subst b; exact absurd (e ▸ hmem h1) h.1
    · exact injOn_look (show injOn f r from h.2) n n' o o' h1 h2 e
section
variable {P : Program} {w0 w : World} {FP : Nat → Prop} {wr rd : Nat → Bool} {m : Mem} {nx : Nat} {H : RO} {B : Names} {N : Nat} {t : Slots} {a : Act}
/-- From one state to another that says less, in other names. -/
structure Le (nf : Nat) (l : List (Nat × Nat)) (wr : Nat → Bool) (t : Slots) (m : Mem) (nx : Nat) (t' : Slots) (m' : Mem) (nx' : Nat) : Prop where
  keys : l.all (fun p => decide (nf ≤ p.1) && decide (p.1 < nx')) = true
  low : nf ≤ nx'
  slots : slotsLe (rf l nx nx') t t'
  mem : memLe (rf l nx nx') wr wr m m'
  inj : injOn (rf l nx nx') m'
  keep : ∀ n, wr n = false → ∃ o, look m' n = some o
  wrn : ∀ n, nx' ≤ n → wr n = true
theorem rf_ge {l : List (Nat × Nat)} {nx nx' : Nat} (h : l.all (fun p => decide (p.1 < nx')) = true) {n : Nat} (hn : nx' ≤ n) : nx ≤ rf l nx nx' n := by
  have hl : look l n = none := by
    induction l with
    | nil => rfl
    | cons x r ih =>
      obtain ⟨k, y⟩ := x
      simp only [List.all_cons, Bool.and_eq_true, decide_eq_true_eq] at h
      simp only [look]
      rw [if_neg (by omega)]
      exact ih h.2
  unfold rf
  rw [hl]
  simp only
  rw [if_neg (by omega)]
  omega
theorem keys_lt {nf nx' : Nat} {l : List (Nat × Nat)} (h : l.all (fun p => decide (nf ≤ p.1) && decide (p.1 < nx')) = true) : l.all (fun p => decide (p.1 < nx')) = true :=
  List.all_eq_true.2 fun p hp => by
    have := List.all_eq_true.1 h p hp
    simp only [Bool.and_eq_true] at this
    exact this.2
def ExtN (nf : Nat) (B B' : Names) : Prop := ∀ n b, n < nf → B n = some b → B' n = some b
theorem rf_low {nf nx nx' : Nat} {l : List (Nat × Nat)} (h : l.all (fun p => decide (nf ≤ p.1) && decide (p.1 < nx')) = true) (hl : nf ≤ nx') {n : Nat} (hn : n < nf) : rf l nx nx' n = n := by
  have : look l n = none := by
    induction l with
    | nil => rfl
    | cons x r ih =>
      obtain ⟨k, y⟩ := x
      simp only [List.all_cons, Bool.and_eq_true, decide_eq_true_eq] at h
      simp only [look]
      rw [if_neg (by omega)]
      exact ih (by simpa using h.2)
  unfold rf
  rw [this]
  simp only
  rw [if_pos (by omega)]
theorem Le.ok {nf : Nat} {l : List (Nat × Nat)} {t' : Slots} {m' : Mem} {nx' : Nat} (h : Le nf l wr t m nx t' m' nx') (hi : Inv w0 FP wr m nx H B w) (hs : SlotsOk N H B t a) :
    Inv w0 FP wr m' nx' H (fun n => B (rf l nx nx' n)) w ∧ SlotsOk N H (fun n => B (rf l nx nx' n)) t' a ∧ ExtN nf B (fun n => B (rf l nx nx' n)) := by
  refine ⟨⟨hi.size, hi.os, hi.tape, hi.out, hi.frame, fun ad v e => ⟨(hi.ro ad v e).1, fun n o hn => (hi.ro ad v e).2 _ _ (memLe_look h.mem n o hn).1⟩, fun n o hn => ?_, fun n n' o o' h1 h2 e => ?_, fun n hn => hi.fresh _ (rf_ge (keys_lt h.keys) hn), h.wrn, h.keep⟩, ⟨hs.1, fun s av e => ?_⟩, fun n b hn e => by show B (rf l nx nx' n) = some b; rw [rf_low h.keys h.low hn]; exact e⟩
  · obtain ⟨h1, h2⟩ := memLe_look h.mem n o hn
    obtain ⟨b, hb, ho, hl, r1, r2⟩ := hi.obj _ _ h1
    exact ⟨b, hb, holds_ren ho, hl, fun e => r1 (h2.trans e), fun e => r2 (h2.trans e)⟩
  · exact injOn_look h.inj n n' o o' h1 h2 (hi.inj _ _ _ _ (memLe_look h.mem n o h1).1 (memLe_look h.mem n' o' h2).1 e)
  · exact den_ren av (hs.2 s _ (slotsLe_look h.slots s av e))
end
end Go.Eng
