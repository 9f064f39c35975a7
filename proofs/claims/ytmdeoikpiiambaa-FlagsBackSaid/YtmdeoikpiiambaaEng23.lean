/- The engine, part 23: what is held fast is read only from then on. Own work. -/
import Derived.Test.YtmdeoikpiiambaaEng20
set_option linter.unusedVariables false
set_option linter.unusedSimpArgs false
namespace Go.Eng
open Go

mutual
/-- a slice of the object that is held fast, as read-only; nil, as one of nothing -/
def fzA (o : Option (Nat × List AV)) : AV → AV
  | .sl k off len cap => match o with
    | some (n, l) => if k = n then .ro len ((l.drop off).take len) else .sl k off len cap
    | none => .sl k off len cap
  | .nils => .ro 0 []
  | .agg xs => .agg (fzL o xs)
  | .tup xs => .tup (fzL o xs)
  | v => v
def fzL (o : Option (Nat × List AV)) : List AV → List AV
  | [] => []
  | x :: r => fzA o x :: fzL o r
end
section
variable {P : Program} {w0 w : World} {FP : Nat → Prop} {wr rd : Nat → Bool} {m : Mem} {nx : Nat} {H : RO} {B : Names} {N : Nat} {t : Slots} {a : Act}
mutual
theorem fz_den {H H' : RO} {B : Names} (x : Ext H B H' B) {o : Option (Nat × List AV)} (hsl : ∀ k off len cap u, Den H B (.sl k off len cap) u → Den H' B (fzA o (.sl k off len cap)) u) : ∀ (v : AV) {u : Value}, Den H B v u → Den H' B (fzA o v) u
  | .sl k off len cap, u, h => hsl _ _ _ _ _ h
  | .nils, u, h => by
    simp only [Den] at h
    simp only [fzA, Den]
    exact ⟨none, 0, h, Nat.le_refl _, by simp only [DenAt]⟩
  | .agg xs, u, h => by
    simp only [Den, fzA] at h ⊢
    obtain ⟨cs, e, h⟩ := h
    exact ⟨cs, e, fz_denL x hsl xs h⟩
  | .tup xs, u, h => by
    simp only [Den, fzA] at h ⊢
    obtain ⟨cs, e, h⟩ := h
    exact ⟨cs, e, fz_denL x hsl xs h⟩
  | .bool b, u, h => by simpa only [fzA] using h.mono x
  | .int k n, u, h => by simpa only [fzA] using h.mono x
  | .str s, u, h => by simpa only [fzA] using h.mono x
  | .ptr n o, u, h => by simpa only [fzA] using h.mono x
  | .nilp, u, h => by simpa only [fzA] using h.mono x
  | .ro l xs, u, h => by simpa only [fzA] using h.mono x
  | .rop xs, u, h => by simpa only [fzA] using h.mono x
  | .fn f a b, u, h => by simpa only [fzA] using h.mono x
  | .nilf, u, h => by simpa only [fzA] using h.mono x
  | .map n, u, h => by simpa only [fzA] using h.mono x
  | .nilm, u, h => by simpa only [fzA] using h.mono x
  | .iface t v, u, h => by simpa only [fzA] using h.mono x
  | .nili, u, h => by simpa only [fzA] using h.mono x
  | .val v, u, h => by simpa only [fzA] using h.mono x
theorem fz_denL {H H' : RO} {B : Names} (x : Ext H B H' B) {o : Option (Nat × List AV)} (hsl : ∀ k off len cap u, Den H B (.sl k off len cap) u → Den H' B (fzA o (.sl k off len cap)) u) : ∀ (l : List AV) {us : List Value}, DenL H B l us → DenL H' B (fzL o l) us
  | [], us, h => by simpa only [fzL, DenL] using h
  | y :: r, us, h => by
    simp only [fzL, DenL] at h ⊢
    obtain ⟨v, s, e, h1, h2⟩ := h
    exact ⟨v, s, e, fz_den x hsl y h1, fz_denL x hsl r h2⟩
end
theorem Inv.congr (h : Inv w0 FP wr m nx H B w) {m' : Mem} (hm : ∀ k, look m' k = look m k) : Inv w0 FP wr m' nx H B w :=
  ⟨h.size, h.os, h.tape, h.out, h.frame, fun a v e => ⟨(h.ro a v e).1, fun n o hn => (h.ro a v e).2 n o (by rw [← hm]; exact hn)⟩, fun n o hn => h.obj n o (by rw [← hm]; exact hn),
    fun n n' o o' h1 h2 => h.inj n n' o o' (by rw [← hm]; exact h1) (by rw [← hm]; exact h2), h.fresh, h.wrn, fun n hn => by rw [hm]; exact h.keep n hn⟩
theorem Inv.bump (h : Inv w0 FP wr m nx H B w) : Inv w0 FP wr m (nx + 1) H B w :=
  ⟨h.size, h.os, h.tape, h.out, h.frame, h.ro, h.obj, h.inj, fun n hn => h.fresh n (by omega), fun n hn => h.wrn n (by omega), h.keep⟩
theorem freeze (hi : Inv w0 FP wr m nx H B w) {n : Nat} {l : List AV} {ty : TypeId} (hn : look m n = some (.cells l ty)) (hw : wr n = true) :
    ∃ H', Ext H B H' B ∧ Inv w0 FP wr (del m n) nx H' B w ∧ ∀ v u, Den H B v u → Den H' B (fzA (some (n, l)) v) u := by
  classical
  obtain ⟨b, cs, hb, hc, hdl⟩ := obj_cells hi hn
  let H' : RO := fun ad => if ad.block = b then w.cell? ad else H ad
  have hx : Ext H B H' B := ⟨fun ad v e => by
    show (if ad.block = b then w.cell? ad else H ad) = some v
    obtain ⟨g1, g2⟩ := hi.ro ad v e
    split
    · exact g1
    · exact e, fun _ _ e => e⟩
  have hdel : ∀ k o, look (del m n) k = some o → k ≠ n ∧ look m k = some o := fun k o e => by
    by_cases hk : n = k
    · subst hk; rw [look_del_same] at e; cases e
    · rw [look_del_other hk] at e; exact ⟨Ne.symm hk, e⟩
  refine ⟨H', hx, ⟨hi.size, hi.os, hi.tape, hi.out, hi.frame, fun ad v e => ?_, fun k o e => ?_, fun k k' o o' h1 h2 => hi.inj k k' o o' (hdel k o h1).2 (hdel k' o' h2).2, hi.fresh, hi.wrn, fun k hk => ?_⟩, fun v u hd => ?_⟩
  · have e' : (if ad.block = b then w.cell? ad else H ad) = some v := e
    split at e'
    · rename_i hab
      refine ⟨e', fun k o hk hkb => ?_⟩
      obtain ⟨hne, hko⟩ := hdel k o hk
      exact hne (hi.inj k n _ _ hko hn (by rw [hkb, hb, hab]))
    · obtain ⟨g1, g2⟩ := hi.ro ad v e'
      exact ⟨g1, fun k o hk => g2 k o (hdel k o hk).2⟩
  · obtain ⟨c, hc', ho, r⟩ := hi.obj k o (hdel k o e).2
    exact ⟨c, hc', ho.mono hx rfl, r⟩
  · have hkn : n ≠ k := fun e => by rw [← e, hw] at hk; cases hk
    obtain ⟨o, ho⟩ := hi.keep k hk
    exact ⟨o, by rw [look_del_other hkn]; exact ho⟩
  · refine fz_den hx (fun k off len cap u hd => ?_) v hd
    simp only [fzA]
    split
    · rename_i hk
      subst hk
      simp only [Den] at hd ⊢
      obtain ⟨b', ad, hb', rfl, hle, had⟩ := hd
      rw [hb] at hb'; cases hb'
      refine ⟨some ad, cap, rfl, hle, DenAt.of_get fun j x hj => ?_⟩
      have hjl : j < len := by have := (List.getElem?_eq_some_iff.1 hj).1; simp only [List.length_take] at this; omega
      rw [had (by omega)]
      rw [List.getElem?_take, if_pos hjl, List.getElem?_drop] at hj
      obtain ⟨u, hu, hdu⟩ := hdl.get _ x hj
      refine ⟨_, u, rfl, ?_, hdu.mono hx⟩
      show (if _ then _ else _) = _
      rw [Nat.zero_add, Addr.add_mid]
      rw [if_pos rfl, cell_at w hc]
      exact hu
    · exact hd.mono hx
/-- all slots, where an object is held fast -/
def fzS (o : Option (Nat × List AV)) : Slots → Slots
  | [] => []
  | (k, v) :: r => (k, fzA o v) :: fzS o r
theorem fzS_look (o : Option (Nat × List AV)) (t : Slots) (s : Nat) : look (fzS o t) s = (look t s).map (fzA o) := by
  induction t with
  | nil => rfl
  | cons p r ih =>
    obtain ⟨k, v⟩ := p
    simp only [fzS, look]
    split
    · rfl
    · exact ih
def delO (m : Mem) : Option (Nat × List AV) → Mem
  | none => m
  | some (n, _) => del m n
def LeF (nf : Nat) (wr : Nat → Bool) (t : Slots) (m : Mem) (nx : Nat) (t' : Slots) (m' : Mem) (nx' : Nat) : Prop :=
  (∃ l, Le nf l wr t m nx t' m' nx') ∨ ∃ o : Option (Nat × List AV), (∀ n l, o = some (n, l) → wr n = true ∧ ∃ ty, look m n = some (.cells l ty)) ∧ ∃ l, Le nf l wr (fzS o t) (delO m o) nx t' m' nx'
theorem LeF.ok {nf : Nat} {t' : Slots} {m' : Mem} {nx' : Nat} (h : LeF nf wr t m nx t' m' nx') (hi : Inv w0 FP wr m nx H B w) (hs : SlotsOk N H B t a) :
    ∃ H' B', (∀ ad v, H ad = some v → H' ad = some v) ∧ Inv w0 FP wr m' nx' H' B' w ∧ SlotsOk N H' B' t' a ∧ ExtN nf B B' := by
  rcases h with ⟨l, h⟩ | ⟨o, ho, l, h⟩
  · obtain ⟨h1, h2, h3⟩ := h.ok hi hs
    exact ⟨H, _, fun _ _ e => e, h1, h2, h3⟩
  · have key : ∃ H', Ext H B H' B ∧ Inv w0 FP wr (delO m o) nx H' B w ∧ ∀ v u, Den H B v u → Den H' B (fzA o v) u := by
      cases o with
      | none => exact ⟨H, Ext.refl _ _, hi, fun v u hd => fz_den (o := none) (Ext.refl _ _) (fun k off len cap u hd => by simpa only [fzA] using hd) v hd⟩
      | some p =>
        obtain ⟨n, l0⟩ := p
        obtain ⟨hw, ty, hn⟩ := ho n l0 rfl
        exact freeze hi hn hw
    obtain ⟨H', hx, hi', hd⟩ := key
    have hs' : SlotsOk N H' B (fzS o t) a := ⟨hs.1, fun s av e => by
      rw [fzS_look] at e
      obtain ⟨v, hv, rfl⟩ := Option.map_eq_some_iff.1 e
      exact hd _ _ (hs.2 s v hv)⟩
    obtain ⟨h1, h2, h3⟩ := h.ok hi' hs'
    exact ⟨H', _, hx.ro, h1, h2, h3⟩
end
end Go.Eng
