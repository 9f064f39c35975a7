/- The engine, part 17: what a call left is held fast, and read only from then on. Own work. -/
import Derived.Test.YtiibjaommelkkaaEng13
set_option linter.unusedVariables false
set_option linter.unusedSimpArgs false
namespace Go.Eng
open Go

mutual
/-- a slice of the object that is held fast, as read-only; nil, as one of nothing -/
def fzA (o : Option (Nat × List AV)) : AV → AV
  | .sl k off len cap => match o with
    | some (n, l) => if k = n then .ro len ((l.drop off).take len) else .sl k off len cap
    | none => .sl k off len cap
  | .nils => .ro 0 []
  | .agg xs => .agg (fzL o xs)
  | .tup xs => .tup (fzL o xs)
  | v => v
def fzL (o : Option (Nat × List AV)) : List AV → List AV
  | [] => []
  | x :: r => fzA o x :: fzL o r
end
section
variable {P : Program} {w0 w : World} {FP : Nat → Prop} {wr rd : Nat → Bool} {m : Mem} {nx : Nat} {H : RO} {B : Names} {N : Nat} {t : Slots} {a : Act}
mutual
theorem fz_den {H H' : RO} {B : Names} (x : Ext H B H' B) {o : Option (Nat × List AV)} (hsl : ∀ k off len cap u, Den H B (.sl k off len cap) u → Den H' B (fzA o (.sl k off len cap)) u) : ∀ (v : AV) {u : Value}, Den H B v u → Den H' B (fzA o v) u
  | .sl k off len cap, u, h => hsl _ _ _ _ _ h
  | .nils, u, h => by
    simp only [Den] at h
    simp only [fzA, Den]
    exact ⟨none, 0, h, Nat.le_refl _, by simp only [DenAt]⟩
  | .agg xs, u, h => by
    simp only [Den, fzA] at h ⊢
    obtain ⟨cs, e, h⟩ := h
    exact ⟨cs, e, fz_denL x hsl xs h⟩
  | .tup xs, u, h => by
    simp only [Den, fzA] at h ⊢
    obtain ⟨cs, e, h⟩ := h
    exact ⟨cs, e, fz_denL x hsl xs h⟩
  | .bool b, u, h => by simpa only [fzA] using h.mono x
  | .int k n, u, h => by simpa only [fzA] using h.mono x
  | .str s, u, h => by simpa only [fzA] using h.mono x
  | .ptr n o, u, h => by simpa only [fzA] using h.mono x
  | .nilp, u, h => by simpa only [fzA] using h.mono x
  | .ro l xs, u, h => by simpa only [fzA] using h.mono x
  | .rop xs, u, h => by simpa only [fzA] using h.mono x
  | .fn f a b, u, h => by simpa only [fzA] using h.mono x
  | .nilf, u, h => by simpa only [fzA] using h.mono x
  | .map n, u, h => by simpa only [fzA] using h.mono x
  | .nilm, u, h => by simpa only [fzA] using h.mono x
  | .iface t v, u, h => by simpa only [fzA] using h.mono x
  | .nili, u, h => by simpa only [fzA] using h.mono x
  | .val v, u, h => by simpa only [fzA] using h.mono x
theorem fz_denL {H H' : RO} {B : Names} (x : Ext H B H' B) {o : Option (Nat × List AV)} (hsl : ∀ k off len cap u, Den H B (.sl k off len cap) u → Den H' B (fzA o (.sl k off len cap)) u) : ∀ (l : List AV) {us : List Value}, DenL H B l us → DenL H' B (fzL o l) us
  | [], us, h => by simpa only [fzL, DenL] using h
  | y :: r, us, h => by
    simp only [fzL, DenL] at h ⊢
    obtain ⟨v, s, e, h1, h2⟩ := h
    exact ⟨v, s, e, fz_den x hsl y h1, fz_denL x hsl r h2⟩
end
theorem Inv.congr (h : Inv w0 FP wr m nx H B w) {m' : Mem} (hm : ∀ k, look m' k = look m k) : Inv w0 FP wr m' nx H B w :=
  ⟨h.size, h.os, h.tape, h.out, h.frame, fun a v e => ⟨(h.ro a v e).1, fun n o hn => (h.ro a v e).2 n o (by rw [← hm]; exact hn)⟩, fun n o hn => h.obj n o (by rw [← hm]; exact hn),
    fun n n' o o' h1 h2 => h.inj n n' o o' (by rw [← hm]; exact h1) (by rw [← hm]; exact h2), h.fresh, h.wrn, fun n hn => by rw [hm]; exact h.keep n hn⟩
theorem Inv.bump (h : Inv w0 FP wr m nx H B w) : Inv w0 FP wr m (nx + 1) H B w :=
  ⟨h.size, h.os, h.tape, h.out, h.frame, h.ro, h.obj, h.inj, fun n hn => h.fresh n (by omega), fun n hn => h.wrn n (by omega), h.keep⟩
theorem freeze (hi : Inv w0 FP wr m nx H B w) {n : Nat} {l : List AV} {ty : TypeId} (hn : look m n = some (.cells l ty)) (hw : wr n = true) :
    ∃ H', Ext H B H' B ∧ Inv w0 FP wr (del m n) nx H' B w ∧ ∀ v u, Den H B v u → Den H' B (fzA (some (n, l)) v) u := by
  classical
  obtain ⟨b, cs, hb, hc, hdl⟩ := obj_cells hi hn
  let H' : RO := fun ad => if ad.block = b then w.cell? ad else H ad
  have hx : Ext H B H' B := ⟨fun ad v e => by
    show (if ad.block = b then w.cell? ad else H ad) = some v
    obtain ⟨g1, g2⟩ := hi.ro ad v e
    split
    · exact g1
    · exact e, fun _ _ e => e⟩
  have hdel : ∀ k o, look (del m n) k = some o → k ≠ n ∧ look m k = some o := fun k o e => by
    by_cases hk : n = k
    · subst hk; rw [look_del_same] at e; cases e
    · rw [look_del_other hk] at e; exact ⟨Ne.symm hk, e⟩
  refine ⟨H', hx, ⟨hi.size, hi.os, hi.tape, hi.out, hi.frame, fun ad v e => ?_, fun k o e => ?_, fun k k' o o' h1 h2 => hi.inj k k' o o' (hdel k o h1).2 (hdel k' o' h2).2, hi.fresh, hi.wrn, fun k hk => ?_⟩, fun v u hd => ?_⟩
  · have e' : (if ad.block = b then w.cell? ad else H ad) = some v := e
    split at e'
    · rename_i hab
      refine ⟨e', fun k o hk hkb => ?_⟩
      obtain ⟨hne, hko⟩ := hdel k o hk
      exact hne (hi.inj k n _ _ hko hn (by rw [hkb, hb, hab]))
    · obtain ⟨g1, g2⟩ := hi.ro ad v e'
      exact ⟨g1, fun k o hk => g2 k o (hdel k o hk).2⟩
  · obtain ⟨c, hc', ho, r⟩ := hi.obj k o (hdel k o e).2
    exact ⟨c, hc', ho.mono hx rfl, r⟩
  · have hkn : n ≠ k := fun e => by rw [← e, hw] at hk; cases hk
    obtain ⟨o, ho⟩ := hi.keep k hk
    exact ⟨o, by rw [look_del_other hkn]; exact ho⟩
  · refine fz_den hx (fun k off len cap u hd => ?_) v hd
    simp only [fzA]
    split
    · rename_i hk
      subst hk
      simp only [Den] at hd ⊢
      obtain ⟨b', ad, hb', rfl, hle, had⟩ := hd
      rw [hb] at hb'; cases hb'
      refine ⟨some ad, cap, rfl, hle, DenAt.of_get fun j x hj => ?_⟩
      have hjl : j < len := by have := (List.getElem?_eq_some_iff.1 hj).1; simp only [List.length_take] at this; omega
      rw [had (by omega)]
      rw [List.getElem?_take, if_pos hjl, List.getElem?_drop] at hj
      obtain ⟨u, hu, hdu⟩ := hdl.get _ x hj
      refine ⟨_, u, rfl, ?_, hdu.mono hx⟩
      show (if _ then _ else _) = _
      rw [Nat.zero_add, Addr.add_mid]
      rw [if_pos rfl, cell_at w hc]
      exact hu
    · exact hd.mono hx
/-- a call whose result is held fast -/
theorem CallOk.ro1 {g : FuncId} {args0 args : List AV} {K R : Kv} (h : CallOk P g args0 (fun _ => true) [] 0 R) (ha : argsx m [] (rf [] nx 0) args args0) {V : AV}
    (hR : ∀ v m' nx', R v m' nx' → noRo v = true ∧ noRoM m' = true ∧ ((m' = [] ∧ nx' = 0 ∧ fzA none (renA (fun n => n + nx) v) = V) ∨
      ∃ l ty, m' = [(0, .cells l ty)] ∧ nx' = 1 ∧ fzA (some (nx, renL (fun n => n + nx) l)) (renA (fun n => n + nx) v) = V)) (hK : K V m (nx + 1)) : CallG true P g args wr m nx K := by
  intro w0 FP H B w vs hi hd
  have h1 : CallG false P g args wr m nx fun v m' nx' => (m' = m ∧ nx' = nx ∧ fzA none v = V) ∨ ∃ l ty, m' = (nx, .cells l ty) :: m ∧ nx' = nx + 1 ∧ fzA (some (nx, l)) v = V := by
    refine h.more ha fun v m' nx' hr => ?_
    obtain ⟨g1, g2, g3⟩ := hR v m' nx' hr
    refine ⟨g1, g2, ?_⟩
    rcases g3 with ⟨rfl, rfl, e⟩ | ⟨l, ty, rfl, rfl, e⟩
    · exact .inl ⟨rfl, rfl, e⟩
    · refine .inr ⟨_, ty, ?_, rfl, e⟩
      simp only [renM, renO, Nat.zero_add, List.cons_append, List.nil_append]
  refine (h1 w0 FP H B w vs hi hd).mono fun e w' he => ?_
  obtain ⟨v, av, m', nx', B', H', rfl, hH, hi', hx', hdv, hr⟩ := he
  rcases hr with ⟨rfl, rfl, e⟩ | ⟨l, ty, rfl, rfl, e⟩
  · refine ⟨v, V, m', nx' + 1, B', H', rfl, (fun h => by cases h), hi'.bump, hx', ?_, hK⟩
    rw [← e]
    exact fz_den (o := none) (Ext.refl _ _) (fun k off len cap u hd => by simpa only [fzA] using hd) av hdv
  · obtain ⟨H2, hx2, hi2, hd2⟩ := freeze hi' (n := nx) (l := l) (ty := ty) (by simp [look]) (hi.wrn nx (Nat.le_refl _))
    refine ⟨v, V, m, nx + 1, B', H2, rfl, (fun h => by cases h), hi2.congr fun k => ?_, hx'.trans hx2, ?_, hK⟩
    · by_cases hk : nx = k
      · subst hk
        rw [look_del_same]
        cases hl : look m nx with
        | none => rfl
        | some o => have := hi.lt_nx hl; omega
      · rw [look_del_other hk]
        simp only [look, if_neg hk]
    · rw [← e]; exact hd2 av v hdv
/-- words that are answered: nil, or a slice at its row's begin -/
def Rets (F : AV → AV) (k : IntKind) {w : Nat} (x : List (BitVec w)) (ty : TypeId) : Kv := fun v m nx =>
  (x = [] ∧ v = F .nils ∧ m = [] ∧ nx = 0) ∨ ∃ (cap : Nat) (sp : List Value), v = F (.sl 0 0 x.length cap) ∧ m = [(0, .cells (bvs k x ++ sp.map AV.val) ty)] ∧ nx = 1
theorem CallOk.bytes {F : AV → AV} {k : IntKind} {w : Nat} {x : List (BitVec w)} {ty : TypeId} {g : FuncId} {args0 args : List AV} {K : Kv} (h : CallOk P g args0 (fun _ => true) [] 0 (Rets F k x ty)) (ha : argsx m [] (rf [] nx 0) args args0)
    (hF1 : ∀ o s, fzA o (F s) = F (fzA o s)) (hF2 : ∀ f s, renA f (F s) = F (renA f s)) (hF3 : ∀ s, noRo (F s) = noRo s)
    (hK : K (F (.ro x.length (bvs k x))) m (nx + 1)) : CallG true P g args wr m nx K := by
  refine h.ro1 ha (V := F (.ro x.length (bvs k x))) ?_ hK
  rintro v m' nx' (⟨rfl, rfl, rfl, rfl⟩ | ⟨cap, sp, rfl, rfl, rfl⟩)
  · exact ⟨by rw [hF3]; rfl, rfl, .inl ⟨rfl, rfl, by rw [hF2, hF1]; rfl⟩⟩
  · refine ⟨by rw [hF3]; rfl, by simp only [noRoM, noRoO, noRoL_vals', Bool.and_self], .inr ⟨_, ty, rfl, rfl, ?_⟩⟩
    rw [hF2, hF1]
    simp only [renA, fzA, Nat.zero_add, if_true, renL_vals', List.drop_zero]
    rw [List.take_append_of_le_length (by rw [bvs_length]; exact Nat.le_refl _), bvs_take, List.take_length]
end
end Go.Eng
