/- The engine, part 21: a part of an object that a call does not look at. Own work. -/
import Derived.Test.YtmdeoikpiiambaaEng17
set_option linter.unusedVariables false
set_option linter.unusedSimpArgs false
namespace Go.Eng
open Go

section
variable {P : Program} {w0 w : World} {FP : Nat → Prop} {wr rd : Nat → Bool} {m : Mem} {nx : Nat} {H : RO} {B : Names}
/-- an object told otherwise -/
theorem Inv.swap (h : Inv w0 FP wr m nx H B w) {n : Nat} {o : AObj} (hn : look m n = some o) (o' : AObj) (ho : ∀ b, B n = some b → HoldsO H B w b o → HoldsO H B w b o') : Inv w0 FP wr (upd m n o') nx H B w := by
  have hlk : ∀ k p, look (upd m n o') k = some p → ∃ q, look m k = some q := fun k p e => by
    by_cases hk : n = k
    · subst hk; exact ⟨o, hn⟩
    · rw [look_upd_other o' hk] at e; exact ⟨p, e⟩
  refine ⟨h.size, h.os, h.tape, h.out, h.frame, fun a v e => ⟨(h.ro a v e).1, fun k p hk => ?_⟩, fun k p hk => ?_, fun k k' p p' h1 h2 => ?_, h.fresh, h.wrn, fun k hk => ?_⟩
  · obtain ⟨q, hq⟩ := hlk k p hk
    exact (h.ro a v e).2 k q hq
  · by_cases hkn : n = k
    · subst hkn
      rw [look_upd_same o' hn] at hk
      cases hk
      obtain ⟨b, hb, hho, r⟩ := h.obj n o hn
      exact ⟨b, hb, ho b hb hho, r⟩
    · rw [look_upd_other o' hkn] at hk
      exact h.obj k p hk
  · obtain ⟨q, hq⟩ := hlk k p h1
    obtain ⟨q', hq'⟩ := hlk k' p' h2
    exact h.inj k k' q q' hq hq'
  · obtain ⟨q, hq⟩ := h.keep k hk
    by_cases hkn : n = k
    · subst hkn; exact ⟨o', look_upd_same o' hn⟩
    · exact ⟨q, by rw [look_upd_other o' hkn]; exact hq⟩
theorem denL_split : ∀ {A T : List AV} {cs : List Value}, DenL H B (A ++ T) cs → ∃ c1 c2, cs = c1 ++ c2 ∧ DenL H B A c1 ∧ DenL H B T c2
  | [], T, cs, h => ⟨[], cs, rfl, by simp only [DenL], h⟩
  | x :: r, T, cs, h => by
    simp only [List.cons_append, DenL] at h
    obtain ⟨v, s, rfl, h1, h2⟩ := h
    obtain ⟨c1, c2, rfl, g1, g2⟩ := denL_split h2
    exact ⟨v :: c1, c2, rfl, by simp only [DenL]; exact ⟨v, c1, rfl, h1, g1⟩, g2⟩
theorem vals_den : ∀ {us cs : List Value}, DenL H B (us.map AV.val) cs → cs = us
  | [], cs, h => by simpa only [List.map_nil, DenL] using h
  | u :: r, cs, h => by
    simp only [List.map_cons, DenL, Den] at h
    obtain ⟨v, s, rfl, rfl, h2⟩ := h
    rw [vals_den h2]
/-- a call that leaves the object's last cells as they are -/
theorem CallG.hide {fz : Bool} {g : FuncId} {args : List AV} {n ty : Nat} {A T : List AV} {K : Kv} (hn : look m n = some (.cells (A ++ T) ty))
    (h : ∀ us : List Value, us.length = T.length → CallG fz P g args wr (upd m n (.cells (A ++ us.map AV.val) ty)) nx fun v m' nx' => ∃ A', look m' n = some (.cells (A' ++ us.map AV.val) ty) ∧ K v (upd m' n (.cells (A' ++ T) ty)) nx') :
    CallG fz P g args wr m nx K := by
  intro w0 FP H B w vs hi hd
  obtain ⟨b, cs, hb, hc, hdl⟩ := obj_cells hi hn
  obtain ⟨c1, us, rfl, hA, hT⟩ := denL_split hdl
  have hi' : Inv w0 FP wr (upd m n (.cells (A ++ us.map AV.val) ty)) nx H B w := hi.swap hn _ fun b' hb' _ => by
    rw [hb] at hb'; cases hb'
    exact ⟨c1 ++ us, hc, hA.append (denL_val H B us)⟩
  refine (h us (by rw [← hT.length]) w0 FP H B w vs hi' hd).mono fun e w' he => ?_
  obtain ⟨v, av, m', nx', B', H', rfl, hH, hi2, hx, hdv, A', hn2, hK⟩ := he
  refine ⟨v, av, _, nx', B', H', rfl, hH, hi2.swap hn2 (.cells (A' ++ T) ty) fun b2 hb2 ho => ?_, hx, hdv, hK⟩
  obtain ⟨cs2, hc2, hd2⟩ := ho
  obtain ⟨d1, d2, rfl, hA2, hT2⟩ := denL_split hd2
  rw [vals_den hT2]  at hc2
  exact ⟨d1 ++ us, hc2, hA2.append (hT.mono hx)⟩
end
end Go.Eng
