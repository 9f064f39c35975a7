/- The engine, part 27: contracts whose memory holds what is read only. Own work. -/
import Derived.Test.YtmdeoikpiiambaaEng10
set_option linter.unusedVariables false
set_option linter.unusedSimpArgs false
namespace Go.Eng
open Go

mutual
theorem den_fwd {H : RO} {B B' : Names} {f : Nat → Nat} (hb : ∀ n b, B' n = some b → B (f n) = some b) : ∀ (a : AV) {v : Value}, Den H B' a v → Den H B (renA f a) v
  | .ptr n o, v, h => by
    simp only [renA, Den] at h ⊢
    obtain ⟨b, h1, e⟩ := h
    exact ⟨b, hb _ _ h1, e⟩
  | .sl n o l c, v, h => by
    simp only [renA, Den] at h ⊢
    obtain ⟨b, a, h1, e⟩ := h
    exact ⟨b, a, hb _ _ h1, e⟩
  | .map n, v, h => by
    simp only [renA, Den] at h ⊢
    obtain ⟨b, h1, e⟩ := h
    exact ⟨b, hb _ _ h1, e⟩
  | .ro l xs, v, h => by
    simp only [renA, Den] at h ⊢
    obtain ⟨A, c, e, h1, h2⟩ := h
    exact ⟨A, c, e, h1, denAt_fwd hb xs h2⟩
  | .rop xs, v, h => by
    simp only [renA, Den] at h ⊢
    obtain ⟨a, e, h2⟩ := h
    exact ⟨a, e, denAt_fwd hb xs h2⟩
  | .fn g fi ca, v, h => by
    simp only [renA, Den] at h ⊢
    obtain ⟨x, y, e, h1, h2⟩ := h
    exact ⟨x, y, e, denL_fwd hb fi h1, denL_fwd hb ca h2⟩
  | .iface t x, v, h => by
    simp only [renA, Den] at h ⊢
    obtain ⟨y, e, h1⟩ := h
    exact ⟨y, e, den_fwd hb x h1⟩
  | .agg l, v, h => by
    simp only [renA, Den] at h ⊢
    obtain ⟨y, e, h1⟩ := h
    exact ⟨y, e, denL_fwd hb l h1⟩
  | .tup l, v, h => by
    simp only [renA, Den] at h ⊢
    obtain ⟨y, e, h1⟩ := h
    exact ⟨y, e, denL_fwd hb l h1⟩
  | .bool b, v, h => by simpa only [renA, Den] using h
  | .int k n, v, h => by simpa only [renA, Den] using h
  | .str s, v, h => by simpa only [renA, Den] using h
  | .nilp, v, h => by simpa only [renA, Den] using h
  | .nils, v, h => by simpa only [renA, Den] using h
  | .nilf, v, h => by simpa only [renA, Den] using h
  | .nilm, v, h => by simpa only [renA, Den] using h
  | .nili, v, h => by simpa only [renA, Den] using h
  | .val u, v, h => by simpa only [renA, Den] using h
theorem denL_fwd {H : RO} {B B' : Names} {f : Nat → Nat} (hb : ∀ n b, B' n = some b → B (f n) = some b) : ∀ (l : List AV) {vs : List Value}, DenL H B' l vs → DenL H B (renL f l) vs
  | [], vs, h => by simpa only [renL, DenL] using h
  | x :: r, vs, h => by
    simp only [renL, DenL] at h ⊢
    obtain ⟨v, s, e, h1, h2⟩ := h
    exact ⟨v, s, e, den_fwd hb x h1, denL_fwd hb r h2⟩
theorem denAt_fwd {H : RO} {B B' : Names} {f : Nat → Nat} (hb : ∀ n b, B' n = some b → B (f n) = some b) {A : Option Addr} : ∀ (l : List AV) {i : Nat}, DenAt H B' A i l → DenAt H B A i (renL f l)
  | [], i, h => by simp only [renL, DenAt]
  | x :: r, i, h => by
    simp only [renL, DenAt] at h ⊢
    obtain ⟨⟨a, v, e, h0, h1⟩, h2⟩ := h
    exact ⟨⟨a, v, e, h0, den_fwd hb x h1⟩, denAt_fwd hb r h2⟩
end
theorem holds_fwd {H : RO} {B B' : Names} {f : Nat → Nat} (hb : ∀ n b, B' n = some b → B (f n) = some b) {w : World} {b : Nat} : ∀ {o : AObj}, HoldsO H B' w b o → HoldsO H B w b (renO f o)
  | .cells l ty, ⟨cs, h1, h2⟩ => ⟨cs, h1, denL_fwd hb l h2⟩
  | .opq o, h => h
  | .fz l ty, ⟨cs, fr, h1, h2⟩ => ⟨cs, fr, h1, denL_fwd hb l h2⟩
  | .mp k keys vals, ⟨ms, c, h1, h2, h3⟩ => ⟨ms, c, h1, h2, denL_fwd hb vals h3⟩
  | .mx kd keys vals born, ⟨ms, c, h1, h2, h3, h4, h5, h6, h7⟩ => ⟨ms, c, h1, h2, h3, h4, h5, h6, denL_fwd hb vals h7⟩
section
variable {P : Program} {w0 w : World} {FP : Nat → Prop} {wr rd : Nat → Bool} {m : Mem} {nx : Nat} {H : RO} {B : Names} {N : Nat} {t : Slots} {a : Act}
/-- a contract that holds nothing fast, met with just its own arguments: what is read only may stay in it -/
theorem CallG.useE {fz : Bool} {g : FuncId} {args0 : List AV} {wr0 : Nat → Bool} {m0 : Mem} {nx0 : Nat} {R : Kv} (h : CallG false P g args0 wr0 m0 nx0 R) (l : List (Nat × Nat)) {args : List AV} {K : Kv}
    (hk : l.all (fun p => decide (p.1 < nx0)) = true) (hm : callLe (rf l nx nx0) wr wr0 m m0) (hinj : injOn (rf l nx nx0) m0) (hall : (List.range nx0).all (fun n => (look m0 n).isSome) = true) (hwr0 : ∀ n, nx0 ≤ n → wr0 n = true)
    (hkeep0 : ∀ n, wr0 n = false → (look m0 n).isSome = true) (ha : args = renL (rf l nx nx0) args0)
    (hK : ∀ v m' nx', R v m' nx' → nx0 ≤ nx' ∧ K (renA (rf l nx nx0) v) (renM (rf l nx nx0) m' ++ delAll m (m0.map fun p => rf l nx nx0 p.1)) (nx + (nx' - nx0))) : CallG fz P g args wr m nx K := by
  intro w0 FP H B w vs hi hd
  generalize hfd : rf l nx nx0 = f at *
  have hlive : ∀ n, n < nx0 → ∃ o, look m0 n = some o := fun n hn => Option.isSome_iff_exists.1 (List.all_eq_true.1 hall n (List.mem_range.2 hn))
  have hflt : ∀ n, n < nx0 → f n < nx := fun n hn => by
    obtain ⟨o, ho⟩ := hlive n hn
    exact hi.lt_nx (callLe_look hm n o ho).1
  have hfge : ∀ n, nx0 ≤ n → f n = n - nx0 + nx := fun n hn => by
    rw [← hfd]
    have hl : look l n = none := by
      induction l with
      | nil => rfl
      | cons x r ih =>
        obtain ⟨k, y⟩ := x
        simp only [List.all_cons, Bool.and_eq_true, decide_eq_true_eq] at hk
        have hr : ∀ {l : List (Nat × Nat)}, l.all (fun p => decide (p.1 < nx0)) = true → look l n = none := by
          intro l hl
          induction l with
          | nil => rfl
          | cons x r ih =>
            obtain ⟨k, y⟩ := x
            simp only [List.all_cons, Bool.and_eq_true, decide_eq_true_eq] at hl
            simp only [look]
            rw [if_neg (by omega)]
            exact ih hl.2
        simp only [look]
        rw [if_neg (by omega)]
        exact hr hk.2
    unfold rf
    rw [hl]
    simp only
    rw [if_neg (by omega)]
  have hfinj : ∀ a b, f a = f b → a = b := fun a b e => by
    rcases Nat.lt_or_ge a nx0 with ha' | ha' <;> rcases Nat.lt_or_ge b nx0 with hb' | hb'
    · obtain ⟨o1, h1⟩ := hlive a ha'
      obtain ⟨o2, h2⟩ := hlive b hb'
      exact injOn_look hinj a b o1 o2 h1 h2 e
    · have := hflt a ha'; rw [e, hfge b hb'] at this; omega
    · have := hflt b hb'; rw [← e, hfge a ha'] at this; omega
    · rw [hfge a ha', hfge b hb'] at e; omega
  -- the callee's view
  let FP0 : Nat → Prop := fun b => ∃ n o, look m0 n = some o ∧ wr0 n = true ∧ B (f n) = some b
  have hi0 : Inv w FP0 wr0 m0 nx0 H (fun n => B (f n)) w := by
    refine ⟨Nat.le_refl _, rfl, rfl, rfl, fun _ _ _ => rfl, fun ad v e => ⟨(hi.ro ad v e).1, fun n o hn => (hi.ro ad v e).2 _ _ (callLe_look hm n o hn).1⟩, fun n o hn => ?_, fun n n' o o' h1 h2 e => ?_, fun n hn => ?_, hwr0, fun n hn => Option.isSome_iff_exists.1 (hkeep0 n hn)⟩
    · obtain ⟨h1, h2⟩ := callLe_look hm n o hn
      obtain ⟨b, hb, ho, hl, r1, r2⟩ := hi.obj _ _ h1
      refine ⟨b, hb, holds_ren ho, hl, fun e => .inl ⟨n, o, hn, e, hb⟩, fun e => ⟨hl, ?_⟩⟩
      rintro ⟨n', o', hn', hw', hb'⟩
      have := hi.inj _ _ _ _ h1 (callLe_look hm n' o' hn').1 (by rw [hb, hb'])
      have := hfinj _ _ this
      subst this
      rw [hw'] at e; cases e
    · exact hfinj _ _ (hi.inj _ _ _ _ (callLe_look hm n o h1).1 (callLe_look hm n' o' h2).1 e)
    · exact hi.fresh _ (by rw [hfge n hn]; omega)
  have hownr : ∀ k, (m0.map fun p => f p.1).contains k = false → ∀ n o, look m0 n = some o → f n ≠ k := fun k hk n o hn e => by
    have : k ∈ m0.map fun p => f p.1 := by
      rw [← e]
      clear hk hm hinj hall hkeep0 h ha hK hlive hflt hfinj hi0 hwr0
      induction m0 with
      | nil => cases hn
      | cons p r ih =>
        obtain ⟨k', o'⟩ := p
        simp only [look] at hn
        split at hn
        · rename_i e'; subst e'; simp
        · simp only [List.map_cons, List.mem_cons]; exact .inr (ih hn)
    rw [List.contains_iff_mem.2 this] at hk; cases hk
  have hd0 : DenL H (fun n => B (f n)) args0 vs := denL_ren args0 (by rw [← ha]; exact hd)
  refine (h w FP0 H (fun n => B (f n)) w vs hi0 hd0).mono fun e w' he => ?_
  obtain ⟨v, av, m', nx', B', H0', rfl, hz, hi', hx', hdv, hR⟩ := he
  obtain rfl : H0' = H := hz rfl
  obtain ⟨hle, hk2⟩ := hK av m' nx' hR
  let B2 : Names := fun k => if k < nx then B k else B' (k - nx + nx0)
  have hb2 : ∀ n b, B' n = some b → B2 (f n) = some b := fun n b hb => by
    show (if f n < nx then B (f n) else B' (f n - nx + nx0)) = some b
    rcases Nat.lt_or_ge n nx0 with hn | hn
    · rw [if_pos (hflt n hn)]
      obtain ⟨o, ho⟩ := hlive n hn
      obtain ⟨c, hc, _⟩ := hi.obj _ _ (callLe_look hm n o ho).1
      have := hx'.nm n c hc
      rw [hb] at this; cases this
      exact hc
    · rw [hfge n hn, if_neg (by omega), show n - nx0 + nx - nx + nx0 = n by omega]
      exact hb
  have hx2 : Ext H0' B H0' B2 := ⟨fun _ _ e => e, fun k b hb => by
    have : k < nx := by
      rcases Nat.lt_or_ge k nx with h' | h'
      · exact h'
      · rw [hi.fresh k h'] at hb; cases hb
    show (if k < nx then B k else B' (k - nx + nx0)) = some b
    rw [if_pos this]; exact hb⟩
  have hFP0 : ∀ b, FP0 b → FP b ∨ w0.heap.size ≤ b := by
    rintro b ⟨n, o, hn, hw, hb⟩
    obtain ⟨h1, h2⟩ := callLe_look hm n o hn
    obtain ⟨c, hc, _, _, r, _⟩ := hi.obj _ _ h1
    rw [hb] at hc; cases hc
    exact r (h2 hw)
  have hnew : ∀ b, FP0 b ∨ w.heap.size ≤ b → FP b ∨ w0.heap.size ≤ b := fun b h => h.elim (hFP0 b) (fun h => .inr (Nat.le_trans hi.size h))
  -- what a name of the new memory stands for
  have hsplit : ∀ k o, look (renM f m' ++ delAll m (m0.map fun p => f p.1)) k = some o → (∃ n o', k = f n ∧ look m' n = some o' ∧ o = renO f o') ∨ (look m k = some o ∧ k ∉ (m0.map fun p => f p.1)) := fun k o hk => by
    rw [look_append] at hk
    cases h1 : look (renM f m') k with
    | some o1 =>
      rw [h1] at hk; cases hk
      obtain ⟨n, rfl⟩ := look_renM_some h1
      rw [look_renM hfinj] at h1
      obtain ⟨o', ho', e⟩ := Option.map_eq_some_iff.1 h1
      exact .inl ⟨n, o', rfl, ho', e.symm⟩
    | none =>
      rw [h1] at hk
      exact .inr (look_delAll hk)
  have hBf : ∀ n o', look m' n = some o' → ∃ b, B' n = some b ∧ B2 (f n) = some b := fun n o' hn => by
    obtain ⟨b, hb, _⟩ := hi'.obj n o' hn
    exact ⟨b, hb, hb2 n b hb⟩
  have hold : ∀ k o, look m k = some o → B2 k = B k := fun k o hk => by
    show (if k < nx then B k else B' (k - nx + nx0)) = B k
    rw [if_pos (hi.lt_nx hk)]
  -- a block of the caller's that the callee was not handed
  have hapart : ∀ k o b, look m k = some o → k ∉ (m0.map fun p => f p.1) → B k = some b → b < w.heap.size ∧ ¬ FP0 b := fun k o b hk hkn hb => by
    obtain ⟨c, hc, _, hl, _⟩ := hi.obj k o hk
    rw [hb] at hc; cases hc
    refine ⟨hl, ?_⟩
    rintro ⟨n, o', hn, _, hb'⟩
    have := hi.inj _ _ _ _ (callLe_look hm n o' hn).1 hk (by rw [hb', hb])
    have hc : (m0.map fun p => f p.1).contains k = false := by
      cases h : (m0.map fun p => f p.1).contains k with
      | false => rfl
      | true => exact absurd (List.contains_iff_mem.1 h) hkn
    exact hownr k hc n o' hn this
  refine ⟨v, renA f av, _, _, B2, _, rfl, fun _ => rfl, ?_, hx2, den_fwd hb2 av hdv, hk2⟩
  refine ⟨Nat.le_trans hi.size hi'.size, hi'.os.trans hi.os, hi'.tape.trans hi.tape, hi'.out.trans hi.out, fun b hb hf => ?_, fun ad u e => ⟨(hi'.ro ad u e).1, fun k o hk => ?_⟩, fun k o hk => ?_, fun k k' o o' h1 h2 e => ?_, fun k hk => ?_, fun k hk => hi.wrn k (by omega), fun k hk => ?_⟩
  · rw [hi'.frame b (Nat.lt_of_lt_of_le hb hi.size) (fun h => by rcases hFP0 b h with h' | h'; exact hf h'; omega)]
    exact hi.frame b hb hf
  · rcases hsplit k o hk with ⟨n, o', rfl, hn, rfl⟩ | ⟨hk', _⟩
    · obtain ⟨b, hb, hb'⟩ := hBf n o' hn
      rw [hb', ← hb]
      exact (hi'.ro ad u e).2 n o' hn
    · rw [hold k o hk']
      exact (hi.ro ad u e).2 k o hk'
  · rcases hsplit k o hk with ⟨n, o', rfl, hn, rfl⟩ | ⟨hk', hkn⟩
    · obtain ⟨b, hb, ho, hl, r1, r2⟩ := hi'.obj n o' hn
      refine ⟨b, hb2 n b hb, holds_fwd hb2 ho, hl, ?_⟩
      rcases Nat.lt_or_ge n nx0 with hnl | hnl
      · obtain ⟨o1, ho1⟩ := hlive n hnl
        obtain ⟨c, hc, _, _, r3, r4⟩ := hi.obj _ _ (callLe_look hm n o1 ho1).1
        have := hx'.nm n c hc
        rw [hb] at this; cases this
        exact ⟨r3, r4⟩
      · have hw1 : wr (f n) = true := hi.wrn _ (by rw [hfge n hnl]; omega)
        refine ⟨fun _ => hnew b (r1 (hwr0 n hnl)), fun e => ?_⟩
        rw [hw1] at e; cases e
    · obtain ⟨b, hb, ho, hl, r1, r2⟩ := hi.obj k o hk'
      obtain ⟨g1, g2⟩ := hapart k o b hk' hkn hb
      exact ⟨b, by rw [hold k o hk']; exact hb, ho.mono hx2 (hi'.frame b g1 g2), Nat.lt_of_lt_of_le hl hi'.size, r1, r2⟩
  · have hmix : ∀ n o1 k' o2, look m' n = some o1 → look m k' = some o2 → k' ∉ (m0.map fun p => f p.1) → B2 (f n) = B2 k' → False := fun n o1 k' o2 hn hk' hkn e => by
      obtain ⟨b, hb, hb'⟩ := hBf n o1 hn
      rw [hb', hold k' o2 hk'] at e
      obtain ⟨g1, g2⟩ := hapart k' o2 b hk' hkn e.symm
      obtain ⟨c, hc, _, _, r1, r2⟩ := hi'.obj n o1 hn
      rw [hb] at hc; cases hc
      rcases Nat.lt_or_ge n nx0 with hnl | hnl
      · obtain ⟨o3, ho3⟩ := hlive n hnl
        obtain ⟨c, hc, _⟩ := hi.obj _ _ (callLe_look hm n o3 ho3).1
        have := hx'.nm n c hc
        rw [hb] at this; cases this
        have hkk := hi.inj _ _ _ _ (callLe_look hm n o3 ho3).1 hk' (by rw [hc, ← e])
        have hc : (m0.map fun p => f p.1).contains k' = false := by
          cases h : (m0.map fun p => f p.1).contains k' with
          | false => rfl
          | true => exact absurd (List.contains_iff_mem.1 h) hkn
        exact hownr k' hc n o3 ho3 hkk
      · rcases r1 (hwr0 n hnl) with h' | h'
        · exact g2 h'
        · omega
    rcases hsplit k o h1 with ⟨n, o1, rfl, hn, rfl⟩ | ⟨hk1, hkn1⟩ <;> rcases hsplit k' o' h2 with ⟨n', o2, rfl, hn', rfl⟩ | ⟨hk2', hkn2⟩
    · obtain ⟨b, hb, hb'⟩ := hBf n o1 hn
      obtain ⟨c, hc, hc'⟩ := hBf n' o2 hn'
      rw [hb', hc'] at e
      rw [hi'.inj n n' _ _ hn hn' (by rw [hb, hc, e])]
    · exact (hmix n o1 k' o' hn hk2' hkn2 e).elim
    · exact (hmix n' o2 k o hn' hk1 hkn1 e.symm).elim
    · rw [hold k o hk1, hold k' o' hk2'] at e
      exact hi.inj _ _ _ _ hk1 hk2' e
  · show (if k < nx then B k else B' (k - nx + nx0)) = none
    rw [if_neg (by omega)]
    exact hi'.fresh _ (by omega)
  · obtain ⟨o, ho⟩ := hi.keep k hk
    rw [look_append]
    by_cases hkm : k ∈ (m0.map fun p => f p.1)
    · have : ∃ n, k = f n ∧ ∃ o, look m0 n = some o := by
        obtain ⟨p, hp, e⟩ := List.mem_map.1 hkm
        exact ⟨p.1, e.symm, look_of_mem hp⟩
      obtain ⟨n, rfl, o1, ho1⟩ := this
      have hw0 : wr0 n = false := by
        cases hw : wr0 n with
        | false => rfl
        | true => have := (callLe_look hm n o1 ho1).2 hw; rw [hk] at this; cases this
      obtain ⟨o2, ho2⟩ := hi'.keep n hw0
      exact ⟨renO f o2, by rw [look_renM hfinj, ho2]; rfl⟩
    · cases h1 : look (renM f m') k with
      | some o1 => exact ⟨o1, rfl⟩
      | none => exact ⟨o, look_delAll_of ho hkm⟩

end
end Go.Eng
