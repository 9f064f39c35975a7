/- The engine, part 20: a region that draws its order, where something is read that is written later in it. Own work, after the kit's law on orders that hold a condition. -/
import Derived.Test.YtmdeoikpiiambaaEng8
set_option linter.unusedVariables false
set_option linter.unusedSimpArgs false
namespace Go.Eng
open Go

section
variable {P : Program} {ops : Array Oper} {Q : Exit → Act → World → Prop} {md : Region.Mode} {S : Bool → World → Prop} {Wr : List Nat}
/-- none of the writers has come up -/
def flg (Wr : List Nat) (listed : Array Bool) : Bool := Wr.all fun j => !(listed.getD j true)
def wpAnyF (P : Program) (md : Region.Mode) (ops : Array Oper) (Q : Exit → Act → World → Prop) (Wr : List Nat) (S : Bool → World → Prop) : Nat → Array Bool → Act → World → Prop
  | 0, listed, a, w => Region.ready md ops listed = [] ∧ Q .normal a w
  | fuel + 1, listed, a, w =>
    (Region.ready md ops listed = [] → Q .normal a w) ∧
    ∀ i ∈ Region.ready md ops listed, wpOp P ops Q i (fun a' w' => S (flg Wr (listed.setIfInBounds i true)) w' ∧ wpAnyF P md ops Q Wr S fuel (listed.setIfInBounds i true) a' w') a w
theorem wpAny_of_flagged : ∀ (fuel : Nat) (listed : Array Bool) (a : Act) (w : World), wpAnyF P md ops Q Wr S fuel listed a w → wpAny P md ops Q fuel listed a w
  | 0, _, _, _, h => h
  | fuel + 1, _, _, _, h => ⟨h.1, fun i hi => wpOp_mono (fun a' w' h' => wpAny_of_flagged fuel _ a' w' h'.2) (h.2 i hi)⟩
/-- operations that wait for number i, each for it or for another of them -/
def waits (md : Region.Mode) (ops : Array Oper) (C : List Nat) (i : Nat) : Prop := ∀ k ∈ C, ∃ o, ops[k]? = some o ∧ ∃ e ∈ o.after, Region.binds md e = true ∧ (e.on = i ∨ e.on ∈ C)
theorem flg_set {listed : Array Bool} {j : Nat} (hj : j ∉ Wr) : flg Wr (listed.setIfInBounds j true) = flg Wr listed := by
  unfold flg
  rw [Bool.eq_iff_iff, List.all_eq_true, List.all_eq_true]
  refine forall_congr' fun k => forall_congr' fun hk => ?_
  have hne : j ≠ k := fun e => hj (by rw [e]; exact hk)
  rw [getD_set_ne true hne]
theorem toB {b f : Bool} (hS10 : ∀ w, S true w → S false w) {w : World} (h : S f w) (hbf : b = true → f = true) : S b w := by
  cases b with
  | true => rw [hbf rfl] at h; exact h
  | false => cases f with
    | true => exact hS10 _ h
    | false => exact h
theorem wpAnyF_first {b : Bool} {i : Nat} {oi : Oper} {v : Value} (hi : ops[i]? = some oi) (hsel : ∀ (j : Nat) (o : Oper) cs b, ops[j]? = some o → o.op ≠ .select cs b)
    (hQ : ∀ c a w, Q (.panic c) (a.put oi.dst v) w → Q (.panic c) a w) (hS10 : ∀ w, S true w → S false w) {C : List Nat} (hC : waits md ops C i) (hWC : b = true → ∀ j ∈ Wr, j ∈ C) (hiW : i ∉ Wr) :
    ∀ (fuel : Nat) (listed : Array Bool) (a : Act) (w : World),
      (∀ j oj, ops[j]? = some oj → j ≠ i → listed.getD j true = false → (∀ e ∈ oj.after, Region.binds md e = true → e.on ≠ i) → oi.apart ops oj = true) →
      (∀ k ∈ C, listed.getD k true = false) → (b = true → flg Wr listed = true) → i ∈ Region.ready md ops listed → YieldsIf P ops (S b) oi v a → S (flg Wr listed) w →
      wpAnyF P md ops Q Wr S fuel (listed.setIfInBounds i true) (a.put oi.dst v) w → wpAnyF P md ops Q Wr S (fuel + 1) listed a w := by
  intro fuel
  induction fuel with
  | zero =>
    intro listed a w _ hCl hfl hr hy hS H
    refine ⟨fun h => (by rw [h] at hr; cases hr), fun j hj => ?_⟩
    by_cases hji : j = i
    · subst hji; exact hy.wpOp hi (toB hS10 hS hfl) ⟨by rw [flg_set hiW]; exact hS, H⟩
    · have := ready_mono hj hji
      rw [H.1] at this
      cases this
  | succ fuel ih =>
    intro listed a w hfree hCl hfl hr hy hS H
    refine ⟨fun h => (by rw [h] at hr; cases hr), fun j hj => ?_⟩
    by_cases hji : j = i
    · subst hji; exact hy.wpOp hi (toB hS10 hS hfl) ⟨by rw [flg_set hiW]; exact hS, H⟩
    · have h1 := H.2 j (ready_mono hj hji)
      obtain ⟨hjun, oj, hoj, hall⟩ := mem_ready.1 hj
      have hnot : ∀ e ∈ oj.after, Region.binds md e = true → e.on ≠ i := fun e he hb heq => by
        have h1 := hall e he hb
        have h0 := (mem_ready.1 hr).1
        rw [heq] at h1
        rcases Nat.lt_or_ge i listed.size with h' | h'
        · simp [h'] at h0 h1; rw [h0] at h1; cases h1
        · simp [Array.getElem?_eq_none h'] at h1
      have hjC : j ∉ C := fun hjC => by
        obtain ⟨o', ho', e, he, hbi, hon⟩ := hC j hjC
        rw [hoj] at ho'; cases ho'
        have hl := hall e he hbi
        rcases hon with hon | hon
        · exact hnot e he hbi hon
        · have h0 := hCl _ hon
          rcases Nat.lt_or_ge e.on listed.size with h' | h'
          · simp [h'] at h0 hl; rw [h0] at hl; cases hl
          · simp [Array.getElem?_eq_none h'] at hl
      have hjw : b = true → j ∉ Wr := fun hb hjW => hjC (hWC hb j hjW)
      have hCl' : ∀ k ∈ C, (listed.setIfInBounds j true).getD k true = false := fun k hk => by
        have hne : j ≠ k := fun e => hjC (by rw [e]; exact hk)
        rw [getD_set_ne true hne]; exact hCl k hk
      have h2 := wpOp_putIf hoj (hfree j oj hoj hji hjun hnot) (fun cs b => hsel i oi cs b hi) (fun cs b => hsel j oj cs b hoj) hQ hy h1
      have hfree' : ∀ k ok, ops[k]? = some ok → k ≠ i → (listed.setIfInBounds j true).getD k true = false →
          (∀ e ∈ ok.after, Region.binds md e = true → e.on ≠ i) → oi.apart ops ok = true := fun k ok hk hki hun hno => by
        refine hfree k ok hk hki ?_ hno
        by_cases hjk : j = k
        · subst hjk; exact hjun
        · rw [getD_set_ne true hjk] at hun; exact hun
      refine wpOp_mono (fun a' w' h3 => ?_) h2
      have hcomm : (listed.setIfInBounds i true).setIfInBounds j true = (listed.setIfInBounds j true).setIfInBounds i true := (Array.setIfInBounds_comm _ _ (Ne.symm hji))
      have hSj : S (flg Wr (listed.setIfInBounds j true)) w' := by
        have := h3.2.1
        rwa [hcomm, flg_set hiW] at this
      refine ⟨hSj, ih (listed.setIfInBounds j true) a' w' hfree' hCl' (fun hb => by rw [flg_set (hjw hb)]; exact hfl hb) (ready_mono hr (Ne.symm hji)) h3.1 hSj ?_⟩
      rw [← hcomm]
      exact h3.2.2
theorem wpAnyF_take {b : Bool} {i : Nat} {oi : Oper} {v : Value} {fuel : Nat} {listed : Array Bool} {a : Act} {w : World} (hi : ops[i]? = some oi) (hS10 : ∀ w, S true w → S false w) {C : List Nat} (hC : waits md ops C i) (hWC : b = true → ∀ j ∈ Wr, j ∈ C) (hCl : ∀ k ∈ C, listed.getD k true = false) (hiW : i ∉ Wr)
    (hs : Region.noSelect ops = true) (hf : Region.free md ops listed i = true) (hr : (Region.ready md ops listed).contains i = true) (hfl : b = true → flg Wr listed = true)
    (hQ : ∀ c a w, Q (.panic c) (a.put oi.dst v) w → Q (.panic c) a w) (hy : YieldsIf P ops (S b) oi v a) (hS : S (flg Wr listed) w)
    (h : wpAnyF P md ops Q Wr S fuel (listed.setIfInBounds i true) (a.put oi.dst v) w) : wpAnyF P md ops Q Wr S (fuel + 1) listed a w :=
  wpAnyF_first hi (Region.noSelect_spec hs) hQ hS10 hC hWC hiW fuel listed a w (Region.free_spec hi hf) hCl hfl (by simpa using hr) hy hS h
theorem wpAnyF_all {rs : List Nat} {fuel : Nat} {listed : Array Bool} {a : Act} {w : World} (hr : Region.ready md ops listed = rs) (hne : rs ≠ [])
    (h : ∀ i ∈ rs, wpOp P ops Q i (fun a' w' => S (flg Wr (listed.setIfInBounds i true)) w' ∧ wpAnyF P md ops Q Wr S fuel (listed.setIfInBounds i true) a' w') a w) : wpAnyF P md ops Q Wr S (fuel + 1) listed a w :=
  ⟨fun h0 => absurd (hr ▸ h0) hne, hr ▸ h⟩
theorem wpAnyF_done {listed : Array Bool} {a : Act} {w : World} (hr : Region.ready md ops listed = []) (h : Q .normal a w) : ∀ fuel, wpAnyF P md ops Q Wr S fuel listed a w
  | 0 => ⟨hr, h⟩
  | _ + 1 => ⟨fun _ => h, by rw [hr]; simp⟩
theorem wp_region_flagged {id : Nat} {a : Act} {w : World} (hm : P.follows .mixedOrders = true)
    (h : wpAnyF P .any ops Q Wr S ops.size (Array.replicate ops.size false) a { w with drawn := w.drawn + 1 }) : (Code.region id ops true).wp P Q a w :=
  wp_region_any hm (wpAny_of_flagged _ _ _ _ h)
end
end Go.Eng
