/- The engine, part 6: append and copy. Own work. -/
import Derived.Test.YtmdeoikpiiambaaEng5
set_option linter.unusedVariables false
set_option linter.unusedSimpArgs false
namespace Go.Eng
open Go

section
variable {P : Program} {w0 w : World} {FP : Nat → Prop} {wr rd : Nat → Bool} {m : Mem} {nx : Nat} {H : RO} {B : Names} {N : Nat} {t : Slots} {a : Act}

def one1 (x : AV) : Bool := !isTup x && (match x with | .agg _ => false | _ => true)
/-- what a slice has: how many elements, and their cells -/
def srcx (m : Mem) (s : Nat) : AV → Option (Nat × List AV)
  | .sl n off len _ => match look m n with
    | some (.cells l _) => some (len, (l.drop off).take (len * s))
    | _ => none
  | .ro len xs => some (len, xs.take (len * s))
  | .nils => some (0, [])
  | _ => none
theorem srcx_ok (hi : Inv w0 FP wr m nx H B w) {s : Nat} {x : AV} {n : Nat} {l : List AV} (h : srcx m s x = some (n, l)) (hl : l.length = n * s) {u : Value} (hu : Den H B x u) :
    ∃ A c cs, u = .slice A n c ∧ n ≤ c ∧ DenL H B l cs ∧ ((∃ ad, A = some ad ∧ ∀ j v, cs[j]? = some v → w.cell? (ad.add j) = some v) ∨ n * s = 0) := by
  unfold srcx at h
  split at h
  · rename_i n' off len cap
    split at h
    · rename_i l' ty hn
      cases h
      simp only [Den] at hu
      obtain ⟨b, ad, hb, rfl, hlc, had⟩ := hu
      obtain ⟨b', cs, hb', hc, hd⟩ := obj_cells hi hn
      rw [hb] at hb'; injection hb' with hb'; subst hb'
      refine ⟨_, _, (cs.drop off).take (n * s), rfl, hlc, (hd.drop off).take _, ?_⟩
      by_cases hz : n * s = 0
      · exact .inr hz
      · refine .inl ⟨ad, rfl, fun j v hj => ?_⟩
        have hcz : cap ≠ 0 := by
          intro h0; subst h0
          have : n = 0 := by omega
          subst this; simp at hz
        have hjl : j < n * s := by have := (List.getElem?_eq_some_iff.1 hj).1; simp only [List.length_take] at this; omega
        rw [had hcz, Addr.add_mid, cell_at w hc]
        rw [List.getElem?_take, if_pos hjl, List.getElem?_drop] at hj
        exact hj
    · cases h
  · rename_i len xs
    cases h
    simp only [Den] at hu
    obtain ⟨A, c, rfl, hlc, hd⟩ := hu
    have hex : ∀ j : Nat, ∃ v : Value, j < n * s → ∃ x, (xs.take (n * s))[j]? = some x ∧ Den H B x v ∧ ∃ ad, A = some ad ∧ w.cell? (ad.add j) = some v := fun j => by
      by_cases hj : j < n * s
      · have hx : (xs.take (n * s))[j]? = some ((xs.take (n * s))[j]'(by rw [hl]; exact hj)) := List.getElem?_eq_getElem _
        have hx2 := hx
        rw [List.getElem?_take, if_pos hj] at hx2
        obtain ⟨ad, v, e, h1, h2⟩ := hd.get j _ hx2
        rw [Nat.zero_add] at h1
        exact ⟨v, fun _ => ⟨_, hx, h2, ad, e, (hi.ro _ _ h1).1⟩⟩
      · exact ⟨undef, fun h => absurd h hj⟩
    obtain ⟨f, hf⟩ := Classical.axiomOfChoice hex
    refine ⟨A, c, (List.range (n * s)).map f, rfl, hlc, DenL.of_get (by simp [hl]) fun i x v h1 h2 => ?_, ?_⟩
    · have his : i < n * s := by have := (List.getElem?_eq_some_iff.1 h2).1; simpa using this
      obtain ⟨x', hx', h3, _⟩ := hf i his
      rw [hx'] at h1; cases h1
      simp [List.getElem?_range his] at h2
      subst h2; exact h3
    · by_cases hz : n * s = 0
      · exact .inr hz
      · obtain ⟨_, _, _, ad, e, _⟩ := hf 0 (by omega)
        refine .inl ⟨ad, e, fun j v hj => ?_⟩
        have hjl : j < n * s := by have := (List.getElem?_eq_some_iff.1 hj).1; simpa using this
        obtain ⟨_, _, _, ad', e', h4⟩ := hf j hjl
        rw [e] at e'; cases e'
        simp [List.getElem?_range hjl] at hj
        subst hj; exact h4
  · cases h
    simp only [Den] at hu
    subst hu
    exact ⟨none, 0, [], rfl, Nat.le_refl _, by simp [DenL], .inr (by simp)⟩
  · cases h

def maxI : Nat := 9223372036854775807
def appk (dst : AV) (m : Mem) (nx : Nat) (wr : Nat → Bool) (e s bt : Nat) (q : Nat × List AV) (K : Kv) : Prop :=
  match dst with
  | .nils => q.1 * bt ≤ 140737488355328 ∧ q.1 ≤ 140737488355328 ∧ (q.1 = 0 → K .nils m nx) ∧ (0 < q.1 → ∀ (cap : Nat) (sp : List Value), q.1 ≤ cap → cap ≤ maxI → sp.length = (cap - q.1) * s → K (.sl nx 0 q.1 cap) ((nx, .cells (q.2 ++ sp.map AV.val) e) :: m) (nx + 1))
  | .sl n off len cap => (off = 0 ∧ wr n = true ∧ match look m n with
    | some (.cells l e') => e' = e ∧ l.length = cap * s ∧ cap ≤ maxI ∧ (len + q.1) * bt ≤ 140737488355328 ∧ len + q.1 ≤ 140737488355328 ∧
      ∀ (cap' : Nat) (sp : List Value), len + q.1 ≤ cap' → cap' ≤ maxI → sp.length = (cap' - (len + q.1)) * s → K (.sl nx 0 (len + q.1) cap') ((nx, .cells (l.take (len * s) ++ q.2 ++ sp.map AV.val) e) :: del m n) (nx + 1)
    | _ => False) ∨ (wr n = true ∧ match look m n with
    | some (.cells l e') => e' = e ∧ off + cap * s ≤ l.length ∧ cap ≤ maxI ∧ (len + q.1) * bt ≤ 140737488355328 ∧ len + q.1 ≤ 140737488355328 ∧
      (len + q.1 ≤ cap → K (.sl n off (len + q.1) cap) (upd m n (.cells (spl l (off + len * s) q.2) e)) nx) ∧
      (cap < len + q.1 → ∀ (cap' : Nat) (sp : List Value), len + q.1 ≤ cap' → cap' ≤ maxI → sp.length = (cap' - (len + q.1)) * s → K (.sl nx 0 (len + q.1) cap') ((nx, .cells ((l.drop off).take (len * s) ++ q.2 ++ sp.map AV.val) e) :: m) (nx + 1))
    | _ => False)
  | _ => False
def appx (P : Program) (wr : Nat → Bool) (ts : Array TypeId) (l : List AV) (m : Mem) (nx : Nat) (K : Kv) : Prop :=
  match ts.toList, l with
  | [ty, ty'], [dst, src] => ty' = ty ∧ ∃ e, elemT P ty = some e ∧ ∃ s, sizeT P e = some s ∧ 0 < s ∧ ∃ bt, bytesT P e = some bt ∧ ∃ z, zav P e = some z ∧ z.length = s ∧ ∃ q, srcx m s src = some q ∧ q.2.length = q.1 * s ∧ q.2.all one1 = true ∧ appk dst m nx wr e s bt q K
  | _, _ => False
theorem append_zero (ty tr e : TypeId) (s : Nat) (he : elemT P ty = some e) (hs : sizeT P e = some s) (base : Option Addr) (sl sc : Nat) (hle : sl ≤ sc) (A : Option Addr) (c : Nat) (w : World) :
    (Builtin.append_ #[ty, ty] tr #[.slice base sl sc, .slice A 0 c]).run P w = .ok (.slice base sl sc) w := by
  have hu := elemT_some he
  unfold sizeT at hs
  obtain ⟨i, hi, e2⟩ := Option.map_eq_some_iff.1 hs
  cases A <;> cases base <;> simp [Builtin.append_, run_underlying hu, sizeOf, typeInfo, hi, Builtin.lenOf, Builtin.firstCells, hle, loadCells, loadCellsFrom, storeCells]
theorem denL_val (H : RO) (B : Names) : ∀ l : List Value, DenL H B (l.map .val) l
  | [] => by simp [DenL]
  | v :: r => by simp only [List.map_cons, DenL]; exact ⟨v, r, rfl, by simp only [Den], denL_val H B r⟩
theorem one_all {l : List AV} (h : l.all one1 = true) {cs : List Value} (hd : DenL H B l cs) : ∀ u ∈ cs, u.oneCell' = true := fun u hu => by
  obtain ⟨j, hj, e⟩ := List.getElem_of_mem hu
  have hjl : j < l.length := by rw [← hd.length]; exact hj
  obtain ⟨v, hv, hdv⟩ := hd.get j _ (List.getElem?_eq_getElem hjl)
  rw [List.getElem?_eq_getElem hj, e] at hv
  injection hv with hv; subst hv
  exact one_of (List.all_eq_true.1 h _ (List.getElem_mem hjl)) hdv
theorem appx_ok (hi : Inv w0 FP wr m nx H B w) {ts : Array TypeId} {l : List AV} {K : Kv} (h : appx P wr ts l m nx K) {vs : List Value} (hd : DenL H B l vs) (tr : TypeId) (cc : Array Bool) :
    Gives P w0 FP wr H B K ((builtin .append ts tr cc vs.toArray).run P w) := by
  unfold appx at h
  split at h
  · rename_i ty ty' dst src hts
    obtain ⟨rfl, e, he, s, hs, hpos, bt, hbt, z, hz, hzl, q, hq, hql, hone, h⟩ := h
    obtain ⟨mm, new⟩ := q
    have hts' : ts = #[ty', ty'] := by rw [← Array.toArray_toList (xs := ts), hts]
    subst hts'
    simp only [DenL] at hd
    obtain ⟨u1, r1, rfl, hd1, u2, r2, rfl, hd2, rfl⟩ := hd
    obtain ⟨A, c, cs2, rfl, hmc, hdn, hA⟩ := srcx_ok hi hq hql hd2
    obtain ⟨zv, hzr, hzd⟩ := zav_run hz w H B
    unfold zav at hz
    obtain ⟨vv, hvv, _⟩ := Option.map_eq_some_iff.1 hz
    obtain ⟨i, hii, hzz⟩ := Option.bind_eq_some_iff.1 hvv
    have hsz : i.size = s := by unfold sizeT at hs; rw [hii] at hs; simpa using hs
    have hby : i.bytes = bt := by unfold bytesT at hbt; rw [hii] at hbt; simpa using hbt
    have hcsl : cs2.length = mm * i.size := by rw [hdn.length, hql, hsz]
    have hfin : ∀ {v : Value} {w' : World} {av m' nx' B'}, (Builtin.append_ #[ty', ty'] tr #[u1, .slice A mm c]).run P w = .ok v w' → Inv w0 FP wr m' nx' H B' w' → Ext H B H B' → Den H B' av v → K av m' nx' →
        Gives P w0 FP wr H B K ((builtin .append #[ty', ty'] tr cc [u1, .slice A mm c].toArray).run P w) := by
      intro v w' av m' nx' B' hr h1 h2 h3 h4
      refine ⟨v, av, m', nx', B', w', .inl ?_, h1, h2, h3, h4⟩
      show (do pure (.value (← Builtin.append_ #[ty', ty'] tr #[u1, .slice A mm c])) : Sem Next).run P w = _
      simp only [Sem.run_bind, hr, Result.andThen_ok, Sem.run_pure]
    unfold appk at h
    split at h
    · obtain ⟨hb1, hb2, h0, hk⟩ := h
      simp only at hb1 hb2 h0 hk
      simp only [Den] at hd1
      subst hd1
      by_cases hm0 : mm = 0
      · subst hm0
        exact hfin (append_zero ty' tr e s he hs none 0 0 (Nat.le_refl _) A c w) hi (Ext.refl _ _) (by simp only [Den]) (h0 rfl)
      · have hms : mm * s ≠ 0 := Nat.mul_ne_zero hm0 (by omega)
        obtain ⟨ad, rfl, hcell⟩ := hA.resolve_right hms
        have hr := run_append_nil (P := P) w ty' tr e i vv (elemT_some he) hii hzz ad mm c cs2 hcsl hcell (by omega) (by omega) (by rw [hby]; omega)
        have hge := grownCap_ge w mm 0 e
        have hle := grownCap_le_maxLen w mm 0 e (by unfold maxLen; omega)
        generalize hgc : grownCap w mm 0 e = gc at hr hge hle
        have hx := ext_bind1 (H := H) (b := w.heap.size) (hi.fresh nx (Nat.le_refl _))
        obtain ⟨g1, g2⟩ := hi.renew (m' := m) (fun _ _ h => h) hi.keep (b := w.heap.size) (.inl rfl) (w' := w.drew.alloc (.cells (cs2.toArray ++ Builtin.zeroCells vv.cells (gc - mm)) e)) rfl rfl rfl (by simp)
          (fun k hk _ => heap_alloc_old w.drew _ k hk) (o := .cells (new ++ (Builtin.zeroCells vv.cells (gc - mm)).toList.map .val) e)
          ⟨cs2 ++ (Builtin.zeroCells vv.cells (gc - mm)).toList, by rw [show w.heap.size = w.drew.heap.size from rfl, heap_alloc_new]; congr 2; apply Array.ext'; simp, (hdn.append (denL_val _ _ _)).mono hx⟩
        refine hfin hr g1 g2 (av := .sl nx 0 mm gc) (by simp only [Den]; exact ⟨_, _, bind1_same _ _ _, rfl, hge, fun _ => rfl⟩) (hk (by omega) gc _ hge (by unfold maxI; unfold maxLen at hle; omega) ?_)
        have hzc : vv.cells.size = s := by
          have : zv = vv := by simp [zeroValue, typeInfo, hii, hzz] at hzr; exact hzr.symm
          subst this
          rw [← Array.length_toList, hzd.length, hzl]
        simp [size_zeroCells, hzc]
    · rename_i n off len cap
      rcases h with ⟨rfl, hw, h⟩ | ⟨hw, h⟩
      rotate_left
      · split at h
        · rename_i lo e' hn
          obtain ⟨rfl, hll, hcm, hb1, hb2, hk1, hk2⟩ := h
          simp only at hb1 hb2 hk1 hk2
          have hd1' := hd1
          simp only [Den] at hd1'
          obtain ⟨b, ad1, hb, rfl, hlc, had1⟩ := hd1'
          obtain ⟨b', cs, hb', hc, hdo⟩ := obj_cells hi hn
          rw [hb] at hb'; injection hb' with hb'; subst hb'
          have hcsz : cs.length = lo.length := hdo.length
          by_cases hroom : len + mm ≤ cap
          · have hcs2 : cs2.length = mm * s := by rw [hcsl, hsz]
            have hbig : (len + mm) * s ≤ cap * s := Nat.mul_le_mul_right _ hroom
            have hadd : (len + mm) * s = len * s + mm * s := Nat.add_mul _ _ _
            have hr : (Builtin.append_ #[ty', ty'] tr #[.slice (some ad1) len cap, .slice A mm c]).run P w = .ok (.slice (some ad1) (len + mm) cap) (w.setRow b (cs.take (off + len * s) ++ cs2 ++ cs.drop (off + len * s + cs2.length)).toArray) := by
              by_cases hm0 : mm = 0
              · subst hm0
                have hnil : cs2 = [] := List.eq_nil_of_length_eq_zero (by rw [hcs2]; simp)
                subst hnil
                simp only [List.append_nil, List.length_nil, Nat.add_zero, List.take_append_drop]
                rw [setRow_self w b cs.toArray e' (0, 0) hc]
                exact append_zero ty' tr e' s he hs (some ad1) len cap hlc A c w
              · have hms : mm * s ≠ 0 := Nat.mul_ne_zero hm0 (by omega)
                obtain ⟨ad, rfl, hcell⟩ := hA.resolve_right hms
                rw [had1 (by omega)]
                have hst := run_storeCells_at P b (off + len * s) e' cs2 0 cs.toArray w hc (by rw [hcs2, List.size_toArray, hcsz]; omega) (one_all hone hdn)
                have hfc := run_firstCells_some (P := P) w i.size mm ad mm c cs2 hcsl hcell
                simp only [Nat.add_zero] at hst
                rw [hsz] at hfc
                simp [Builtin.append_, run_underlying (elemT_some he), sizeOf, typeInfo, hii, hsz, Builtin.lenOf, hroom, hfc, Addr.add_lit, hst]
            refine hfin hr (hi.write (o' := .cells (spl lo (off + len * s) new) e') hn hw hb (by simp) rfl rfl rfl (fun k hk => setRow_other w b k _ hk) ⟨_, setRow_heap w b cs.toArray _ e' (0, 0) hc, ?_⟩) (Ext.refl _ _) (av := .sl n off (len + mm) cap) ?_ (hk1 hroom)
            · unfold spl
              rw [hdn.length]
              exact ((hdo.take _).append hdn).append (hdo.drop _)
            · simp only [Den]; exact ⟨_, _, hb, rfl, hroom, had1⟩
          · have hms : mm * s ≠ 0 := Nat.mul_ne_zero (by omega) (by omega)
            obtain ⟨ad, rfl, hcell⟩ := hA.resolve_right hms
            have hlcs : len * s ≤ cap * s := Nat.mul_le_mul_right _ hlc
            have holds : ∀ j v, ((cs.drop off).take (len * i.size))[j]? = some v → w.cell? (ad1.add j) = some v := fun j v hj => by
              have hjl : j < len * i.size := by have := (List.getElem?_eq_some_iff.1 hj).1; simp only [List.length_take] at this; omega
              have hcz : cap ≠ 0 := by intro h0; subst h0; have : len = 0 := by omega
                                       subst this; simp at hjl
              rw [had1 hcz, Addr.add_mid, cell_at w hc]
              rw [List.getElem?_take, if_pos hjl, List.getElem?_drop] at hj
              exact hj
            have hlo' : ((cs.drop off).take (len * i.size)).length = len * i.size := by
              rw [List.length_take, List.length_drop, hcsz, hsz, Nat.min_eq_left]; omega
            have hr := run_append_grow (P := P) w ty' tr e' i vv (elemT_some he) hii hzz ad1 len cap ((cs.drop off).take (len * i.size)) hlo' holds ad mm c cs2 hcsl hcell (by omega) (by omega) (by rw [hby]; exact growslice_fits (by omega) hb1)
            have hge := grownCap_ge w (len + mm) cap e'
            have hle := grownCap_le_maxLen w (len + mm) cap e' (by unfold maxLen; omega)
            generalize hgc : grownCap w (len + mm) cap e' = gc at hr hge hle
            have hx' := ext_bind1 (H := H) (b := w.heap.size) (hi.fresh nx (Nat.le_refl _))
            obtain ⟨g1, g2⟩ := hi.renew (m' := m) (fun _ _ h => h) hi.keep (b := w.heap.size) (.inl rfl) (w' := w.drew.alloc (.cells (((cs.drop off).take (len * i.size)).toArray ++ cs2.toArray ++ Builtin.zeroCells vv.cells (gc - (len + mm))) e')) rfl rfl rfl (by simp)
              (fun k hk _ => heap_alloc_old w.drew _ k hk) (o := .cells ((lo.drop off).take (len * s) ++ new ++ (Builtin.zeroCells vv.cells (gc - (len + mm))).toList.map .val) e')
              ⟨(cs.drop off).take (len * s) ++ cs2 ++ (Builtin.zeroCells vv.cells (gc - (len + mm))).toList, by
                rw [show w.heap.size = w.drew.heap.size from rfl, heap_alloc_new]; congr 2; apply Array.ext'; simp [hsz], ((((hdo.drop _).take _).append hdn).append (denL_val _ _ _)).mono hx'⟩
            refine hfin hr g1 g2 (av := .sl nx 0 (len + mm) gc) (by simp only [Den]; exact ⟨_, _, bind1_same _ _ _, rfl, hge, fun _ => rfl⟩) (hk2 (by omega) gc _ hge (by unfold maxI; unfold maxLen at hle; omega) ?_)
            have hzc : vv.cells.size = s := by
              have : zv = vv := by simp [zeroValue, typeInfo, hii, hzz] at hzr; exact hzr.symm
              subst this
              rw [← Array.length_toList, hzd.length, hzl]
            simp [size_zeroCells, hzc]
        · exact h.elim
      split at h
      · rename_i lo e' hn
        obtain ⟨rfl, hll, hcm, hb1, hb2, hk⟩ := h
        simp only at hb1 hb2 hk
        have hd1' := hd1
        simp only [Den] at hd1'
        obtain ⟨b, ad1, hb, rfl, hlc, had1⟩ := hd1'
        obtain ⟨b', cs, hb', hc, hdo⟩ := obj_cells hi hn
        rw [hb] at hb'; injection hb' with hb'; subst hb'
        have hx := ext_bind1 (H := H) (b := b) (hi.fresh nx (Nat.le_refl _))
        have hdel : ∀ k o, look (del m n) k = some o → look m k = some o := fun k o hko => by
          by_cases hkn : n = k
          · subst hkn; rw [look_del_same] at hko; cases hko
          · rwa [look_del_other hkn] at hko
        have hkp : ∀ k, wr k = false → ∃ o, look (del m n) k = some o := fun k hk => by
          obtain ⟨o, ho⟩ := hi.keep k hk
          have hkn : n ≠ k := fun e => by rw [← e, hw] at hk; cases hk
          exact ⟨o, by rw [look_del_other hkn]; exact ho⟩
        have hcsz : cs.length = cap * s := by rw [hdo.length, hll]
        by_cases hm0 : mm = 0
        · subst hm0
          have hnew : new = [] := List.eq_nil_of_length_eq_zero (by simpa using hql)
          subst hnew
          obtain ⟨g1, g2⟩ := hi.renew (m' := del m n) hdel hkp (b := b) (.inr ⟨n, _, hn, hw, hb, look_del_same m n⟩) (w' := w) rfl rfl rfl (Nat.le_refl _) (fun k hk _ => rfl)
            (o := .cells (lo.take (len * s) ++ [] ++ (cs.drop (len * s)).map .val) e') ⟨cs.take (len * s) ++ cs.drop (len * s), by rw [List.take_append_drop]; exact hc, by rw [List.append_nil]; exact ((hdo.take _).append (denL_val _ _ _)).mono hx⟩
          refine hfin (append_zero ty' tr e' s he hs (some ad1) len cap hlc A c w) g1 g2 (av := .sl nx 0 (len + 0) cap) ?_ (hk cap _ (by omega) hcm ?_)
          · simp only [Den]; exact ⟨_, _, bind1_same _ _ _, rfl, hlc, had1⟩
          · simp [hcsz, Nat.sub_mul]
        · have hms : mm * s ≠ 0 := Nat.mul_ne_zero hm0 (by omega)
          obtain ⟨ad, rfl, hcell⟩ := hA.resolve_right hms
          by_cases hroom : len + mm ≤ cap
          · have hcz : cap ≠ 0 := by omega
            have e1 := had1 hcz
            subst e1
            have hfit : len * i.size + cs2.length ≤ cs.toArray.size := by
              rw [hcsl, hsz, ← Nat.add_mul, List.size_toArray, hcsz]
              exact Nat.mul_le_mul_right _ hroom
            have hr := run_append_room (P := P) w ty' tr e' i (elemT_some he) hii b len cap cs.toArray hc ad mm c cs2 hcsl hcell (one_all hone hdn) hroom hfit
            have hbig : (len + mm) * s ≤ cap * s := Nat.mul_le_mul_right _ hroom
            have hadd : (len + mm) * s = len * s + mm * s := Nat.add_mul _ _ _
            obtain ⟨g1, g2⟩ := hi.renew (m' := del m n) hdel hkp (b := b) (.inr ⟨n, _, hn, hw, hb, look_del_same m n⟩) (w' := w.setRow b (cs.toArray.toList.take (len * i.size) ++ cs2 ++ cs.toArray.toList.drop (len * i.size + cs2.length)).toArray) rfl rfl rfl (by simp) (fun k hk hne => setRow_other w b k _ hne)
              (o := .cells (lo.take (len * s) ++ new ++ (cs.drop (len * s + mm * s)).map .val) e')
              ⟨_, setRow_heap w b cs.toArray _ e' (0, 0) hc, by
                rw [hsz, hcsl, hsz]
                exact (((hdo.take _).append hdn).append (denL_val _ _ _)).mono hx⟩
            refine hfin hr g1 g2 (av := .sl nx 0 (len + mm) cap) ?_ (hk cap _ hroom hcm ?_)
            · simp only [Den]; exact ⟨_, _, bind1_same _ _ _, rfl, hroom, fun _ => rfl⟩
            · simp only [List.length_drop, hcsz, Nat.sub_mul, hadd]
          · have holds : ∀ j v, (cs.take (len * i.size))[j]? = some v → w.cell? (ad1.add j) = some v := fun j v hj => by
              have hjl : j < len * i.size := by have := (List.getElem?_eq_some_iff.1 hj).1; simp only [List.length_take] at this; omega
              have hcz : cap ≠ 0 := by intro h0; subst h0; have : len = 0 := by omega
                                       subst this; simp at hjl
              rw [had1 hcz, Addr.add_mid, Nat.zero_add, cell_at w hc]
              rw [List.getElem?_take, if_pos hjl] at hj
              exact hj
            have hlo' : (cs.take (len * i.size)).length = len * i.size := by
              rw [List.length_take, hcsz, hsz, Nat.min_eq_left]; exact Nat.mul_le_mul_right _ hlc
            have hr := run_append_grow (P := P) w ty' tr e' i vv (elemT_some he) hii hzz ad1 len cap (cs.take (len * i.size)) hlo' holds ad mm c cs2 hcsl hcell (by omega) (by omega) (by rw [hby]; exact growslice_fits (by omega) hb1)
            have hge := grownCap_ge w (len + mm) cap e'
            have hle := grownCap_le_maxLen w (len + mm) cap e' (by unfold maxLen; omega)
            generalize hgc : grownCap w (len + mm) cap e' = gc at hr hge hle
            have hx' := ext_bind1 (H := H) (b := w.heap.size) (hi.fresh nx (Nat.le_refl _))
            obtain ⟨g1, g2⟩ := hi.renew (m' := del m n) hdel hkp (b := w.heap.size) (.inl rfl) (w' := w.drew.alloc (.cells ((cs.take (len * i.size)).toArray ++ cs2.toArray ++ Builtin.zeroCells vv.cells (gc - (len + mm))) e')) rfl rfl rfl (by simp)
              (fun k hk _ => heap_alloc_old w.drew _ k hk) (o := .cells (lo.take (len * s) ++ new ++ (Builtin.zeroCells vv.cells (gc - (len + mm))).toList.map .val) e')
              ⟨cs.take (len * s) ++ cs2 ++ (Builtin.zeroCells vv.cells (gc - (len + mm))).toList, by
                rw [show w.heap.size = w.drew.heap.size from rfl, heap_alloc_new]; congr 2; apply Array.ext'; simp [hsz], (((hdo.take _).append hdn).append (denL_val _ _ _)).mono hx'⟩
            refine hfin hr g1 g2 (av := .sl nx 0 (len + mm) gc) (by simp only [Den]; exact ⟨_, _, bind1_same _ _ _, rfl, hge, fun _ => rfl⟩) (hk gc _ hge (by unfold maxI; unfold maxLen at hle; omega) ?_)
            have hzc : vv.cells.size = s := by
              have : zv = vv := by simp [zeroValue, typeInfo, hii, hzz] at hzr; exact hzr.symm
              subst this
              rw [← Array.length_toList, hzd.length, hzl]
            simp [size_zeroCells, hzc]
      · exact h.elim
    · exact h.elim
  · exact h.elim

/-! copy -/
def cpyx (P : Program) (wr : Nat → Bool) (ts : Array TypeId) (l : List AV) (m : Mem) (nx : Nat) (K : Kv) : Prop :=
  match ts.toList, l with
  | ty :: _, [.sl n off len cap, src] => ∃ e, elemT P ty = some e ∧ ∃ s, sizeT P e = some s ∧ ∃ q, srcx m s src = some q ∧ q.2.length = q.1 * s ∧ q.2.all one1 = true ∧ wr n = true ∧ match look m n with
    | some (.cells l e') => off + len * s ≤ l.length ∧ K (.int .i64 (min (q.1 : Int) (len : Int))) (upd m n (.cells (spl l off (q.2.take (min q.1 len * s))) e')) nx
    | _ => False
  | _, _ => False
theorem cpyx_ok (hi : Inv w0 FP wr m nx H B w) {ts : Array TypeId} {l : List AV} {K : Kv} (h : cpyx P wr ts l m nx K) {vs : List Value} (hd : DenL H B l vs) (tr : TypeId) (cc : Array Bool) :
    Gives P w0 FP wr H B K ((builtin .copy ts tr cc vs.toArray).run P w) := by
  unfold cpyx at h
  split at h
  · rename_i ty rest n off len cap src hts
    obtain ⟨e, he, s, hs, q, hq, hql, hone, hw, h⟩ := h
    obtain ⟨mm, new⟩ := q
    simp only at hql hone h
    split at h
    · rename_i lo e' hn
      obtain ⟨hle, hk⟩ := h
      simp only [DenL] at hd
      obtain ⟨u1, r1, rfl, hd1, u2, r2, rfl, hd2, rfl⟩ := hd
      obtain ⟨A, c, cs2, rfl, hmc, hdn, hA⟩ := srcx_ok hi hq hql hd2
      simp only [Den] at hd1
      obtain ⟨b, ad1, hb, rfl, hlc, had1⟩ := hd1
      obtain ⟨b', cs, hb', hc, hdo⟩ := obj_cells hi hn
      rw [hb] at hb'; injection hb' with hb'; subst hb'
      have hts0 : ts[0]? = some ty := by rw [← Array.getElem?_toList, hts]; rfl
      have hmin : Nat.min mm len = min mm len := rfl
      have hlen2 : (cs2.take (min mm len * s)).length = min mm len * s := by
        rw [List.length_take, hdn.length, hql]; exact Nat.min_eq_left (Nat.mul_le_mul_right _ (Nat.min_le_left _ _))
      have hf : (Builtin.firstCells s (min mm len) (.slice A mm c)).run P w = .ok (cs2.take (min mm len * s)).toArray w := by
        rcases hA with ⟨ad, rfl, hcell⟩ | h0
        · refine run_firstCells_some w s (min mm len) ad mm c _ hlen2 fun j v hj => hcell j v ?_
          rw [List.getElem?_take] at hj
          split at hj
          · exact hj
          · cases hj
        · have h0' : min mm len * s = 0 := Nat.le_zero.1 (Nat.le_trans (Nat.mul_le_mul_right s (Nat.min_le_left mm len)) (by omega))
          rw [h0']
          cases A with
          | none => simp [Builtin.firstCells]
          | some ad => simp [Builtin.firstCells, h0', loadCells, loadCellsFrom]
      have hdt := hdn.take (min mm len * s)
      have hot := one_all hone hdn
      have hst : (storeCells ad1 (cs2.take (min mm len * s))).run P w = .ok () (w.setRow b (cs.take off ++ cs2.take (min mm len * s) ++ cs.drop (off + (cs2.take (min mm len * s)).length)).toArray) := by
        by_cases hz : min mm len * s = 0
        · rw [hz]
          simp only [List.take_zero, storeCells, List.append_nil, List.length_nil, Nat.add_zero, List.take_append_drop]
          rw [setRow_self w b cs.toArray e' (0, 0) hc]
          rfl
        · have hcz : cap ≠ 0 := by
            intro h0; subst h0
            have : len = 0 := by omega
            subst this; simp at hz
          rw [had1 hcz]
          have := run_storeCells_at P b off e' (cs2.take (min mm len * s)) 0 cs.toArray w hc (by
            have h1 : min mm len * s ≤ len * s := Nat.mul_le_mul_right _ (Nat.min_le_right _ _)
            rw [hlen2, List.size_toArray, hdo.length]; omega) (fun v hv => hot v (List.mem_of_mem_take hv))
          simpa using this
      refine ⟨.int .i64 (min (mm : Int) (len : Int)), .int .i64 (min (mm : Int) (len : Int)), _, nx, B, _, .inl ?_, hi.write (o' := .cells (spl lo off (new.take (min mm len * s))) e') hn hw hb (w' := w.setRow b (cs.take off ++ cs2.take (min mm len * s) ++ cs.drop (off + (cs2.take (min mm len * s)).length)).toArray) (by simp) rfl rfl rfl (fun k hk => setRow_other w b k _ hk)
        ⟨_, setRow_heap w b cs.toArray _ e' (0, 0) hc, ?_⟩, Ext.refl _ _, by simp only [Den], hk⟩
      · show (do pure (.value (← Builtin.copy_ ts tr #[.slice (some ad1) len cap, .slice A mm c])) : Sem Next).run P w = _
        simp only [Builtin.copy_, hts0, Sem.run_bind, run_underlying (elemT_some he), Result.andThen_ok, Builtin.lenOf, Sem.run_pure, sizeT_run hs, List.getElem?_toArray, List.getElem?_cons_zero, List.getElem?_cons_succ, hmin, hf, hst, goInt]
        rw [show ((min mm len : Nat) : Int) = min (mm : Int) (len : Int) from by omega]
      · unfold spl
        rw [hdt.length]
        exact ((hdo.take off).append hdt).append (hdo.drop _)
    · exact h.elim
  · exact h.elim
end
end Go.Eng
