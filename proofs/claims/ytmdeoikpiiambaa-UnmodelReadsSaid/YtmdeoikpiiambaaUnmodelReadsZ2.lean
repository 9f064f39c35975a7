/- Part 2 of the proof of the statement UnmodelReads: Eng23, Eng9, Eng10, Eng11, Eng15, Eng31, Eng12, Eng13, Eng19, Eng26, Eng27, Eng25, Eng17, Eng18, Eng28, Eng29, Eng32, Eng33. -/
import Derived.Deep.LoopGhost
import Derived.Test.YtmdeoikpiiambaaUnmodelReadsZ1
section
/- The engine, part 23: what is held fast is read only from then on. Own work. -/
set_option linter.unusedVariables false
set_option linter.unusedSimpArgs false
namespace Go.Eng
open Go

mutual
/-- a slice of the object that is held fast, as read-only; nil, as one of nothing -/
def fzA (o : Option (Nat × List AV)) : AV → AV
  | .sl k off len cap => match o with
    | some (n, l) => if k = n then .ro len ((l.drop off).take len) else .sl k off len cap
    | none => .sl k off len cap
  | .nils => .ro 0 []
  | .agg xs => .agg (fzL o xs)
  | .tup xs => .tup (fzL o xs)
  | v => v
def fzL (o : Option (Nat × List AV)) : List AV → List AV
  | [] => []
  | x :: r => fzA o x :: fzL o r
end
section
variable {P : Program} {w0 w : World} {FP : Nat → Prop} {wr rd : Nat → Bool} {m : Mem} {nx : Nat} {H : RO} {B : Names} {N : Nat} {t : Slots} {a : Act}
mutual
theorem fz_den {H H' : RO} {B : Names} (x : Ext H B H' B) {o : Option (Nat × List AV)} (hsl : ∀ k off len cap u, Den H B (.sl k off len cap) u → Den H' B (fzA o (.sl k off len cap)) u) : ∀ (v : AV) {u : Value}, Den H B v u → Den H' B (fzA o v) u
  | .sl k off len cap, u, h => hsl _ _ _ _ _ h
  | .nils, u, h => by
    simp only [Den] at h
    simp only [fzA, Den]
    exact ⟨none, 0, h, Nat.le_refl _, by simp only [DenAt]⟩
  | .agg xs, u, h => by
    simp only [Den, fzA] at h ⊢
    obtain ⟨cs, e, h⟩ := h
    exact ⟨cs, e, fz_denL x hsl xs h⟩
  | .tup xs, u, h => by
    simp only [Den, fzA] at h ⊢
    obtain ⟨cs, e, h⟩ := h
    exact ⟨cs, e, fz_denL x hsl xs h⟩
  | .bool b, u, h => by simpa only [fzA] using h.mono x
  | .int k n, u, h => by simpa only [fzA] using h.mono x
  | .str s, u, h => by simpa only [fzA] using h.mono x
  | .ptr n o, u, h => by simpa only [fzA] using h.mono x
  | .nilp, u, h => by simpa only [fzA] using h.mono x
  | .ro l xs, u, h => by simpa only [fzA] using h.mono x
  | .rop xs, u, h => by simpa only [fzA] using h.mono x
  | .fn f a b, u, h => by simpa only [fzA] using h.mono x
  | .nilf, u, h => by simpa only [fzA] using h.mono x
  | .map n, u, h => by simpa only [fzA] using h.mono x
  | .nilm, u, h => by simpa only [fzA] using h.mono x
  | .iface t v, u, h => by simpa only [fzA] using h.mono x
  | .nili, u, h => by simpa only [fzA] using h.mono x
  | .val v, u, h => by simpa only [fzA] using h.mono x
theorem fz_denL {H H' : RO} {B : Names} (x : Ext H B H' B) {o : Option (Nat × List AV)} (hsl : ∀ k off len cap u, Den H B (.sl k off len cap) u → Den H' B (fzA o (.sl k off len cap)) u) : ∀ (l : List AV) {us : List Value}, DenL H B l us → DenL H' B (fzL o l) us
  | [], us, h => by simpa only [fzL, DenL] using h
  | y :: r, us, h => by
    simp only [fzL, DenL] at h ⊢
    obtain ⟨v, s, e, h1, h2⟩ := h
    exact ⟨v, s, e, fz_den x hsl y h1, fz_denL x hsl r h2⟩
end
theorem Inv.congr (h : Inv w0 FP wr m nx H B w) {m' : Mem} (hm : ∀ k, look m' k = look m k) : Inv w0 FP wr m' nx H B w :=
  ⟨h.size, h.os, h.tape, h.out, h.frame, fun a v e => ⟨(h.ro a v e).1, fun n o hn => (h.ro a v e).2 n o (by rw [← hm]; exact hn)⟩, fun n o hn => h.obj n o (by rw [← hm]; exact hn),
    fun n n' o o' h1 h2 => h.inj n n' o o' (by rw [← hm]; exact h1) (by rw [← hm]; exact h2), h.fresh, h.wrn, fun n hn => by rw [hm]; exact h.keep n hn⟩
theorem Inv.bump (h : Inv w0 FP wr m nx H B w) : Inv w0 FP wr m (nx + 1) H B w :=
  ⟨h.size, h.os, h.tape, h.out, h.frame, h.ro, h.obj, h.inj, fun n hn => h.fresh n (by omega), fun n hn => h.wrn n (by omega), h.keep⟩
theorem freeze (hi : Inv w0 FP wr m nx H B w) {n : Nat} {l : List AV} {ty : TypeId} (hn : look m n = some (.cells l ty)) (hw : wr n = true) :
    ∃ H', Ext H B H' B ∧ Inv w0 FP wr (del m n) nx H' B w ∧ ∀ v u, Den H B v u → Den H' B (fzA (some (n, l)) v) u := by
  classical
  obtain ⟨b, cs, hb, hc, hdl⟩ := obj_cells hi hn
  let H' : RO := fun ad => if ad.block = b then w.cell? ad else H ad
  have hx : Ext H B H' B := ⟨fun ad v e => by
    show (if ad.block = b then w.cell? ad else H ad) = some v
    obtain ⟨g1, g2⟩ := hi.ro ad v e
    split
    · exact g1
    · exact e, fun _ _ e => e⟩
  have hdel : ∀ k o, look (del m n) k = some o → k ≠ n ∧ look m k = some o := fun k o e => by
    by_cases hk : n = k
    · subst hk; rw [look_del_same] at e; cases e
    · rw [look_del_other hk] at e; exact ⟨Ne.symm hk, e⟩
  refine ⟨H', hx, ⟨hi.size, hi.os, hi.tape, hi.out, hi.frame, fun ad v e => ?_, fun k o e => ?_, fun k k' o o' h1 h2 => hi.inj k k' o o' (hdel k o h1).2 (hdel k' o' h2).2, hi.fresh, hi.wrn, fun k hk => ?_⟩, fun v u hd => ?_⟩
  · have e' : (if ad.block = b then w.cell? ad else H ad) = some v := e
    split at e'
    · rename_i hab
      refine ⟨e', fun k o hk hkb => ?_⟩
      obtain ⟨hne, hko⟩ := hdel k o hk
      exact hne (hi.inj k n _ _ hko hn (by rw [hkb, hb, hab]))
    · obtain ⟨g1, g2⟩ := hi.ro ad v e'
      exact ⟨g1, fun k o hk => g2 k o (hdel k o hk).2⟩
  · obtain ⟨c, hc', ho, r⟩ := hi.obj k o (hdel k o e).2
    exact ⟨c, hc', ho.mono hx rfl, r⟩
  · have hkn : n ≠ k := fun e => by rw [← e, hw] at hk; cases hk
    obtain ⟨o, ho⟩ := hi.keep k hk
    exact ⟨o, by rw [look_del_other hkn]; exact ho⟩
  · refine fz_den hx (fun k off len cap u hd => ?_) v hd
    simp only [fzA]
    split
    · rename_i hk
      subst hk
      simp only [Den] at hd ⊢
      obtain ⟨b', ad, hb', rfl, hle, had⟩ := hd
      rw [hb] at hb'; cases hb'
      refine ⟨some ad, cap, rfl, hle, DenAt.of_get fun j x hj => ?_⟩
      have hjl : j < len := by have := (List.getElem?_eq_some_iff.1 hj).1; simp only [List.length_take] at this; omega
      rw [had (by omega)]
      rw [List.getElem?_take, if_pos hjl, List.getElem?_drop] at hj
      obtain ⟨u, hu, hdu⟩ := hdl.get _ x hj
      refine ⟨_, u, rfl, ?_, hdu.mono hx⟩
      show (if _ then _ else _) = _
      rw [Nat.zero_add, Addr.add_mid]
      rw [if_pos rfl, cell_at w hc]
      exact hu
    · exact hd.mono hx
/-- all slots, where an object is held fast -/
def fzS (o : Option (Nat × List AV)) : Slots → Slots
  | [] => []
  | (k, v) :: r => (k, fzA o v) :: fzS o r
theorem fzS_look (o : Option (Nat × List AV)) (t : Slots) (s : Nat) : look (fzS o t) s = (look t s).map (fzA o) := by
  induction t with
  | nil => rfl
  | cons p r ih =>
    obtain ⟨k, v⟩ := p
    simp only [fzS, look]
    split
    · rfl
    · exact ih
def delO (m : Mem) : Option (Nat × List AV) → Mem
  | none => m
  | some (n, _) => del m n
def LeF (nf : Nat) (wr : Nat → Bool) (t : Slots) (m : Mem) (nx : Nat) (t' : Slots) (m' : Mem) (nx' : Nat) : Prop :=
  (∃ l, Le nf l wr t m nx t' m' nx') ∨ ∃ o : Option (Nat × List AV), (∀ n l, o = some (n, l) → wr n = true ∧ ∃ ty, look m n = some (.cells l ty)) ∧ ∃ l, Le nf l wr (fzS o t) (delO m o) nx t' m' nx'
theorem LeF.ok {nf : Nat} {t' : Slots} {m' : Mem} {nx' : Nat} (h : LeF nf wr t m nx t' m' nx') (hi : Inv w0 FP wr m nx H B w) (hs : SlotsOk N H B t a) :
    ∃ H' B', (∀ ad v, H ad = some v → H' ad = some v) ∧ Inv w0 FP wr m' nx' H' B' w ∧ SlotsOk N H' B' t' a ∧ ExtN nf B B' := by
  rcases h with ⟨l, h⟩ | ⟨o, ho, l, h⟩
  · obtain ⟨h1, h2, h3⟩ := h.ok hi hs
    exact ⟨H, _, fun _ _ e => e, h1, h2, h3⟩
  · have key : ∃ H', Ext H B H' B ∧ Inv w0 FP wr (delO m o) nx H' B w ∧ ∀ v u, Den H B v u → Den H' B (fzA o v) u := by
      cases o with
      | none => exact ⟨H, Ext.refl _ _, hi, fun v u hd => fz_den (o := none) (Ext.refl _ _) (fun k off len cap u hd => by simpa only [fzA] using hd) v hd⟩
      | some p =>
        obtain ⟨n, l0⟩ := p
        obtain ⟨hw, ty, hn⟩ := ho n l0 rfl
        exact freeze hi hn hw
    obtain ⟨H', hx, hi', hd⟩ := key
    have hs' : SlotsOk N H' B (fzS o t) a := ⟨hs.1, fun s av e => by
      rw [fzS_look] at e
      obtain ⟨v, hv, rfl⟩ := Option.map_eq_some_iff.1 e
      exact hd _ _ (hs.2 s v hv)⟩
    obtain ⟨h1, h2, h3⟩ := h.ok hi' hs'
    exact ⟨H', _, hx.ro, h1, h2, h3⟩
end
end Go.Eng
end
section
/- The engine, part 9: code, loops, regions that draw their order, function bodies. Own work. -/
set_option linter.unusedVariables false
set_option linter.unusedSimpArgs false
namespace Go.Eng
open Go

section
variable {P : Program} {w0 w : World} {FP : Nat → Prop} {wr rd : Nat → Bool} {m : Mem} {nx : Nat} {H : RO} {B : Names} {N : Nat} {t : Slots} {a : Act}

abbrev Ex := Slots → Mem → Nat → Kx → Prop
/-- what follows in a sequence -/
def Sq (E : Ex) (K : Kx) : Kx := fun e t m nx => match e with
  | .normal => E t m nx K
  | e => K e t m nx
def Blk (id : Nat) (K : Kx) : Kx := fun e t m nx => match e with
  | .exit id' => if id' = id then K .normal t m nx else K (.exit id') t m nx
  | e => K e t m nx
def Nrm (K : Kx) : Slots → Mem → Nat → Prop := fun t m nx => K .normal t m nx
theorem Sq_normal (E : Ex) (K : Kx) (t : Slots) (m : Mem) (nx : Nat) : Sq E K .normal t m nx = E t m nx K := rfl
theorem Sq_ret (E : Ex) (K : Kx) (t : Slots) (m : Mem) (nx : Nat) : Sq E K .ret t m nx = K .ret t m nx := rfl
theorem Sq_exit (E : Ex) (K : Kx) (i : Nat) (t : Slots) (m : Mem) (nx : Nat) : Sq E K (.exit i) t m nx = K (.exit i) t m nx := rfl
theorem Blk_normal (i : Nat) (K : Kx) (t : Slots) (m : Mem) (nx : Nat) : Blk i K .normal t m nx = K .normal t m nx := rfl
theorem Blk_ret (i : Nat) (K : Kx) (t : Slots) (m : Mem) (nx : Nat) : Blk i K .ret t m nx = K .ret t m nx := rfl
theorem Blk_exit (i j : Nat) (K : Kx) (t : Slots) (m : Mem) (nx : Nat) : Blk i K (.exit j) t m nx = if j = i then K .normal t m nx else K (.exit j) t m nx := rfl
theorem Nrm_app (K : Kx) (t : Slots) (m : Mem) (nx : Nat) : Nrm K t m nx = K .normal t m nx := rfl

/-! a loop: a family of states, each round to one of lesser measure -/
def LoopK {ι : Type} (nf : Nat) (wr : Nat → Bool) (S : ι → Slots × Mem × Nat) (μ : ι → Nat) (i : ι) (K : Kx) : Kx := fun e t m nx => match e with
  | .normal => ∃ j, μ j < μ i ∧ ∃ l, Le nf l wr t m nx (S j).1 (S j).2.1 (S j).2.2
  | e => K e t m nx
/-- a loop's entry: something may be held fast there -/
def LeG (fz : Bool) (nf : Nat) (wr : Nat → Bool) (t : Slots) (m : Mem) (nx : Nat) (t' : Slots) (m' : Mem) (nx' : Nat) : Prop := (∃ l, Le nf l wr t m nx t' m' nx') ∨ (fz = true ∧ LeF nf wr t m nx t' m' nx')
def LoopOk (fz : Bool) (nf : Nat) (E : Ex) (wr : Nat → Bool) (t : Slots) (m : Mem) (nx : Nat) (K : Kx) : Prop :=
  ∃ (ι : Type) (S : ι → Slots × Mem × Nat) (μ : ι → Nat), (∃ i, LeG fz nf wr t m nx (S i).1 (S i).2.1 (S i).2.2) ∧ ∀ i, E (S i).1 (S i).2.1 (S i).2.2 (LoopK nf wr S μ i K)

/-! a region that draws its order -/
def planOk (ops : Array Oper) : List (Nat × Bool) → Array Bool → Bool
  | [], l => Region.ready .any ops l == []
  | (i, true) :: r, l => (Region.ready .any ops l == [i]) && planOk ops r (l.setIfInBounds i true)
  | (i, false) :: r, l => Region.free .any ops l i && (Region.ready .any ops l).contains i && planOk ops r (l.setIfInBounds i true)
def drawB (ops : Array Oper) (plan : List (Nat × Bool)) : Bool := Region.noSelect ops && decide (plan.length ≤ ops.size) && planOk ops plan (Array.replicate ops.size false)
def wrD (m : Mem) (nx : Nat) (mods : List Nat) (n : Nat) : Bool := decide (nx ≤ n) || mods.contains n || (look m n).isNone
/-- what may be read while others write -/
def Rd (wr : Nat → Bool) (n : Nat) : Bool := !wr n
theorem Rd_app (wr : Nat → Bool) (n : Nat) : Rd wr n = !wr n := rfl
def DrE (P : Program) (wr : Nat → Bool) (single : Bool) (op : Op) (d : Option Tmp) (E : Se) : Se := fun t m nx => match single with
  | true => opx P false wr t m nx op (After E t d)
  | false => rdx P (Rd wr) t m op (KvAt (After E t d) m nx)
theorem DrE_true (P : Program) (wr : Nat → Bool) (op : Op) (d : Option Tmp) (E : Se) (t : Slots) (m : Mem) (nx : Nat) : DrE P wr true op d E t m nx = opx P false wr t m nx op (After E t d) := rfl
theorem DrE_false (P : Program) (wr : Nat → Bool) (op : Op) (d : Option Tmp) (E : Se) (t : Slots) (m : Mem) (nx : Nat) : DrE P wr false op d E t m nx = rdx P (Rd wr) t m op (KvAt (After E t d) m nx) := rfl
def DrO (P : Program) (N : Nat) (wr : Nat → Bool) (ops : Array Oper) (single : Bool) (o : Option Oper) (E : Se) : Se := fun t m nx => match o with
  | none => False
  | some o => dstOk N o.dst = true ∧ grdx ops o.guard (DrE P wr single o.op o.dst E) (SkE o.dst E) t m nx
theorem DrO_some (P : Program) (N : Nat) (wr : Nat → Bool) (ops : Array Oper) (single : Bool) (o : Oper) (E : Se) (t : Slots) (m : Mem) (nx : Nat) :
    DrO P N wr ops single (some o) E t m nx = (dstOk N o.dst = true ∧ grdx ops o.guard (DrE P wr single o.op o.dst E) (SkE o.dst E) t m nx) := rfl
def drawx (P : Program) (N : Nat) (wr : Nat → Bool) (ops : Array Oper) (K : Se) : List (Nat × Bool) → Se
  | [], t, m, nx => K t m nx
  | (i, single) :: r, t, m, nx => DrO P N wr ops single ops[i]? (drawx P N wr ops K r) t m nx
theorem drawx_nil (P : Program) (N : Nat) (wr : Nat → Bool) (ops : Array Oper) (K : Se) (t : Slots) (m : Mem) (nx : Nat) : drawx P N wr ops K [] t m nx = K t m nx := rfl
theorem drawx_cons (P : Program) (N : Nat) (wr : Nat → Bool) (ops : Array Oper) (K : Se) (i : Nat) (single : Bool) (r : List (Nat × Bool)) (t : Slots) (m : Mem) (nx : Nat) :
    drawx P N wr ops K ((i, single) :: r) t m nx = DrO P N wr ops single ops[i]? (drawx P N wr ops K r) t m nx := rfl
def KeepK (m0 : Mem) (mods : List Nat) (K : Kv) : Kv := fun v m' nx' => (∀ n ∈ mods, look m' n = look m0 n) ∧ K v m' nx'
/-- the same, where some read what is written later: Wr writes, Er reads ahead of it -/
def DyE (P : Program) (wr : Nat → Bool) (m0 : Mem) (mods Wr Er : List Nat) (i : Nat) (single : Bool) (op : Op) (d : Option Tmp) (E : Se) : Se := fun t m nx => match single, Wr.contains i with
  | true, true => opx P false wr t m nx op (After E t d)
  | true, false => opx P false (wrD m nx []) t m nx op (After E t d)
  | false, _ => rdx P (fun n => !wr n || (Er.contains i && mods.contains n)) t m op (KvAt (After E t d) m nx)
def DyO (P : Program) (N : Nat) (wr : Nat → Bool) (m0 : Mem) (mods Wr Er : List Nat) (ops : Array Oper) (i : Nat) (single : Bool) (o : Option Oper) (E : Se) : Se := fun t m nx => match o with
  | none => False
  | some o => dstOk N o.dst = true ∧ grdx ops o.guard (DyE P wr m0 mods Wr Er i single o.op o.dst E) (SkE o.dst E) t m nx
def drawy (P : Program) (N : Nat) (wr : Nat → Bool) (m0 : Mem) (mods Wr Er : List Nat) (ops : Array Oper) (K : Se) : List (Nat × Bool) → Se
  | [], t, m, nx => K t m nx
  | (i, single) :: r, t, m, nx => DyO P N wr m0 mods Wr Er ops i single ops[i]? (drawy P N wr m0 mods Wr Er ops K r) t m nx
/-- a value that its abstract form tells whole -/
def det : AV → Bool
  | .val _ => true
  | v => flat v
def depStep (ops : Array Oper) (i : Nat) (acc : List Nat) (k : Nat) : List Nat := match ops[k]? with
  | some o => if o.after.any (fun e => Region.binds .any e && (e.on == i || acc.contains e.on)) then k :: acc else acc
  | none => acc
def depsOf (ops : Array Oper) (i : Nat) : List Nat := (List.range ops.size).foldl (depStep ops i) []
def chkE (ops : Array Oper) (Wr Er : List Nat) : List (Nat × Bool) → Array Bool → Bool
  | [], _ => true
  | (i, s) :: r, l => (s || !Er.contains i || (Wr.all (fun j => (depsOf ops i).contains j) && (depsOf ops i).all fun k => !(l.getD k true))) && chkE ops Wr Er r (l.setIfInBounds i true)
def planY (Wr Er : List Nat) (ops : Array Oper) (plan : List (Nat × Bool)) : Bool := (plan.all fun p => p.2 || !Wr.contains p.1) && chkE ops Wr Er plan (Array.replicate ops.size false) && Wr.all (fun j => decide (j < ops.size))
/-- a plan where two are ready at once that each see the memory: both orders are walked -/
inductive PlanT where
  | done : PlanT
  | step : Nat → Bool → PlanT → PlanT
  | both : Nat → PlanT → Nat → PlanT → PlanT
def PlanT.depth : PlanT → Nat
  | .done => 0
  | .step _ _ r => r.depth + 1
  | .both _ r _ s => max r.depth s.depth + 1
def PlanT.ok (ops : Array Oper) : PlanT → Array Bool → Bool
  | .done, l => Region.ready .any ops l == []
  | .step i true r, l => (Region.ready .any ops l == [i]) && r.ok ops (l.setIfInBounds i true)
  | .step i false r, l => Region.free .any ops l i && (Region.ready .any ops l).contains i && r.ok ops (l.setIfInBounds i true)
  | .both i r j s, l => (Region.ready .any ops l == [i, j]) && r.ok ops (l.setIfInBounds i true) && s.ok ops (l.setIfInBounds j true)
def drawTB (ops : Array Oper) (plan : PlanT) : Bool := Region.noSelect ops && decide (plan.depth ≤ ops.size) && plan.ok ops (Array.replicate ops.size false)
def drawT (P : Program) (N : Nat) (wr : Nat → Bool) (ops : Array Oper) (K : Se) : PlanT → Se
  | .done, t, m, nx => K t m nx
  | .step i single r, t, m, nx => DrO P N wr ops single ops[i]? (drawT P N wr ops K r) t m nx
  | .both i r j s, t, m, nx => DrO P N wr ops true ops[i]? (drawT P N wr ops K r) t m nx ∧ DrO P N wr ops true ops[j]? (drawT P N wr ops K s) t m nx
theorem drawT_done (P : Program) (N : Nat) (wr : Nat → Bool) (ops : Array Oper) (K : Se) (t : Slots) (m : Mem) (nx : Nat) : drawT P N wr ops K .done t m nx = K t m nx := rfl
theorem drawT_step (P : Program) (N : Nat) (wr : Nat → Bool) (ops : Array Oper) (K : Se) (i : Nat) (single : Bool) (r : PlanT) (t : Slots) (m : Mem) (nx : Nat) :
    drawT P N wr ops K (.step i single r) t m nx = DrO P N wr ops single ops[i]? (drawT P N wr ops K r) t m nx := rfl
theorem drawT_both (P : Program) (N : Nat) (wr : Nat → Bool) (ops : Array Oper) (K : Se) (i j : Nat) (r s : PlanT) (t : Slots) (m : Mem) (nx : Nat) :
    drawT P N wr ops K (.both i r j s) t m nx = (DrO P N wr ops true ops[i]? (drawT P N wr ops K r) t m nx ∧ DrO P N wr ops true ops[j]? (drawT P N wr ops K s) t m nx) := rfl
def DrawOk (P : Program) (N : Nat) (wr : Nat → Bool) (ops : Array Oper) (t : Slots) (m : Mem) (nx : Nat) (K : Kx) : Prop :=
  P.follows .mixedOrders = true ∧ ((∃ (plan : List (Nat × Bool)) (mods : List Nat), drawB ops plan = true ∧ (∀ n ∈ mods, wr n = true ∧ (look m n).isSome = true) ∧ drawx P N (wrD m nx mods) ops (Nrm K) plan t m nx) ∨
    (∃ (plan : List (Nat × Bool)) (mods Wr Er : List Nat), drawB ops plan = true ∧ planY Wr Er ops plan = true ∧ (∀ n ∈ mods, wr n = true ∧ (look m n).isSome = true) ∧ drawy P N (wrD m nx mods) m mods Wr Er ops (Nrm K) plan t m nx) ∨
    ∃ (plan : PlanT) (mods : List Nat), drawTB ops plan = true ∧ (∀ n ∈ mods, wr n = true ∧ (look m n).isSome = true) ∧ drawT P N (wrD m nx mods) ops (Nrm K) plan t m nx)

def exec (P : Program) (fz : Bool) (N nf : Nat) (wr : Nat → Bool) : Code → Slots → Mem → Nat → Kx → Prop
  | .skip, t, m, nx, K => K .normal t m nx
  | .region _ ops false, t, m, nx, K => opsx P fz N wr ops (Nrm K) ops.toList t m nx
  | .region _ ops true, t, m, nx, K => DrawOk P N wr ops t m nx K
  | .seq x y, t, m, nx, K => exec P fz N nf wr x t m nx (Sq (exec P fz N nf wr y) K)
  | .cond c x y, t, m, nx, K => withv (evx t c) fun v => match v with
    | .bool q => (q = true → exec P fz N nf wr x t m nx K) ∧ (q = false → exec P fz N nf wr y t m nx K)
    | _ => False
  | .block id c, t, m, nx, K => exec P fz N nf wr c t m nx (Blk id K)
  | .loop c, t, m, nx, K => LoopOk fz nf (exec P fz N nf wr c) wr t m nx K
  | .exit id, t, m, nx, K => K (.exit id) t m nx
  | .ret, t, m, nx, K => K .ret t m nx
  | _, _, _, _, _ => False

/-- what holds at a code's end -/
def Post (fz : Bool) (nf : Nat) (w0 : World) (FP : Nat → Prop) (wr : Nat → Bool) (H : RO) (B : Names) (N : Nat) (ds : List Deferred) (K : Kx) : Exit → Act → World → Prop := fun e a w =>
  (match e with | .normal => True | .exit _ => True | .ret => True | _ => False) ∧ a.defers = ds ∧ ∃ t m nx B' H', K e t m nx ∧ ExtN nf B B' ∧ ((∀ ad v, H ad = some v → H' ad = some v) ∧ (fz = false → H' = H)) ∧ Inv w0 FP wr m nx H' B' w ∧ SlotsOk N H' B' t a

theorem draw_start (hi : Inv w0 FP wr m nx H B w) {mods : List Nat} (hm : ∀ n ∈ mods, wr n = true ∧ (look m n).isSome = true) {ws : World} (hw : ws.heap = w.heap) :
    Inv ws (fun b => ∃ n ∈ mods, B n = some b) (wrD m nx mods) m nx H B ws := by
  refine ⟨Nat.le_refl _, rfl, rfl, rfl, fun _ _ _ => rfl, fun ad v e => ⟨(World.cell?_of_block (w := w) (by rw [hw])).trans (hi.ro ad v e).1, (hi.ro ad v e).2⟩, fun n o hn => ?_, hi.inj, hi.fresh, fun n hn => by simp [wrD, hn], fun n hn => ?_⟩
  · obtain ⟨b, hb, ho, hl, _, _⟩ := hi.obj n o hn
    refine ⟨b, hb, ho.mono (Ext.refl _ _) (by rw [hw]), by rw [hw]; exact hl, fun e => ?_, fun e => ⟨by rw [hw]; exact hl, ?_⟩⟩
    · have hlt := hi.lt_nx hn
      simp only [wrD, Bool.or_eq_true, decide_eq_true_eq, List.contains_iff_mem, hn, Option.isNone_some, Bool.false_eq_true, or_false] at e
      rcases e with e | e
      · omega
      · exact .inl ⟨n, e, hb⟩
    · rintro ⟨n', hn', hb'⟩
      obtain ⟨o', ho'⟩ := Option.isSome_iff_exists.1 (hm n' hn').2
      have := hi.inj n n' _ _ hn ho' (by rw [hb, hb'])
      subst this
      simp only [wrD, Bool.or_eq_false_iff] at e
      have := e.1.2
      rw [List.contains_iff_mem.2 hn'] at this
      cases this
  · simp only [wrD, Bool.or_eq_false_iff] at hn
    have := hn.2
    cases h : look m n with
    | none => rw [h] at this; cases this
    | some o => exact ⟨o, rfl⟩
theorem draw_end (hi : Inv w0 FP wr m nx H B w) {mods : List Nat} (hm : ∀ n ∈ mods, wr n = true ∧ (look m n).isSome = true) {ws w2 : World} (hw : ws.heap = w.heap) (h2 : ws.os = w.os) (h3 : ws.tape = w.tape) (h4 : ws.output = w.output)
    {m2 : Mem} {nx2 : Nat} {B2 : Names} (hx : Ext H B H B2) (hnx : ∀ n, nx2 ≤ n → wr n = true) (he : Inv ws (fun b => ∃ n ∈ mods, B n = some b) (wrD m nx mods) m2 nx2 H B2 w2) : Inv w0 FP wr m2 nx2 H B2 w2 := by
  have hmod : ∀ b, (∃ n ∈ mods, B n = some b) → FP b ∨ w0.heap.size ≤ b := by
    rintro b ⟨n, hn, hb⟩
    obtain ⟨o, ho⟩ := Option.isSome_iff_exists.1 (hm n hn).2
    obtain ⟨c, hc, _, _, hr, _⟩ := hi.obj n o ho
    rw [hb] at hc; cases hc
    exact hr (hm n hn).1
  have hsz : w.heap.size ≤ w2.heap.size := by have := he.size; rwa [hw] at this
  refine ⟨Nat.le_trans hi.size hsz, he.os.trans (h2.trans hi.os), he.tape.trans (h3.trans hi.tape), he.out.trans (h4.trans hi.out), fun b hb hf => ?_, he.ro, fun n o hn => ?_, he.inj, he.fresh, hnx, fun n hn => ?_⟩
  · rw [he.frame b (by rw [hw]; exact Nat.lt_of_lt_of_le hb hi.size) (fun h => by rcases hmod b h with h' | h'; exact hf h'; omega), hw]
    exact hi.frame b hb hf
  · obtain ⟨b, hb, ho, hl, r1, r2⟩ := he.obj n o hn
    refine ⟨b, hb, ho, hl, fun e => ?_, fun e => ?_⟩
    · cases hwd : wrD m nx mods n with
      | true =>
        rcases r1 hwd with h' | h'
        · exact hmod b h'
        · exact .inr (Nat.le_trans hi.size (by rwa [hw] at h'))
      | false =>
        obtain ⟨o1, ho1⟩ : ∃ o1, look m n = some o1 := by
          simp only [wrD, Bool.or_eq_false_iff] at hwd
          have := hwd.2
          cases h : look m n with
          | none => rw [h] at this; cases this
          | some o => exact ⟨o, rfl⟩
        obtain ⟨c, hc, _, _, hr, _⟩ := hi.obj n o1 ho1
        have := hx.nm _ _ hc
        rw [hb] at this; cases this
        exact hr e
    · obtain ⟨o1, ho1⟩ := hi.keep n e
      obtain ⟨c, hc, _, _, _, hr⟩ := hi.obj n o1 ho1
      have := hx.nm _ _ hc
      rw [hb] at this; cases this
      exact hr e
  · have hwd : wrD m nx mods n = false := by
      obtain ⟨o1, ho1⟩ := hi.keep n hn
      have hlt := hi.lt_nx ho1
      simp only [wrD, ho1, Option.isNone_some, Bool.or_false, Bool.or_eq_false_iff, decide_eq_false_iff_not]
      refine ⟨by omega, ?_⟩
      cases hc : mods.contains n with
      | false => rfl
      | true =>
        have := (hm n (List.contains_iff_mem.1 hc)).1
        rw [hn] at this; cases this
    exact he.keep n hwd
theorem draw_ok {ops : Array Oper} {ws : World} {FPd : Nat → Prop} {wrd : Nat → Bool} (hro : ∀ ad v, H ad = some v → ws.cell? ad = some v ∧ ad.block < ws.heap.size ∧ ¬ FPd ad.block) (hsel : Region.noSelect ops = true)
    {K : Slots → Mem → Nat → Prop} {Q : Exit → Act → World → Prop} (hQ : ∀ c a w, ¬ Q (.panic c) a w) :
    ∀ (plan : List (Nat × Bool)) (fuel : Nat) (listed : Array Bool) {t : Slots} {m : Mem} {nx : Nat} {B : Names} {a : Act} {w : World}, plan.length ≤ fuel → planOk ops plan listed = true → drawx P N wrd ops K plan t m nx → Inv ws FPd wrd m nx H B w → SlotsOk N H B t a →
      (∀ t' m' nx' B' a' w', a'.defers = a.defers → K t' m' nx' → Ext H B H B' → Inv ws FPd wrd m' nx' H B' w' → SlotsOk N H B' t' a' → Q .normal a' w') →
      wpAnyH P .any ops Q (fun w' => ws.heap.size ≤ w'.heap.size ∧ ∀ b, b < ws.heap.size → ¬ FPd b → w'.heap[b]? = ws.heap[b]?) fuel listed a w
  | [], fuel, listed, t, m, nx, B, a, w, hl, hp, h, hi, hs, hq => wpAnyH_done (by simpa [planOk] using hp) (hq _ _ _ _ _ _ rfl h (Ext.refl _ _) hi hs) fuel
  | (i, single) :: r, 0, listed, t, m, nx, B, a, w, hl, hp, h, hi, hs, hq => by simp at hl
  | (i, single) :: r, fuel + 1, listed, t, m, nx, B, a, w, hl, hp, h, hi, hs, hq => by
    have hS : ∀ {m nx B w}, Inv ws FPd wrd m nx H B w → ws.heap.size ≤ w.heap.size ∧ ∀ b, b < ws.heap.size → ¬ FPd b → w.heap[b]? = ws.heap[b]? := fun hi => ⟨hi.size, hi.frame⟩
    unfold drawx DrO at h
    split at h
    · exact h.elim
    · rename_i o ho
      obtain ⟨hd, h⟩ := h
      have hdef : ∀ v, (a.put o.dst v).defers = a.defers := fun v => by cases h : o.dst <;> rfl
      have hlr : r.length ≤ fuel := by simpa using hl
      cases single with
      | true =>
        simp only [planOk, Bool.and_eq_true, beq_iff_eq] at hp
        refine wpAnyH_all hp.1 (by simp) fun j hj => ?_
        have hji : j = i := by simpa using hj
        subst hji
        unfold wpOp
        simp only [ho]
        obtain ⟨t', hs, ⟨hw, h⟩ | ⟨hw, h⟩⟩ := wanted_of hs h
        · rw [if_pos hw]
          refine .inl (gives_wp (opx_ok (fz := false) hi hs h) fun v av m' nx' B' H' w' hH h1 h2 h3 h4 => ?_)
          have hHe := hH rfl
          rw [hHe] at h1 h2 h3
          refine ⟨hS h1, ?_⟩
          exact draw_ok hro hsel hQ r fuel _ hlr hp.2 h4 h1 ((hs.mono h2).putd hd h3) fun t' m'' nx'' B'' a' w'' hdf hk hx => hq t' m'' nx'' B'' a' w'' (hdf.trans (hdef v)) hk (h2.trans hx)
        · rw [if_neg (by rw [hw]; simp)]
          refine ⟨hS hi, ?_⟩
          exact draw_ok hro hsel hQ r fuel _ hlr hp.2 h hi (hs.putd hd undef_den) fun t' m'' nx'' B'' a' w'' hdf => hq t' m'' nx'' B'' a' w'' (hdf.trans (hdef undef))
      | false =>
        simp only [planOk, Bool.and_eq_true] at hp
        have hQ' : ∀ (v : Value) (c : List PanicEntry) (a : Act) (w : World), Q (.panic c) (a.put o.dst v) w → Q (.panic c) a w := fun v c a w h => absurd h (hQ _ _ _)
        obtain ⟨t', hs, ⟨hw, h⟩ | ⟨hw, h⟩⟩ := wanted_of hs h
        · obtain ⟨v, av, hr, hdv, hk⟩ := rdx_ok hi hs h
          refine wpAnyH_take ho hsel hp.1.1 hp.1.2 (hQ' v) (.inl ⟨hw, fun w' hw' => hr w' ⟨fun ad u e => ?_, fun n o' b hn hrd hb => ?_⟩⟩) (hS hi) ?_
          · obtain ⟨g1, g2, g3⟩ := hro ad u e
            exact (World.cell?_of_block (w := ws) (hw'.2 _ g2 g3)).trans g1
          · obtain ⟨c, hc, _, _, _, r2⟩ := hi.obj n o' hn
            rw [hb] at hc; cases hc
            obtain ⟨g1, g2⟩ := r2 (by simpa [Rd] using hrd)
            rw [hw'.2 b g1 g2, hi.frame b g1 g2]
          · exact draw_ok hro hsel hQ r fuel _ hlr hp.2 hk hi (hs.putd hd hdv) fun t' m'' nx'' B'' a' w'' hdf => hq t' m'' nx'' B'' a' w'' (hdf.trans (hdef v))
        · refine wpAnyH_take ho hsel hp.1.1 hp.1.2 (hQ' undef) (.inr ⟨hw, rfl⟩) (hS hi) ?_
          exact draw_ok hro hsel hQ r fuel _ hlr hp.2 h hi (hs.putd hd undef_den) fun t' m'' nx'' B'' a' w'' hdf => hq t' m'' nx'' B'' a' w'' (hdf.trans (hdef undef))
theorem draw_okT {ops : Array Oper} {ws : World} {FPd : Nat → Prop} {wrd : Nat → Bool} (hro : ∀ ad v, H ad = some v → ws.cell? ad = some v ∧ ad.block < ws.heap.size ∧ ¬ FPd ad.block) (hsel : Region.noSelect ops = true)
    {K : Slots → Mem → Nat → Prop} {Q : Exit → Act → World → Prop} (hQ : ∀ c a w, ¬ Q (.panic c) a w) :
    ∀ (plan : PlanT) (fuel : Nat) (listed : Array Bool) {t : Slots} {m : Mem} {nx : Nat} {B : Names} {a : Act} {w : World}, plan.depth ≤ fuel → plan.ok ops listed = true → drawT P N wrd ops K plan t m nx → Inv ws FPd wrd m nx H B w → SlotsOk N H B t a →
      (∀ t' m' nx' B' a' w', a'.defers = a.defers → K t' m' nx' → Ext H B H B' → Inv ws FPd wrd m' nx' H B' w' → SlotsOk N H B' t' a' → Q .normal a' w') →
      wpAnyH P .any ops Q (fun w' => ws.heap.size ≤ w'.heap.size ∧ ∀ b, b < ws.heap.size → ¬ FPd b → w'.heap[b]? = ws.heap[b]?) fuel listed a w
  | .done, fuel, listed, t, m, nx, B, a, w, hl, hp, h, hi, hs, hq => wpAnyH_done (by simpa [PlanT.ok] using hp) (hq _ _ _ _ _ _ rfl h (Ext.refl _ _) hi hs) fuel
  | .step i single r, 0, listed, t, m, nx, B, a, w, hl, hp, h, hi, hs, hq => by simp [PlanT.depth] at hl
  | .step i single r, fuel + 1, listed, t, m, nx, B, a, w, hl, hp, h, hi, hs, hq => by
    have hS : ∀ {m nx B w}, Inv ws FPd wrd m nx H B w → ws.heap.size ≤ w.heap.size ∧ ∀ b, b < ws.heap.size → ¬ FPd b → w.heap[b]? = ws.heap[b]? := fun hi => ⟨hi.size, hi.frame⟩
    rw [drawT_step] at h
    unfold DrO at h
    split at h
    · exact h.elim
    · rename_i o ho
      obtain ⟨hd, h⟩ := h
      have hdef : ∀ v, (a.put o.dst v).defers = a.defers := fun v => by cases h : o.dst <;> rfl
      have hlr : r.depth ≤ fuel := by simpa [PlanT.depth] using hl
      cases single with
      | true =>
        simp only [PlanT.ok, Bool.and_eq_true, beq_iff_eq] at hp
        refine wpAnyH_all hp.1 (by simp) fun j hj => ?_
        have hji : j = i := by simpa using hj
        subst hji
        unfold wpOp
        simp only [ho]
        obtain ⟨t', hs, ⟨hw, h⟩ | ⟨hw, h⟩⟩ := wanted_of hs h
        · rw [if_pos hw]
          refine .inl (gives_wp (opx_ok (fz := false) hi hs h) fun v av m' nx' B' H' w' hH h1 h2 h3 h4 => ?_)
          have hHe := hH rfl
          rw [hHe] at h1 h2 h3
          refine ⟨hS h1, ?_⟩
          exact draw_okT hro hsel hQ r fuel _ hlr hp.2 h4 h1 ((hs.mono h2).putd hd h3) fun t' m'' nx'' B'' a' w'' hdf hk hx => hq t' m'' nx'' B'' a' w'' (hdf.trans (hdef v)) hk (h2.trans hx)
        · rw [if_neg (by rw [hw]; simp)]
          refine ⟨hS hi, ?_⟩
          exact draw_okT hro hsel hQ r fuel _ hlr hp.2 h hi (hs.putd hd undef_den) fun t' m'' nx'' B'' a' w'' hdf => hq t' m'' nx'' B'' a' w'' (hdf.trans (hdef undef))
      | false =>
        simp only [PlanT.ok, Bool.and_eq_true] at hp
        have hQ' : ∀ (v : Value) (c : List PanicEntry) (a : Act) (w : World), Q (.panic c) (a.put o.dst v) w → Q (.panic c) a w := fun v c a w h => absurd h (hQ _ _ _)
        obtain ⟨t', hs, ⟨hw, h⟩ | ⟨hw, h⟩⟩ := wanted_of hs h
        · obtain ⟨v, av, hr, hdv, hk⟩ := rdx_ok hi hs h
          refine wpAnyH_take ho hsel hp.1.1 hp.1.2 (hQ' v) (.inl ⟨hw, fun w' hw' => hr w' ⟨fun ad u e => ?_, fun n o' b hn hrd hb => ?_⟩⟩) (hS hi) ?_
          · obtain ⟨g1, g2, g3⟩ := hro ad u e
            exact (World.cell?_of_block (w := ws) (hw'.2 _ g2 g3)).trans g1
          · obtain ⟨c, hc, _, _, _, r2⟩ := hi.obj n o' hn
            rw [hb] at hc; cases hc
            obtain ⟨g1, g2⟩ := r2 (by simpa [Rd] using hrd)
            rw [hw'.2 b g1 g2, hi.frame b g1 g2]
          · exact draw_okT hro hsel hQ r fuel _ hlr hp.2 hk hi (hs.putd hd hdv) fun t' m'' nx'' B'' a' w'' hdf => hq t' m'' nx'' B'' a' w'' (hdf.trans (hdef v))
        · refine wpAnyH_take ho hsel hp.1.1 hp.1.2 (hQ' undef) (.inr ⟨hw, rfl⟩) (hS hi) ?_
          exact draw_okT hro hsel hQ r fuel _ hlr hp.2 h hi (hs.putd hd undef_den) fun t' m'' nx'' B'' a' w'' hdf => hq t' m'' nx'' B'' a' w'' (hdf.trans (hdef undef))
  | .both i r j s, 0, listed, t, m, nx, B, a, w, hl, hp, h, hi, hs, hq => by simp [PlanT.depth] at hl
  | .both i r j s, fuel + 1, listed, t, m, nx, B, a, w, hl, hp, h, hi, hs, hq => by
    have hS : ∀ {m nx B w}, Inv ws FPd wrd m nx H B w → ws.heap.size ≤ w.heap.size ∧ ∀ b, b < ws.heap.size → ¬ FPd b → w.heap[b]? = ws.heap[b]? := fun hi => ⟨hi.size, hi.frame⟩
    rw [drawT_both] at h
    simp only [PlanT.ok, Bool.and_eq_true, beq_iff_eq] at hp
    have hl2 : r.depth ≤ fuel ∧ s.depth ≤ fuel := by simp only [PlanT.depth] at hl; omega
    have hone : ∀ (k : Nat) (q : PlanT), q.depth ≤ fuel → q.ok ops (listed.setIfInBounds k true) = true → DrO P N wrd ops true ops[k]? (drawT P N wrd ops K q) t m nx →
        wpOp P ops Q k (fun a' w' => (ws.heap.size ≤ w'.heap.size ∧ ∀ b, b < ws.heap.size → ¬ FPd b → w'.heap[b]? = ws.heap[b]?) ∧ wpAnyH P .any ops Q (fun w' => ws.heap.size ≤ w'.heap.size ∧ ∀ b, b < ws.heap.size → ¬ FPd b → w'.heap[b]? = ws.heap[b]?) fuel (listed.setIfInBounds k true) a' w') a w := by
      intro k q hlr hp h
      unfold DrO at h
      split at h
      · exact h.elim
      · rename_i o ho
        obtain ⟨hd, h⟩ := h
        have hdef : ∀ v, (a.put o.dst v).defers = a.defers := fun v => by cases h : o.dst <;> rfl
        unfold wpOp
        simp only [ho]
        obtain ⟨t', hs, ⟨hw, h⟩ | ⟨hw, h⟩⟩ := wanted_of hs h
        · rw [if_pos hw]
          refine .inl (gives_wp (opx_ok (fz := false) hi hs h) fun v av m' nx' B' H' w' hH h1 h2 h3 h4 => ?_)
          have hHe := hH rfl
          rw [hHe] at h1 h2 h3
          refine ⟨hS h1, ?_⟩
          exact draw_okT hro hsel hQ q fuel _ hlr hp h4 h1 ((hs.mono h2).putd hd h3) fun t' m'' nx'' B'' a' w'' hdf hk hx => hq t' m'' nx'' B'' a' w'' (hdf.trans (hdef v)) hk (h2.trans hx)
        · rw [if_neg (by rw [hw]; simp)]
          refine ⟨hS hi, ?_⟩
          exact draw_okT hro hsel hQ q fuel _ hlr hp h hi (hs.putd hd undef_den) fun t' m'' nx'' B'' a' w'' hdf => hq t' m'' nx'' B'' a' w'' (hdf.trans (hdef undef))
    refine wpAnyH_all hp.1.1 (by simp) fun k hk => ?_
    simp only [List.mem_cons, List.not_mem_nil, or_false] at hk
    rcases hk with rfl | rfl
    · exact hone _ r hl2.1 hp.1.2 h.1
    · exact hone _ s hl2.2 hp.2 h.2
theorem det_eq {H H' : RO} {B B' : Names} : ∀ {l : List AV} {vs vs' : List Value}, l.all det = true → DenL H B l vs → DenL H' B' l vs' → vs = vs'
  | [], vs, vs', _, h1, h2 => by simp only [DenL] at h1 h2; rw [h1, h2]
  | x :: r, vs, vs', h, h1, h2 => by
    simp only [List.all_cons, Bool.and_eq_true] at h
    simp only [DenL] at h1 h2
    obtain ⟨v, s, rfl, hv, hs⟩ := h1
    obtain ⟨v', s', rfl, hv', hs'⟩ := h2
    have hvv : v = v' := by
      cases x <;> first
        | (simp only [Den] at hv hv'; rw [hv, hv']; done)
        | (exact absurd h.1 (by simp [det, flat]))
    rw [hvv, det_eq h.2 hs hs']
theorem deps_ok (ops : Array Oper) (i : Nat) : waits .any ops (depsOf ops i) i := by
  have key : ∀ (l acc : List Nat), waits .any ops acc i → waits .any ops (l.foldl (depStep ops i) acc) i := by
    intro l
    induction l with
    | nil => intro acc h; exact h
    | cons k r ih =>
      intro acc h
      refine ih _ ?_
      unfold depStep
      cases ho : ops[k]? with
      | none => exact h
      | some o =>
        simp only
        split
        · rename_i hany
          obtain ⟨e, he, hb⟩ := Array.any_eq_true'.1 hany
          simp only [Bool.and_eq_true, Bool.or_eq_true, beq_iff_eq] at hb
          intro q hq
          rcases List.mem_cons.1 hq with rfl | hq
          · refine ⟨o, ho, e, he, hb.1, ?_⟩
            rcases hb.2 with h2 | h2
            · exact .inl h2
            · exact .inr (List.mem_cons_of_mem _ (List.contains_iff_mem.1 h2))
          · obtain ⟨o', ho', e', he', hb', hon⟩ := h q hq
            exact ⟨o', ho', e', he', hb', hon.imp id (List.mem_cons_of_mem _)⟩
        · exact h
  exact key _ [] (fun k hk => by cases hk)
def Sfl (ws : World) (FPd : Nat → Prop) (b : Bool) (w' : World) : Prop := ws.heap.size ≤ w'.heap.size ∧ (∀ k, k < ws.heap.size → ¬ FPd k → w'.heap[k]? = ws.heap[k]?) ∧ (b = true → ∀ k, k < ws.heap.size → w'.heap[k]? = ws.heap[k]?)
theorem draw_ok2 {ops : Array Oper} {ws : World} {FPd : Nat → Prop} {wrd : Nat → Bool} {m0 : Mem} {mods Wr Er : List Nat} {B0 : Names} (hro : ∀ ad v, H ad = some v → ws.cell? ad = some v ∧ ad.block < ws.heap.size ∧ ¬ FPd ad.block) (hsel : Region.noSelect ops = true)
    (hWr : Wr.all (fun j => decide (j < ops.size)) = true) (hFP : ∀ k, FPd k → ∃ n ∈ mods, B0 n = some k) (hB0 : ∀ n ∈ mods, ∃ o, look m0 n = some o)
    (hws : Inv ws FPd wrd m0 nx H B0 ws)
    {K : Slots → Mem → Nat → Prop} {Q : Exit → Act → World → Prop} (hQ : ∀ c a w, ¬ Q (.panic c) a w) :
    ∀ (plan : List (Nat × Bool)) (fuel : Nat) (listed : Array Bool) {t : Slots} {m : Mem} {nx : Nat} {B : Names} {a : Act} {w : World}, plan.length ≤ fuel → listed.size = ops.size → planOk ops plan listed = true → (plan.all fun p => p.2 || !Wr.contains p.1) = true → chkE ops Wr Er plan listed = true →
      drawy P N wrd m0 mods Wr Er ops K plan t m nx → Inv ws FPd wrd m nx H B w → SlotsOk N H B t a → Ext H B0 H B → Sfl ws FPd (flg Wr listed) w →
      (∀ t' m' nx' B' a' w', a'.defers = a.defers → K t' m' nx' → Ext H B H B' → Inv ws FPd wrd m' nx' H B' w' → SlotsOk N H B' t' a' → Q .normal a' w') →
      wpAnyF P .any ops Q Wr (Sfl ws FPd) fuel listed a w
  | [], fuel, listed, t, m, nx, B, a, w, hl, hsz, hp, hpw, hck, h, hi, hs, hx0, hS, hq => wpAnyF_done (by simpa [planOk] using hp) (hq _ _ _ _ _ _ rfl h (Ext.refl _ _) hi hs) fuel
  | (i, single) :: r, 0, listed, t, m, nx, B, a, w, hl, hsz, hp, hpw, hck, h, hi, hs, hx0, hS, hq => by simp at hl
  | (i, single) :: r, fuel + 1, listed, t, m, nx, B, a, w, hl, hsz, hp, hpw, hck, h, hi, hs, hx0, hS, hq => by
    have hS10 : ∀ w, Sfl ws FPd true w → Sfl ws FPd false w := fun w h => ⟨h.1, h.2.1, fun e => by cases e⟩
    simp only [List.all_cons, Bool.and_eq_true] at hpw
    simp only [chkE, Bool.and_eq_true] at hck
    unfold drawy DyO at h
    split at h
    · exact h.elim
    · rename_i o ho
      obtain ⟨hd, h⟩ := h
      have hdef : ∀ v, (a.put o.dst v).defers = a.defers := fun v => by cases h : o.dst <;> rfl
      have hlr : r.length ≤ fuel := by simpa using hl
      have hilt : i < ops.size := (Array.getElem?_eq_some_iff.1 ho).1
      have hsz' : (listed.setIfInBounds i true).size = ops.size := by simpa using hsz
      cases single with
      | true =>
        simp only [planOk, Bool.and_eq_true, beq_iff_eq] at hp
        refine wpAnyF_all hp.1 (by simp) fun j hj => ?_
        have hji : j = i := by simpa using hj
        subst hji
        unfold wpOp
        simp only [ho]
        obtain ⟨t', hs, ⟨hw, h⟩ | ⟨hw, h⟩⟩ := wanted_of hs h
        · rw [if_pos hw]
          unfold DyE at h
          cases hjw : Wr.contains j with
          | true =>
            rw [hjw] at h
            have hfl : flg Wr (listed.setIfInBounds j true) = false := by
              rw [Bool.eq_false_iff]
              intro hf
              have := List.all_eq_true.1 hf j (List.contains_iff_mem.1 hjw)
              rw [Array.getD_eq_getD_getElem?, Array.getElem?_setIfInBounds_self_of_lt (by omega)] at this
              cases this
            refine .inl (gives_wp (opx_ok (fz := false) hi hs h) fun v av m' nx' B' H' w' hH h1 h2 h3 h4 => ?_)
            have hHe := hH rfl
            rw [hHe] at h1 h2 h3
            have hS' : Sfl ws FPd (flg Wr (listed.setIfInBounds j true)) w' := by rw [hfl]; exact ⟨h1.size, h1.frame, fun e => by cases e⟩
            refine ⟨hS', ?_⟩
            exact draw_ok2 hro hsel hWr hFP hB0 hws hQ r fuel _ hlr hsz' hp.2 hpw.2 hck.2 h4 h1 ((hs.mono h2).putd hd h3) (hx0.trans h2) hS' fun t' m'' nx'' B'' a' w'' hdf hk hx => hq t' m'' nx'' B'' a' w'' (hdf.trans (hdef v)) hk (h2.trans hx)
          | false =>
            rw [hjw] at h
            have hjW : j ∉ Wr := fun h' => by rw [List.contains_iff_mem.2 h'] at hjw; cases hjw
            have hst := draw_start hi (mods := []) (fun n hn => by cases hn) (ws := w) rfl
            refine .inl (gives_wp (opx_ok (fz := false) hst hs h) fun v av m' nx' B' H' w' hH h1 h2 h3 h4 => ?_)
            have hHe := hH rfl
            rw [hHe] at h1 h2 h3
            have hwn : ∀ n, nx' ≤ n → wrd n = true := fun n hn => by
              cases hwn : wrd n with
              | true => rfl
              | false =>
                obtain ⟨o1, ho1⟩ := hi.keep n hwn
                obtain ⟨c, hc, _⟩ := hi.obj n o1 ho1
                have := h2.nm _ _ hc
                rw [h1.fresh n hn] at this; cases this
            have h1' := draw_end hi (mods := []) (fun n hn => by cases hn) (ws := w) rfl rfl rfl rfl h2 hwn h1
            have hS' : Sfl ws FPd (flg Wr (listed.setIfInBounds j true)) w' := by
              refine ⟨h1'.size, h1'.frame, fun hf k hk => ?_⟩
              rw [flg_set hjW] at hf
              rw [h1.frame k (Nat.lt_of_lt_of_le hk hi.size) (fun ⟨n, hn, _⟩ => by cases hn)]
              exact hS.2.2 hf k hk
            refine ⟨hS', ?_⟩
            exact draw_ok2 hro hsel hWr hFP hB0 hws hQ r fuel _ hlr hsz' hp.2 hpw.2 hck.2 h4 h1' ((hs.mono h2).putd hd h3) (hx0.trans h2) hS' fun t' m'' nx'' B'' a' w'' hdf hk hx => hq t' m'' nx'' B'' a' w'' (hdf.trans (hdef v)) hk (h2.trans hx)
        · rw [if_neg (by rw [hw]; simp)]
          have hS' : Sfl ws FPd (flg Wr (listed.setIfInBounds j true)) w := by
            refine ⟨hS.1, hS.2.1, fun hf => hS.2.2 ?_⟩
            by_cases hjw : j ∈ Wr
            · have := List.all_eq_true.1 hf j hjw
              rw [Array.getD_eq_getD_getElem?, Array.getElem?_setIfInBounds_self_of_lt (by omega)] at this
              cases this
            · rwa [flg_set hjw] at hf
          refine ⟨hS', ?_⟩
          exact draw_ok2 hro hsel hWr hFP hB0 hws hQ r fuel _ hlr hsz' hp.2 hpw.2 hck.2 h hi (hs.putd hd undef_den) hx0 hS' fun t' m'' nx'' B'' a' w'' hdf => hq t' m'' nx'' B'' a' w'' (hdf.trans (hdef undef))
      | false =>
        simp only [planOk, Bool.and_eq_true] at hp
        have hiW : i ∉ Wr := fun h' => by
          have := hpw.1
          rw [List.contains_iff_mem.2 h'] at this
          cases this
        have hQ' : ∀ (v : Value) (c : List PanicEntry) (a : Act) (w : World), Q (.panic c) (a.put o.dst v) w → Q (.panic c) a w := fun v c a w h => absurd h (hQ _ _ _)
        have hSn : Sfl ws FPd (flg Wr (listed.setIfInBounds i true)) w := by rw [flg_set hiW]; exact hS
        have hE : Er.contains i = true → (∀ j ∈ Wr, j ∈ depsOf ops i) ∧ ∀ k ∈ depsOf ops i, listed.getD k true = false := fun he => by
          have h1 := hck.1
          rw [he] at h1
          simp only [Bool.false_or, Bool.not_true, Bool.and_eq_true, List.all_eq_true] at h1
          exact ⟨fun j hj => List.contains_iff_mem.1 (h1.1 j hj), fun k hk => by simpa using h1.2 k hk⟩
        have hfl : Er.contains i = true → flg Wr listed = true := fun he => List.all_eq_true.2 fun j hj => by
          rw [(hE he).2 j ((hE he).1 j hj)]; rfl
        obtain ⟨t', hs, ⟨hw, h⟩ | ⟨hw, h⟩⟩ := wanted_of hs h
        · unfold DyE at h
          obtain ⟨v, av, hr, hdv, hk⟩ := rdx_ok hi hs h
          refine wpAnyF_take (b := Er.contains i) (C := if Er.contains i then depsOf ops i else []) ho hS10 (by split; exact deps_ok ops i; exact fun k hk => by cases hk) (fun he => by rw [if_pos he]; exact (hE he).1) (by split; rename_i he; exact (hE he).2; exact fun k hk => by cases hk) hiW hsel hp.1.1 hp.1.2 hfl (hQ' v) (.inl ⟨hw, fun w' hw' => hr w' ⟨fun ad u e => ?_, fun n o' b hn hrd hb => ?_⟩⟩) hS ?_
          · obtain ⟨g1, g2, g3⟩ := hro ad u e
            exact (World.cell?_of_block (w := ws) (hw'.2.1 _ g2 g3)).trans g1
          · simp only [Bool.or_eq_true, Bool.not_eq_true', Bool.and_eq_true] at hrd
            rcases hrd with hrd | ⟨he, hmn⟩
            · obtain ⟨c, hc, _, _, _, r2⟩ := hi.obj n o' hn
              rw [hb] at hc; cases hc
              obtain ⟨g1, g2⟩ := r2 hrd
              rw [hw'.2.1 b g1 g2, hi.frame b g1 g2]
            · obtain ⟨o9, hlk⟩ := hB0 n (List.contains_iff_mem.1 hmn)
              obtain ⟨b1, hb1, _, hlt, _⟩ := hws.obj n _ hlk
              have := hx0.nm _ _ hb1
              rw [hb] at this; cases this
              rw [hw'.2.2 he b hlt, hS.2.2 (hfl he) b hlt]
          · exact draw_ok2 hro hsel hWr hFP hB0 hws hQ r fuel _ hlr hsz' hp.2 hpw.2 hck.2 hk hi (hs.putd hd hdv) hx0 hSn fun t' m'' nx'' B'' a' w'' hdf => hq t' m'' nx'' B'' a' w'' (hdf.trans (hdef v))
        · refine wpAnyF_take (b := false) (C := []) ho hS10 (fun k hk => by cases hk) (fun e => by cases e) (fun k hk => by cases hk) hiW hsel hp.1.1 hp.1.2 (fun e => by cases e) (hQ' undef) (.inr ⟨hw, rfl⟩) hS ?_
          exact draw_ok2 hro hsel hWr hFP hB0 hws hQ r fuel _ hlr hsz' hp.2 hpw.2 hck.2 h hi (hs.putd hd undef_den) hx0 hSn fun t' m'' nx'' B'' a' w'' hdf => hq t' m'' nx'' B'' a' w'' (hdf.trans (hdef undef))
theorem exec_ok {fz : Bool} {nf : Nat} : ∀ (c : Code) {K : Kx} {t : Slots} {m : Mem} {nx : Nat} {H : RO} {B : Names} {a : Act} {w : World}, exec P fz N nf wr c t m nx K → Inv w0 FP wr m nx H B w → SlotsOk N H B t a → c.wp P (Post fz nf w0 FP wr H B N a.defers K) a w := by
  intro c
  induction c with
  | skip => intro K t m nx H B a w h hi hs; exact wp_skip ⟨trivial, rfl, t, m, nx, B, H, h, fun _ _ _ e => e, ⟨fun _ _ e => e, fun _ => rfl⟩, hi, hs⟩
  | exit id => intro K t m nx H B a w h hi hs; exact wp_exit ⟨trivial, rfl, t, m, nx, B, H, h, fun _ _ _ e => e, ⟨fun _ _ e => e, fun _ => rfl⟩, hi, hs⟩
  | ret => intro K t m nx H B a w h hi hs; exact wp_ret ⟨trivial, rfl, t, m, nx, B, H, h, fun _ _ _ e => e, ⟨fun _ _ e => e, fun _ => rfl⟩, hi, hs⟩
  | region id ops draw =>
    intro K t m nx H B a w h hi hs
    cases draw with
    | false =>
      refine wp_region_list (opsx_ok ops.toList h hi hs fun t' m' nx' B' H' a' w' hd hk hz hx h1 h2 => ?_)
      exact ⟨trivial, hd, t', m', nx', B', H', hk, fun n b _ e => hx.nm n b e, ⟨hx.ro, hz⟩, h1, h2⟩
    | true =>
      obtain ⟨hmo, ⟨plan, mods, hB, hm, h⟩ | ⟨plan, mods, Wr, Er, hB, hY, hm, h⟩ | ⟨plan, mods, hB, hm, h⟩⟩ := h
      case inr.inl =>
        simp only [drawB, Bool.and_eq_true, decide_eq_true_eq] at hB
        simp only [planY, Bool.and_eq_true] at hY
        have hst := draw_start hi hm (ws := { w with drawn := w.drawn + 1 }) rfl
        have hfl0 : flg Wr (Array.replicate ops.size false) = true := by
          refine List.all_eq_true.2 fun j hj => ?_
          have hjs := of_decide_eq_true (List.all_eq_true.1 hY.2 j hj)
          rw [Array.getD_eq_getD_getElem?, Array.getElem?_replicate, if_pos hjs]
          rfl
        refine wp_region_flagged hmo (draw_ok2 (m0 := m) (B0 := B) (fun ad v e => ?_) hB.1.1 hY.2 (fun k hk => hk) (fun n hn => Option.isSome_iff_exists.1 (hm n hn).2) hst (fun c a w h => h.1) plan ops.size _ hB.1.2 (by simp) hB.2 hY.1.1 hY.1.2 h hst hs (Ext.refl _ _) (by rw [hfl0]; exact ⟨Nat.le_refl _, fun _ _ _ => rfl, fun _ _ _ => rfl⟩) fun t' m' nx' B' a' w' hd hk hx h1 h2 => ?_)
        · obtain ⟨g1, g2⟩ := hst.ro ad v e
          refine ⟨g1, block_lt_of_cell g1, ?_⟩
          rintro ⟨n, hn, hb⟩
          obtain ⟨o, ho⟩ := Option.isSome_iff_exists.1 (hm n hn).2
          exact g2 n o ho hb
        · refine ⟨trivial, hd, t', m', nx', B', H, hk, fun n b _ e => hx.nm n b e, ⟨fun _ _ e => e, fun _ => rfl⟩, ?_, h2⟩
          refine draw_end hi hm (ws := { w with drawn := w.drawn + 1 }) rfl rfl rfl rfl hx (fun n hn => ?_) h1
          cases hwn : wr n with
          | true => rfl
          | false =>
            obtain ⟨o1, ho1⟩ := hi.keep n hwn
            obtain ⟨c, hc, _⟩ := hi.obj n o1 ho1
            have := hx.nm _ _ hc
            rw [h1.fresh n hn] at this; cases this
      case inr.inr =>
        simp only [drawTB, Bool.and_eq_true, decide_eq_true_eq] at hB
        have hst := draw_start hi hm (ws := { w with drawn := w.drawn + 1 }) rfl
        refine wp_region_held hmo (S := _) (draw_okT (fun ad v e => ?_) hB.1.1 (fun c a w h => h.1) plan ops.size _ hB.1.2 hB.2 h hst hs fun t' m' nx' B' a' w' hd hk hx h1 h2 => ?_)
        · obtain ⟨g1, g2⟩ := hst.ro ad v e
          refine ⟨g1, block_lt_of_cell g1, ?_⟩
          rintro ⟨n, hn, hb⟩
          obtain ⟨o, ho⟩ := Option.isSome_iff_exists.1 (hm n hn).2
          exact g2 n o ho hb
        · refine ⟨trivial, hd, t', m', nx', B', H, hk, fun n b _ e => hx.nm n b e, ⟨fun _ _ e => e, fun _ => rfl⟩, ?_, h2⟩
          refine draw_end hi hm (ws := { w with drawn := w.drawn + 1 }) rfl rfl rfl rfl hx (fun n hn => ?_) h1
          cases hwn : wr n with
          | true => rfl
          | false =>
            obtain ⟨o1, ho1⟩ := hi.keep n hwn
            obtain ⟨c, hc, _⟩ := hi.obj n o1 ho1
            have := hx.nm _ _ hc
            rw [h1.fresh n hn] at this; cases this
      simp only [drawB, Bool.and_eq_true, decide_eq_true_eq] at hB
      have hst := draw_start hi hm (ws := { w with drawn := w.drawn + 1 }) rfl
      refine wp_region_held hmo (S := _) (draw_ok (fun ad v e => ?_) hB.1.1 (fun c a w h => h.1) plan ops.size _ hB.1.2 hB.2 h hst hs fun t' m' nx' B' a' w' hd hk hx h1 h2 => ?_)
      · obtain ⟨g1, g2⟩ := hst.ro ad v e
        refine ⟨g1, block_lt_of_cell g1, ?_⟩
        rintro ⟨n, hn, hb⟩
        obtain ⟨o, ho⟩ := Option.isSome_iff_exists.1 (hm n hn).2
        exact g2 n o ho hb
      · refine ⟨trivial, hd, t', m', nx', B', H, hk, fun n b _ e => hx.nm n b e, ⟨fun _ _ e => e, fun _ => rfl⟩, ?_, h2⟩
        refine draw_end hi hm (ws := { w with drawn := w.drawn + 1 }) rfl rfl rfl rfl hx (fun n hn => ?_) h1
        cases hwn : wr n with
        | true => rfl
        | false =>
          obtain ⟨o1, ho1⟩ := hi.keep n hwn
          obtain ⟨c, hc, _⟩ := hi.obj n o1 ho1
          have := hx.nm _ _ hc
          rw [h1.fresh n hn] at this; cases this
  | seq x y ihx ihy =>
    intro K t m nx H B a w h hi hs
    refine wp_seq (wp_mono (ihx h hi hs) fun e a' w' hp => ?_)
    obtain ⟨h0, hd, t', m', nx', B', H', hk, hx, hH, h1, h2⟩ := hp
    cases e with
    | normal =>
      have := ihy (K := K) hk h1 h2
      refine wp_mono this fun e a'' w'' ⟨g0, gd, t2, m2, nx2, B2, H2, gk, gx, gH, g⟩ => ⟨g0, gd.trans hd, t2, m2, nx2, B2, H2, gk, fun n b hn e => gx n b hn (hx n b hn e), ⟨fun ad v e => gH.1 ad v (hH.1 ad v e), fun e => (gH.2 e).trans (hH.2 e)⟩, g⟩
    | exit i => exact ⟨trivial, hd, t', m', nx', B', H', hk, hx, hH, h1, h2⟩
    | ret => exact ⟨trivial, hd, t', m', nx', B', H', hk, hx, hH, h1, h2⟩
    | goto l => exact h0.elim
    | panic ch => exact h0.elim
    | outgrown => exact h0.elim
  | cond c x y ihx ihy =>
    intro K t m nx H B a w h hi hs
    obtain ⟨v, e, h⟩ := withv_elim h
    split at h
    · rename_i q
      have hc := evx_ok hs e
      simp only [Den] at hc
      cases q with
      | true => exact wp_cond_true hc (ihx (h.1 rfl) hi hs)
      | false => exact wp_cond_false hc (ihy (h.2 rfl) hi hs)
    · exact h.elim
  | block id c ih =>
    intro K t m nx H B a w h hi hs
    refine wp_block (wp_mono (ih h hi hs) fun e a' w' hp => ?_)
    obtain ⟨h0, hd, t', m', nx', B', H', hk, hx, hH, h1, h2⟩ := hp
    cases e with
    | normal => exact ⟨trivial, hd, t', m', nx', B', H', hk, hx, hH, h1, h2⟩
    | exit i =>
      simp only [Exit.inBlock]
      unfold Blk at hk
      split
      · rename_i hid; simp only [hid, if_true] at hk; exact ⟨trivial, hd, t', m', nx', B', H', hk, hx, hH, h1, h2⟩
      · rename_i hid; simp only [hid, if_false] at hk; exact ⟨trivial, hd, t', m', nx', B', H', hk, hx, hH, h1, h2⟩
    | ret => exact ⟨trivial, hd, t', m', nx', B', H', hk, hx, hH, h1, h2⟩
    | goto l => exact h0.elim
    | panic ch => exact h0.elim
    | outgrown => exact h0.elim
  | loop c ih =>
    intro K t m nx H B a w h hi hs
    obtain ⟨ι, S, μ, ⟨i0, hle0⟩, hround⟩ := h
    obtain ⟨H0, B0, hH0, hi0, hs0, hx0⟩ : ∃ H' B', ((∀ ad v, H ad = some v → H' ad = some v) ∧ (fz = false → H' = H)) ∧ Inv w0 FP wr (S i0).2.1 (S i0).2.2 H' B' w ∧ SlotsOk N H' B' (S i0).1 a ∧ ExtN nf B B' := by
      rcases hle0 with ⟨l, h⟩ | ⟨hz, h⟩
      · obtain ⟨h1, h2, h3⟩ := h.ok hi hs
        exact ⟨H, _, ⟨fun _ _ e => e, fun _ => rfl⟩, h1, h2, h3⟩
      · obtain ⟨H', B', h0, h1, h2, h3⟩ := h.ok hi hs
        exact ⟨H', B', ⟨h0, fun e => by rw [hz] at e; cases e⟩, h1, h2, h3⟩
    refine wp_loop_ghost (fun n a' w' => a'.defers = a.defers ∧ ∃ i B' H', μ i = n ∧ ExtN nf B B' ∧ ((∀ ad v, H ad = some v → H' ad = some v) ∧ (fz = false → H' = H)) ∧ Inv w0 FP wr (S i).2.1 (S i).2.2 H' B' w' ∧ SlotsOk N H' B' (S i).1 a') (μ i0) ⟨rfl, i0, B0, H0, rfl, hx0, hH0, hi0, hs0⟩ ?_
    rintro n a' w' ⟨hd, i, B', H', rfl, hx, hH, h1, h2⟩
    refine wp_mono (ih (hround i) h1 h2) fun e a'' w'' hp => ?_
    obtain ⟨h0, hd', t', m', nx', B'', H'', hk, gx, gH, g1, g2⟩ := hp
    have hx' : ExtN nf B B'' := fun n b hn e => gx n b hn (hx n b hn e)
    have hH' : (∀ ad v, H ad = some v → H'' ad = some v) ∧ (fz = false → H'' = H) := ⟨fun ad v e => gH.1 ad v (hH.1 ad v e), fun e => (gH.2 e).trans (hH.2 e)⟩
    cases e with
    | normal =>
      obtain ⟨j, hj, l, hle⟩ := hk
      have h3 := hle.ok g1 g2
      exact ⟨μ j, hj, hd'.trans hd, j, _, H'', rfl, fun n b hn e => h3.2.2 n b hn (hx' n b hn e), hH', h3.1, h3.2.1⟩
    | exit i => exact ⟨trivial, hd'.trans hd, t', m', nx', B'', H'', hk, hx', hH', g1, g2⟩
    | ret => exact ⟨trivial, hd'.trans hd, t', m', nx', B'', H'', hk, hx', hH', g1, g2⟩
    | goto l => exact h0.elim
    | panic ch => exact h0.elim
    | outgrown => exact h0.elim
  | _ => intro K t m nx H B a w h hi hs; exact h.elim
end
end Go.Eng
end
section
/- The engine, part 10: a function's contract; a contract met in a greater memory; a law's call. Own work. -/
set_option linter.unusedVariables false
set_option linter.unusedSimpArgs false
namespace Go.Eng
open Go Go.RowKit

section
variable {P : Program} {w0 w : World} {FP : Nat → Prop} {wr rd : Nat → Bool} {m : Mem} {nx : Nat} {H : RO} {B : Names} {N : Nat} {t : Slots} {a : Act}

/-! results -/
def resx (P : Program) (t : Slots) (m : Mem) : List ResultVar → (List AV → Prop) → Prop
  | [], k => k []
  | .tmp s :: r, k => withv (look t s) fun v => resx P t m r fun l => k (v :: l)
  | .cell s ty :: r, k => withv (look t s) fun p => loadx P (fun _ => true) m ty p fun v => resx P t m r fun l => k (v :: l)
def resv : List AV → AV
  | [v] => v
  | l => .tup l
def resF (tmps : Array Value) : ResultVar → Sem Value := fun
    | .tmp t => pure (tmps.getD t undef)
    | .cell a t => do loadVar t (← asAddr (tmps.getD a undef))
theorem resx_ok (hi : Inv w0 FP wr m nx H B w) (hs : SlotsOk N H B t a) : ∀ {rs : List ResultVar} {k : List AV → Prop}, resx P t m rs k → ∃ vs l, (rs.mapM (resF a.tmps)).run P w = .ok vs w ∧ DenL H B l vs ∧ k l
  | [], k, h => ⟨[], [], rfl, by simp [DenL], h⟩
  | .tmp s :: r, k, h => by
    obtain ⟨v, e, h⟩ := withv_elim h
    obtain ⟨vs, l, h1, h2, h3⟩ := resx_ok hi hs h
    refine ⟨a.tmps.getD s undef :: vs, v :: l, ?_, by simp only [DenL]; exact ⟨_, _, rfl, hs.2 s v e, h2⟩, h3⟩
    simp only [List.mapM_cons, resF, Sem.run_bind, Sem.run_pure, Result.andThen_ok]
    rw [h1]
    rfl
  | .cell s ty :: r, k, h => by
    obtain ⟨p, e, h⟩ := withv_elim h
    have hp := hs.2 s p e
    obtain ⟨u, av, h1, h2, h⟩ := loadx_ok hi h hp
    obtain ⟨vs, l, h3, h4, h5⟩ := resx_ok hi hs h
    have h1' := h1 w (hi.sees _)
    refine ⟨u :: vs, av :: l, ?_, by simp only [DenL]; exact ⟨_, _, rfl, h2, h4⟩, h5⟩
    have hform : ∃ ad, a.tmps.getD s undef = .pointer (some ad) := by
      generalize a.tmps.getD s undef = z at h1'
      cases z with
      | pointer o => cases o with
        | some ad => exact ⟨ad, rfl⟩
        | none => simp [Instr.loadAt, Instr.sureAddr] at h1'
      | _ => simp [Instr.loadAt, Instr.sureAddr] at h1'
    obtain ⟨ad, had⟩ := hform
    rw [had] at h1'
    simp only [Instr.loadAt, Instr.sureAddr, Sem.run_bind, Sem.run_pure, Result.andThen_ok] at h1'
    simp only [List.mapM_cons, resF, Sem.run_bind, had, asAddr, Sem.run_pure, Result.andThen_ok, h1']
    rw [h3]
    rfl
theorem results_eq (fn : Func) (tmps : Array Value) : results fn tmps = (do let vs ← fn.results.mapM (resF tmps); pure (if h : vs.size = 1 then vs[0] else .tuple vs)) := by
  unfold results
  congr 1
theorem results_run {fn : Func} {tmps : Array Value} {vs : List Value} (h : (fn.results.toList.mapM (resF tmps)).run P w = .ok vs w) :
    (results fn tmps).run P w = .ok (if h : vs.toArray.size = 1 then vs.toArray[0] else .tuple vs.toArray) w := by
  have e : (fn.results.mapM (resF tmps)).run P w = .ok vs.toArray w := by
    rw [← Array.toArray_toList (xs := fn.results), List.mapM_toArray, Sem.run_map]
    rw [Array.toArray_toList, h]
    rfl
  rw [results_eq, Sem.run_bind, e]
  rfl
theorem resv_den {l : List AV} {vs : List Value} (h : DenL H B l vs) : Den H B (resv l) (if h : vs.toArray.size = 1 then vs.toArray[0] else .tuple vs.toArray) := by
  match l, vs, h with
  | [], vs, h => simp only [DenL] at h; subst h; simp only [resv, Den]; exact ⟨[], by simp, by simp [DenL]⟩
  | [x], vs, h =>
    simp only [DenL] at h
    obtain ⟨v, s, rfl, h1, rfl⟩ := h
    simpa [resv] using h1
  | x :: y :: r, vs, h =>
    have hl := h.length
    have h' := h
    simp only [resv, Den]
    refine ⟨vs, ?_, h'⟩
    rw [dif_neg (by simp at hl ⊢; omega)]

/-- the end: the result, and the memory that is told of, in names that the contract tells -/
def Fin (nx0 : Nat) (wr : Nat → Bool) (m : Mem) (nx : Nat) (K : Kv) (v : AV) : Prop :=
  ∃ (l : List (Nat × Nat)) (v0 : AV) (m0 : Mem) (nx1 : Nat), (l.all (fun p => decide (nx0 ≤ p.1) && decide (p.1 < nx1)) = true ∧ nx0 ≤ nx1) ∧ v = renA (rf l nx nx1) v0 ∧ memLe (rf l nx nx1) wr wr m m0 ∧ injOn (rf l nx nx1) m0 ∧ (∀ n, wr n = false → ∃ o, look m0 n = some o) ∧ K v0 m0 nx1
def FinK (nx0 : Nat) (wr : Nat → Bool) (m : Mem) (nx : Nat) (K : Kv) : List AV → Prop := fun l => Fin nx0 wr m nx K (resv l)
def RetK (P : Program) (rs : List ResultVar) (nx0 : Nat) (wr : Nat → Bool) (K : Kv) : Kx := fun e t m nx => match e with
  | .ret => resx P t m rs (FinK nx0 wr m nx K)
  | .normal => resx P t m rs (FinK nx0 wr m nx K)
  | _ => False
def params : List AV → Nat → Slots
  | [], _ => []
  | v :: r, i => (i, v) :: params r (i + 1)
theorem params_look : ∀ {l : List AV} {i s : Nat} {v : AV}, look (params l i) s = some v → i ≤ s ∧ l[s - i]? = some v
  | [], i, s, v, h => by cases h
  | x :: r, i, s, v, h => by
    simp only [params, look] at h
    split at h
    · rename_i e; subst e; cases h; exact ⟨Nat.le_refl _, by simp⟩
    · have ⟨h1, h2⟩ := params_look h
      refine ⟨by omega, ?_⟩
      rw [show s - i = (s - (i + 1)) + 1 by omega]
      simpa using h2
theorem fn_okG {fz : Bool} {g : FuncId} {fn : Func} {c : Code} {args : List AV} {K : Kv} (hf : P.funcs[g]? = some fn) (hb : fn.body = some c) (ha : args.length ≤ fn.ntmps)
    (h : exec P fz fn.ntmps nx wr c (params args 0) m nx (RetK P fn.results.toList nx wr K)) : CallG fz P g args wr m nx K := by
  intro w0 FP H B w vs hi hd
  refine calls_of_wp hf hb ?_
  have hsz : vs.toArray.size = args.length := by simp [hd.length]
  have hs : SlotsOk fn.ntmps H B (params args 0) { tmps := vs.toArray ++ Array.replicate (fn.ntmps - vs.toArray.size) undef, defers := [] } := by
    refine ⟨by simp only [Array.size_append, Array.size_replicate, hsz]; omega, fun s av e => ?_⟩
    obtain ⟨_, h2⟩ := params_look e
    rw [Nat.sub_zero] at h2
    obtain ⟨v, hv, hdv⟩ := hd.get s av h2
    have hlt : s < vs.length := (List.getElem?_eq_some_iff.1 hv).1
    rw [Array.getD_eq_getD_getElem?, Array.getElem?_append_left (by simpa using hlt)]
    simpa [hv] using hdv
  refine wp_mono (exec_ok c h hi hs) fun e a' w' hp => ?_
  obtain ⟨h0, hdf, t, m', nx', B', H', hk, hx, hH, h1, h2⟩ := hp
  have key : resx P t m' fn.results.toList (FinK nx wr m' nx' K) → a'.defers = [] ∧ ∃ v, (results fn a'.tmps).run P w' = .ok v w' ∧ ∃ v' av m' nx' B' H', Ending.returned v = .returned v' ∧ (fz = false → H' = H) ∧ Inv w0 FP wr m' nx' H' B' w' ∧ Ext H B H' B' ∧ Den H' B' av v' ∧ K av m' nx' := by
    intro hk
    obtain ⟨vs, rl, hr, hdl, l', v0, m0, nx1, ⟨hkeys, hle⟩, hv, hml, hinj, hkeep, hK⟩ := resx_ok h1 h2 hk
    have hle' : Le nx l' wr [] m' nx' [] m0 nx1 := ⟨hkeys, hle, trivial, hml, hinj, hkeep, fun n hn => hi.wrn n (Nat.le_trans hle hn)⟩
    have h3 := hle'.ok h1 (a := a') (N := a'.tmps.size) ⟨rfl, fun s av e => by cases e⟩
    refine ⟨hdf, _, results_run hr, _, v0, m0, nx1, fun n => B' (rf l' nx' nx1 n), H', rfl, hH.2, h3.1, ⟨hH.1, fun n b e => ?_⟩, ?_, hK⟩
    · have hn : n < nx := by
        rcases Nat.lt_or_ge n nx with h' | h'
        · exact h'
        · rw [hi.fresh n h'] at e; cases e
      exact h3.2.2 n b hn (hx n b hn e)
    · have := resv_den hdl
      rw [hv] at this
      exact den_ren v0 this
  cases e with
  | normal => exact key hk
  | ret => exact key hk
  | exit i => exact hk.elim
  | goto l => exact h0.elim
  | panic ch => exact h0.elim
  | outgrown => exact h0.elim
theorem fn_ok {g : FuncId} {fn : Func} {c : Code} {args : List AV} {K : Kv} (hf : P.funcs[g]? = some fn) (hb : fn.body = some c) (ha : args.length ≤ fn.ntmps)
    (h : exec P true fn.ntmps nx wr c (params args 0) m nx (RetK P fn.results.toList nx wr K)) : CallOk P g args wr m nx K := fn_okG hf hb ha h

/-! a contract, met in a greater memory -/
def callLe (f : Nat → Nat) (wr wr0 : Nat → Bool) (m : Mem) : Mem → Prop
  | [] => True
  | (n, o) :: r => look m (f n) = some (renO f o) ∧ (wr0 n = true → wr (f n) = true) ∧ callLe f wr wr0 m r
theorem callLe_look {f : Nat → Nat} {wr wr0 : Nat → Bool} {m : Mem} : ∀ {m0 : Mem}, callLe f wr wr0 m m0 → ∀ n o, look m0 n = some o → look m (f n) = some (renO f o) ∧ (wr0 n = true → wr (f n) = true)
  | [], _, s, v, e => by cases e
  | (k, x) :: r, h, s, v, e => by
    simp only [callLe] at h
    simp only [look] at e
    split at e
    · rename_i hk; cases e; subst hk; exact ⟨h.1, h.2.1⟩
    · exact callLe_look h.2.2 s v e
/-- an argument of the caller's, as the callee sees it -/
def argx (m : Mem) (own : List Nat) (f : Nat → Nat) (x x0 : AV) : Prop :=
  match x, x0 with
  | .sl n off len cap, .ro len0 xs => len0 = len ∧ own.contains n = false ∧ match look m n with
    | some (.cells l _) => xs.all flat = true ∧ (len = 0 → xs.length = 0) ∧ off + xs.length ≤ l.length ∧ xs = (l.drop off).take xs.length
    | some (.fz l _) => xs.all flat = true ∧ (len = 0 → xs.length = 0) ∧ off + xs.length ≤ l.length ∧ xs = (l.drop off).take xs.length
    | _ => False
  | .nils, .ro len0 xs => len0 = 0 ∧ xs = []
  | x, x0 => x = renA f x0
def argsx (m : Mem) (own : List Nat) (f : Nat → Nat) : List AV → List AV → Prop
  | [], [] => True
  | x :: r, x0 :: r0 => argx m own f x x0 ∧ argsx m own f r r0
  | _, _ => False
def delAll (m : Mem) : List Nat → Mem
  | [] => m
  | n :: r => delAll (del m n) r
theorem look_delAll : ∀ {ns : List Nat} {m : Mem} {k : Nat} {o : AObj}, look (delAll m ns) k = some o → look m k = some o ∧ k ∉ ns
  | [], m, k, o, h => ⟨h, by simp⟩
  | n :: r, m, k, o, h => by
    obtain ⟨h1, h2⟩ := look_delAll (ns := r) h
    have hne : n ≠ k := fun e => by subst e; rw [look_del_same] at h1; cases h1
    rw [look_del_other hne] at h1
    exact ⟨h1, by simp [h2, Ne.symm hne]⟩
theorem look_delAll_of : ∀ {ns : List Nat} {m : Mem} {k : Nat} {o : AObj}, look m k = some o → k ∉ ns → look (delAll m ns) k = some o
  | [], m, k, o, h, _ => h
  | n :: r, m, k, o, h, hn => by
    simp only [List.mem_cons, not_or] at hn
    exact look_delAll_of (ns := r) (by rw [look_del_other (Ne.symm hn.1)]; exact h) hn.2
theorem look_append (x y : Mem) (k : Nat) : look (x ++ y) k = (look x k).or (look y k) := by
  induction x with
  | nil => rfl
  | cons p r ih =>
    obtain ⟨n, o⟩ := p
    simp only [List.cons_append, look]
    split
    · rfl
    · exact ih
theorem look_renM {f : Nat → Nat} (hf : ∀ a b, f a = f b → a = b) (m : Mem) (n : Nat) : look (renM f m) (f n) = (look m n).map (renO f) := by
  induction m with
  | nil => rfl
  | cons p r ih =>
    obtain ⟨k, o⟩ := p
    simp only [renM, look]
    by_cases e : k = n
    · subst e; simp
    · rw [if_neg (fun e' => e (hf _ _ e')), if_neg e]; exact ih
theorem look_renM_some {f : Nat → Nat} {m : Mem} {k : Nat} {o : AObj} (h : look (renM f m) k = some o) : ∃ n, k = f n := by
  induction m with
  | nil => cases h
  | cons p r ih =>
    obtain ⟨n, o'⟩ := p
    simp only [renM, look] at h
    split at h
    · rename_i e; exact ⟨n, e.symm⟩
    · exact ih h
theorem args_den (hi : Inv w0 FP wr m nx H B w) {own : List Nat} {f : Nat → Nat} {H0 : RO} (hH : ∀ ad v, H ad = some v → H0 ad = some v)
    (hown : ∀ n o b, look m n = some o → own.contains n = false → B n = some b → ∀ ad : Addr, ad.block = b → H0 ad = w.cell? ad) : ∀ {args args0 : List AV} {vs : List Value}, argsx m own f args args0 → DenL H B args vs → DenL H0 (fun n => B (f n)) args0 vs
  | [], [], vs, _, hd => by simpa only [DenL] using hd
  | [], _ :: _, vs, ha, _ => ha.elim
  | _ :: _, [], vs, ha, _ => ha.elim
  | x :: r, x0 :: r0, vs, ha, hd => by
    obtain ⟨ha1, ha2⟩ := ha
    simp only [DenL] at hd ⊢
    obtain ⟨v, s, rfl, hv, hs⟩ := hd
    refine ⟨v, s, rfl, ?_, args_den hi hH hown ha2 hs⟩
    unfold argx at ha1
    split at ha1
    · rename_i n off len cap len0 xs
      obtain ⟨rfl, hnown, ha1⟩ := ha1
      split at ha1
      · rename_i lc ty hn
        obtain ⟨hfl, hl0, hle, hxs⟩ := ha1
        simp only [Den] at hv ⊢
        obtain ⟨b, ad, hb, rfl, hlc, had⟩ := hv
        refine ⟨some ad, cap, rfl, hlc, ?_⟩
        obtain ⟨b', cs, hb', hc, hdl⟩ := obj_cells hi hn
        rw [hb] at hb'; cases hb'
        refine DenAt.of_get fun j x hj => ?_
        have hjl : j < xs.length := (List.getElem?_eq_some_iff.1 hj).1
        have hcz : cap ≠ 0 := by
          intro h0; subst h0
          have := hl0 (by omega)
          omega
        have hj2 := hj
        rw [hxs, List.getElem?_take, if_pos hjl, List.getElem?_drop] at hj2
        obtain ⟨u, hu, hdu⟩ := hdl.get _ _ hj2
        refine ⟨ad, u, rfl, ?_, flat_den (List.all_eq_true.1 hfl x (List.mem_of_getElem? hj)) hdu⟩
        rw [had hcz, Nat.zero_add, Addr.add_mid, hown n _ b hn hnown hb _ rfl, cell_at w hc]
        exact hu
      · rename_i lc ty hn
        obtain ⟨hfl, hl0, hle, hxs⟩ := ha1
        simp only [Den] at hv ⊢
        obtain ⟨b, ad, hb, rfl, hlc, had⟩ := hv
        refine ⟨some ad, cap, rfl, hlc, ?_⟩
        obtain ⟨b', cs, fr, hb', hc, hdl⟩ := obj_fz hi hn
        rw [hb] at hb'; cases hb'
        refine DenAt.of_get fun j x hj => ?_
        have hjl : j < xs.length := (List.getElem?_eq_some_iff.1 hj).1
        have hcz : cap ≠ 0 := by
          intro h0; subst h0
          have := hl0 (by omega)
          omega
        have hj2 := hj
        rw [hxs, List.getElem?_take, if_pos hjl, List.getElem?_drop] at hj2
        obtain ⟨u, hu, hdu⟩ := hdl.get _ _ hj2
        refine ⟨ad, u, rfl, ?_, flat_den (List.all_eq_true.1 hfl x (List.mem_of_getElem? hj)) hdu⟩
        rw [had hcz, Nat.zero_add, Addr.add_mid, hown n _ b hn hnown hb _ rfl, cell_at w hc]
        exact hu
      · exact ha1.elim
    · obtain ⟨rfl, rfl⟩ := ha1
      simp only [Den] at hv ⊢
      subst hv
      exact ⟨none, 0, rfl, Nat.le_refl _, by simp only [DenAt]⟩
    · subst ha1
      exact den_ren x0 (hv.mono ⟨hH, fun _ _ e => e⟩)
theorem look_of_mem {m : Mem} {p : Nat × AObj} (hp : p ∈ m) : ∃ o, look m p.1 = some o := by
  induction m with
  | nil => cases hp
  | cons q r ih =>
    obtain ⟨k', o'⟩ := q
    simp only [look]
    split
    · exact ⟨_, rfl⟩
    · rename_i hne
      rcases List.mem_cons.1 hp with hp | hp
      · subst hp; exact absurd rfl hne
      · exact ih hp
theorem CallOk.use {fz : Bool} {g : FuncId} {args0 : List AV} {wr0 : Nat → Bool} {m0 : Mem} {nx0 : Nat} {R : Kv} (h : CallOk P g args0 wr0 m0 nx0 R) (l : List (Nat × Nat)) {args : List AV} {K : Kv}
    (hk : l.all (fun p => decide (p.1 < nx0)) = true) (hm : callLe (rf l nx nx0) wr wr0 m m0) (hinj : injOn (rf l nx nx0) m0) (hall : (List.range nx0).all (fun n => (look m0 n).isSome) = true) (hwr0 : ∀ n, nx0 ≤ n → wr0 n = true)
    (hkeep0 : ∀ n, wr0 n = false → (look m0 n).isSome = true) (ha : argsx m (m0.map fun p => rf l nx nx0 p.1) (rf l nx nx0) args args0)
    (hK : ∀ v m' nx', R v m' nx' → noRo v = true ∧ noRoM m' = true ∧ nx0 ≤ nx' ∧ K (renA (rf l nx nx0) v) (renM (rf l nx nx0) m' ++ delAll m (m0.map fun p => rf l nx nx0 p.1)) (nx + (nx' - nx0))) : CallG fz P g args wr m nx K := by
  intro w0 FP H B w vs hi hd
  generalize hfd : rf l nx nx0 = f at *
  have hlive : ∀ n, n < nx0 → ∃ o, look m0 n = some o := fun n hn => Option.isSome_iff_exists.1 (List.all_eq_true.1 hall n (List.mem_range.2 hn))
  have hflt : ∀ n, n < nx0 → f n < nx := fun n hn => by
    obtain ⟨o, ho⟩ := hlive n hn
    exact hi.lt_nx (callLe_look hm n o ho).1
  have hfge : ∀ n, nx0 ≤ n → f n = n - nx0 + nx := fun n hn => by
    rw [← hfd]
    have hl : look l n = none := by
      induction l with
      | nil => rfl
      | cons x r ih =>
        obtain ⟨k, y⟩ := x
        simp only [List.all_cons, Bool.and_eq_true, decide_eq_true_eq] at hk
        have hr : ∀ {l : List (Nat × Nat)}, l.all (fun p => decide (p.1 < nx0)) = true → look l n = none := by
          intro l hl
          induction l with
          | nil => rfl
          | cons x r ih =>
            obtain ⟨k, y⟩ := x
            simp only [List.all_cons, Bool.and_eq_true, decide_eq_true_eq] at hl
            simp only [look]
            rw [if_neg (by omega)]
            exact ih hl.2
        simp only [look]
        rw [if_neg (by omega)]
        exact hr hk.2
    unfold rf
    rw [hl]
    simp only
    rw [if_neg (by omega)]
  have hfinj : ∀ a b, f a = f b → a = b := fun a b e => by
    rcases Nat.lt_or_ge a nx0 with ha' | ha' <;> rcases Nat.lt_or_ge b nx0 with hb' | hb'
    · obtain ⟨o1, h1⟩ := hlive a ha'
      obtain ⟨o2, h2⟩ := hlive b hb'
      exact injOn_look hinj a b o1 o2 h1 h2 e
    · have := hflt a ha'; rw [e, hfge b hb'] at this; omega
    · have := hflt b hb'; rw [← e, hfge a ha'] at this; omega
    · rw [hfge a ha', hfge b hb'] at e; omega
  -- the callee's view
  let FP0 : Nat → Prop := fun b => ∃ n o, look m0 n = some o ∧ wr0 n = true ∧ B (f n) = some b
  let H0 : RO := fun ad => open Classical in if ∃ n o, look m0 n = some o ∧ B (f n) = some ad.block then none else w.cell? ad
  have hH : ∀ ad v, H ad = some v → H0 ad = some v := fun ad v e => by
    obtain ⟨g1, g2⟩ := hi.ro ad v e
    show (open Classical in if ∃ n o, look m0 n = some o ∧ B (f n) = some ad.block then none else w.cell? ad) = some v
    rw [if_neg]
    · exact g1
    · rintro ⟨n, o, hn, hb⟩
      exact g2 _ _ (callLe_look hm n o hn).1 hb
  have hi0 : Inv w FP0 wr0 m0 nx0 H0 (fun n => B (f n)) w := by
    refine ⟨Nat.le_refl _, rfl, rfl, rfl, fun _ _ _ => rfl, fun ad v e => ?_, fun n o hn => ?_, fun n n' o o' h1 h2 e => ?_, fun n hn => ?_, hwr0, fun n hn => Option.isSome_iff_exists.1 (hkeep0 n hn)⟩
    · have e' : (open Classical in if ∃ n o, look m0 n = some o ∧ B (f n) = some ad.block then none else w.cell? ad) = some v := e
      split at e'
      · cases e'
      · rename_i hno
        exact ⟨e', fun n o hn hb => hno ⟨n, o, hn, hb⟩⟩
    · obtain ⟨h1, h2⟩ := callLe_look hm n o hn
      obtain ⟨b, hb, ho, hl, r1, r2⟩ := hi.obj _ _ h1
      have hx : Ext H B H0 B := ⟨hH, fun _ _ e => e⟩
      refine ⟨b, hb, holds_ren (ho.mono hx rfl), hl, fun e => .inl ⟨n, o, hn, e, hb⟩, fun e => ⟨hl, ?_⟩⟩
      rintro ⟨n', o', hn', hw', hb'⟩
      have := hi.inj _ _ _ _ h1 (callLe_look hm n' o' hn').1 (by rw [hb, hb'])
      have := hfinj _ _ this
      subst this
      rw [hw'] at e; cases e
    · exact hfinj _ _ (hi.inj _ _ _ _ (callLe_look hm n o h1).1 (callLe_look hm n' o' h2).1 e)
    · exact hi.fresh _ (by rw [hfge n hn]; omega)
  have hownr : ∀ k, (m0.map fun p => f p.1).contains k = false → ∀ n o, look m0 n = some o → f n ≠ k := fun k hk n o hn e => by
    have : k ∈ m0.map fun p => f p.1 := by
      rw [← e]
      clear hk hm hinj hall hkeep0 h ha hK hlive hflt hfinj hi0 hwr0 hH
      induction m0 with
      | nil => cases hn
      | cons p r ih =>
        obtain ⟨k', o'⟩ := p
        simp only [look] at hn
        split at hn
        · rename_i e'; subst e'; simp
        · simp only [List.map_cons, List.mem_cons]; exact .inr (ih hn)
    rw [List.contains_iff_mem.2 this] at hk; cases hk
  have hd0 : DenL H0 (fun n => B (f n)) args0 vs := by
    refine args_den hi hH (fun n o b hn hno hb ad hadb => ?_) ha hd
    show (open Classical in if ∃ n o, look m0 n = some o ∧ B (f n) = some ad.block then none else w.cell? ad) = w.cell? ad
    rw [if_neg]
    rintro ⟨n', o', hn', hb'⟩
    have := hi.inj _ _ _ _ (callLe_look hm n' o' hn').1 hn (by rw [hb', hb, hadb])
    exact hownr n hno n' o' hn' this
  refine (h w FP0 H0 (fun n => B (f n)) w vs hi0 hd0).mono fun e w' he => ?_
  obtain ⟨v, av, m', nx', B', H0', rfl, _, hi', hx', hdv, hR⟩ := he
  obtain ⟨hn1, hn2, hle, hk2⟩ := hK av m' nx' hR
  let B2 : Names := fun k => if k < nx then B k else B' (k - nx + nx0)
  have hb2 : ∀ n b, B' n = some b → B2 (f n) = some b := fun n b hb => by
    show (if f n < nx then B (f n) else B' (f n - nx + nx0)) = some b
    rcases Nat.lt_or_ge n nx0 with hn | hn
    · rw [if_pos (hflt n hn)]
      obtain ⟨o, ho⟩ := hlive n hn
      obtain ⟨c, hc, _⟩ := hi.obj _ _ (callLe_look hm n o ho).1
      have := hx'.nm n c hc
      rw [hb] at this; cases this
      exact hc
    · rw [hfge n hn, if_neg (by omega), show n - nx0 + nx - nx + nx0 = n by omega]
      exact hb
  have hx2 : Ext H B H B2 := ⟨fun _ _ e => e, fun k b hb => by
    have : k < nx := by
      rcases Nat.lt_or_ge k nx with h' | h'
      · exact h'
      · rw [hi.fresh k h'] at hb; cases hb
    show (if k < nx then B k else B' (k - nx + nx0)) = some b
    rw [if_pos this]; exact hb⟩
  have hFP0 : ∀ b, FP0 b → FP b ∨ w0.heap.size ≤ b := by
    rintro b ⟨n, o, hn, hw, hb⟩
    obtain ⟨h1, h2⟩ := callLe_look hm n o hn
    obtain ⟨c, hc, _, _, r, _⟩ := hi.obj _ _ h1
    rw [hb] at hc; cases hc
    exact r (h2 hw)
  have hnew : ∀ b, FP0 b ∨ w.heap.size ≤ b → FP b ∨ w0.heap.size ≤ b := fun b h => h.elim (hFP0 b) (fun h => .inr (Nat.le_trans hi.size h))
  -- what a name of the new memory stands for
  have hsplit : ∀ k o, look (renM f m' ++ delAll m (m0.map fun p => f p.1)) k = some o → (∃ n o', k = f n ∧ look m' n = some o' ∧ o = renO f o') ∨ (look m k = some o ∧ k ∉ (m0.map fun p => f p.1)) := fun k o hk => by
    rw [look_append] at hk
    cases h1 : look (renM f m') k with
    | some o1 =>
      rw [h1] at hk; cases hk
      obtain ⟨n, rfl⟩ := look_renM_some h1
      rw [look_renM hfinj] at h1
      obtain ⟨o', ho', e⟩ := Option.map_eq_some_iff.1 h1
      exact .inl ⟨n, o', rfl, ho', e.symm⟩
    | none =>
      rw [h1] at hk
      exact .inr (look_delAll hk)
  have hBf : ∀ n o', look m' n = some o' → ∃ b, B' n = some b ∧ B2 (f n) = some b := fun n o' hn => by
    obtain ⟨b, hb, _⟩ := hi'.obj n o' hn
    exact ⟨b, hb, hb2 n b hb⟩
  have hold : ∀ k o, look m k = some o → B2 k = B k := fun k o hk => by
    show (if k < nx then B k else B' (k - nx + nx0)) = B k
    rw [if_pos (hi.lt_nx hk)]
  -- a block of the caller's that the callee was not handed
  have hapart : ∀ k o b, look m k = some o → k ∉ (m0.map fun p => f p.1) → B k = some b → b < w.heap.size ∧ ¬ FP0 b := fun k o b hk hkn hb => by
    obtain ⟨c, hc, _, hl, _⟩ := hi.obj k o hk
    rw [hb] at hc; cases hc
    refine ⟨hl, ?_⟩
    rintro ⟨n, o', hn, _, hb'⟩
    have := hi.inj _ _ _ _ (callLe_look hm n o' hn).1 hk (by rw [hb', hb])
    have hc : (m0.map fun p => f p.1).contains k = false := by
      cases h : (m0.map fun p => f p.1).contains k with
      | false => rfl
      | true => exact absurd (List.contains_iff_mem.1 h) hkn
    exact hownr k hc n o' hn this
  refine ⟨v, renA f av, _, _, B2, H, rfl, fun _ => rfl, ?_, hx2, den_back hb2 av hn1 hdv, hk2⟩
  refine ⟨Nat.le_trans hi.size hi'.size, hi'.os.trans hi.os, hi'.tape.trans hi.tape, hi'.out.trans hi.out, fun b hb hf => ?_, fun ad u e => ⟨(hi'.ro ad u (hx'.ro ad u (hH ad u e))).1, fun k o hk => ?_⟩, fun k o hk => ?_, fun k k' o o' h1 h2 e => ?_, fun k hk => ?_, fun k hk => hi.wrn k (by omega), fun k hk => ?_⟩
  · rw [hi'.frame b (Nat.lt_of_lt_of_le hb hi.size) (fun h => by rcases hFP0 b h with h' | h'; exact hf h'; omega)]
    exact hi.frame b hb hf
  · rcases hsplit k o hk with ⟨n, o', rfl, hn, rfl⟩ | ⟨hk', _⟩
    · obtain ⟨b, hb, hb'⟩ := hBf n o' hn
      rw [hb', ← hb]
      exact (hi'.ro ad u (hx'.ro ad u (hH ad u e))).2 n o' hn
    · rw [hold k o hk']
      exact (hi.ro ad u e).2 k o hk'
  · rcases hsplit k o hk with ⟨n, o', rfl, hn, rfl⟩ | ⟨hk', hkn⟩
    · obtain ⟨b, hb, ho, hl, r1, r2⟩ := hi'.obj n o' hn
      refine ⟨b, hb2 n b hb, holds_back hb2 (noRoM_look hn2 hn) ho, hl, ?_⟩
      rcases Nat.lt_or_ge n nx0 with hnl | hnl
      · obtain ⟨o1, ho1⟩ := hlive n hnl
        obtain ⟨c, hc, _, _, r3, r4⟩ := hi.obj _ _ (callLe_look hm n o1 ho1).1
        have := hx'.nm n c hc
        rw [hb] at this; cases this
        exact ⟨r3, r4⟩
      · have hw1 : wr (f n) = true := hi.wrn _ (by rw [hfge n hnl]; omega)
        refine ⟨fun _ => hnew b (r1 (hwr0 n hnl)), fun e => ?_⟩
        rw [hw1] at e; cases e
    · obtain ⟨b, hb, ho, hl, r1, r2⟩ := hi.obj k o hk'
      obtain ⟨g1, g2⟩ := hapart k o b hk' hkn hb
      exact ⟨b, by rw [hold k o hk']; exact hb, ho.mono hx2 (hi'.frame b g1 g2), Nat.lt_of_lt_of_le hl hi'.size, r1, r2⟩
  · have hmix : ∀ n o1 k' o2, look m' n = some o1 → look m k' = some o2 → k' ∉ (m0.map fun p => f p.1) → B2 (f n) = B2 k' → False := fun n o1 k' o2 hn hk' hkn e => by
      obtain ⟨b, hb, hb'⟩ := hBf n o1 hn
      rw [hb', hold k' o2 hk'] at e
      obtain ⟨g1, g2⟩ := hapart k' o2 b hk' hkn e.symm
      obtain ⟨c, hc, _, _, r1, r2⟩ := hi'.obj n o1 hn
      rw [hb] at hc; cases hc
      rcases Nat.lt_or_ge n nx0 with hnl | hnl
      · obtain ⟨o3, ho3⟩ := hlive n hnl
        obtain ⟨c, hc, _⟩ := hi.obj _ _ (callLe_look hm n o3 ho3).1
        have := hx'.nm n c hc
        rw [hb] at this; cases this
        have hkk := hi.inj _ _ _ _ (callLe_look hm n o3 ho3).1 hk' (by rw [hc, ← e])
        have hc : (m0.map fun p => f p.1).contains k' = false := by
          cases h : (m0.map fun p => f p.1).contains k' with
          | false => rfl
          | true => exact absurd (List.contains_iff_mem.1 h) hkn
        exact hownr k' hc n o3 ho3 hkk
      · rcases r1 (hwr0 n hnl) with h' | h'
        · exact g2 h'
        · omega
    rcases hsplit k o h1 with ⟨n, o1, rfl, hn, rfl⟩ | ⟨hk1, hkn1⟩ <;> rcases hsplit k' o' h2 with ⟨n', o2, rfl, hn', rfl⟩ | ⟨hk2', hkn2⟩
    · obtain ⟨b, hb, hb'⟩ := hBf n o1 hn
      obtain ⟨c, hc, hc'⟩ := hBf n' o2 hn'
      rw [hb', hc'] at e
      rw [hi'.inj n n' _ _ hn hn' (by rw [hb, hc, e])]
    · exact (hmix n o1 k' o' hn hk2' hkn2 e).elim
    · exact (hmix n' o2 k o hn' hk1 hkn1 e.symm).elim
    · rw [hold k o hk1, hold k' o' hk2'] at e
      exact hi.inj _ _ _ _ hk1 hk2' e
  · show (if k < nx then B k else B' (k - nx + nx0)) = none
    rw [if_neg (by omega)]
    exact hi'.fresh _ (by omega)
  · obtain ⟨o, ho⟩ := hi.keep k hk
    rw [look_append]
    by_cases hkm : k ∈ (m0.map fun p => f p.1)
    · have : ∃ n, k = f n ∧ ∃ o, look m0 n = some o := by
        obtain ⟨p, hp, e⟩ := List.mem_map.1 hkm
        exact ⟨p.1, e.symm, look_of_mem hp⟩
      obtain ⟨n, rfl, o1, ho1⟩ := this
      have hw0 : wr0 n = false := by
        cases hw : wr0 n with
        | false => rfl
        | true => have := (callLe_look hm n o1 ho1).2 hw; rw [hk] at this; cases this
      obtain ⟨o2, ho2⟩ := hi'.keep n hw0
      exact ⟨renO f o2, by rw [look_renM hfinj, ho2]; rfl⟩
    · cases h1 : look (renM f m') k with
      | some o1 => exact ⟨o1, rfl⟩
      | none => exact ⟨o, look_delAll_of ho hkm⟩

/-! a law's call -/
theorem law_ok {g : FuncId} {args : List AV} {W : World} {vs : List Value} (h : CallOk P g args (fun _ => true) [] 0 fun v _ _ => v = .bool true) (hd : DenL (fun a => W.cell? a) (fun _ => none) args vs) :
    Calls P g vs.toArray W fun e W' => e = .returned (.bool true) ∧ Below W.heap.size W W' := by
  have hi : Inv W (fun _ => False) (fun _ => true) [] 0 (fun a => W.cell? a) (fun _ => none) W :=
    ⟨Nat.le_refl _, rfl, rfl, rfl, fun _ _ _ => rfl, fun a v e => ⟨e, fun n o hn => by cases hn⟩, fun n o hn => by (cases hn), fun n n' o o' hn => by (cases hn), fun _ _ => rfl, fun _ _ => rfl, fun n hn => by cases hn⟩
  refine (h W _ _ _ W vs hi hd).mono fun e w' he => ?_
  obtain ⟨v, av, m', nx', B', H', rfl, _, h1, h2, h3, rfl⟩ := he
  simp only [Den] at h3
  subst h3
  exact ⟨rfl, h1.os, h1.tape, h1.out, h1.size, fun k hk => h1.frame k hk (fun h => h)⟩
theorem ro_int {W : World} {k : IntKind} {A : Option Addr} {len cap : Nat} {xs : List Int} (hl : xs.length = len) (hlc : len ≤ cap) (h : 0 < len → ∃ a, A = some a ∧ ∀ i, i < len → W.cell? (a.add i) = some (.int k (xs.getD i 0))) :
    Den (fun a => W.cell? a) B (.ro len (xs.map (AV.int k))) (.slice A len cap) := by
  simp only [Den]
  refine ⟨A, cap, rfl, hlc, DenAt.of_get fun j x hj => ?_⟩
  have hjl : j < xs.length := by have := (List.getElem?_eq_some_iff.1 hj).1; simpa using this
  obtain ⟨a, rfl, hc⟩ := h (by omega)
  simp [List.getElem?_eq_getElem hjl] at hj
  subst hj
  refine ⟨a, _, rfl, by rw [Nat.zero_add]; exact hc j (by omega), by simp only [Den]; simp [List.getD_eq_getElem?_getD, List.getElem?_eq_getElem hjl]⟩
end
end Go.Eng
end
section
/- The engine, part 11: the equations by which a walk is simplified. Printed by a program of our own. -/
set_option linter.unusedVariables false
namespace Go.Eng
open Go
theorem rdx_move (P : Program) (rd : Nat → Bool) (t : Slots) (m : Mem) (k : AV → Prop) (x : Operand) : rdx P rd t m (.move x) k = withv (evx t x) k := rfl
theorem rdx_assign (P : Program) (rd : Nat → Bool) (t : Slots) (m : Mem) (k : AV → Prop) (x : Operand) : rdx P rd t m (.assign x) k = withv (evx t x) k := rfl
theorem rdx_load (P : Program) (rd : Nat → Bool) (t : Slots) (m : Mem) (k : AV → Prop) (ty : TypeId) (p : Operand) : rdx P rd t m (.load ty p) k = withv (evx t p) fun v => loadx P rd m ty v k := rfl
theorem rdx_nilCheck (P : Program) (rd : Nat → Bool) (t : Slots) (m : Mem) (k : AV → Prop) (x : Operand) : rdx P rd t m (.nilCheck x) k = withv (evx t x) fun v => nilx v k := rfl
theorem rdx_binOp (P : Program) (rd : Nat → Bool) (t : Slots) (m : Mem) (k : AV → Prop) (op : BinOp) (ty : TypeId) (x y : Operand) (ty2 : TypeId) : rdx P rd t m (.binOp op ty x y ty2) k = withv (evx t x) fun u => withv (evx t y) fun v => binx P op ty u v k := rfl
theorem rdx_unOp (P : Program) (rd : Nat → Bool) (t : Slots) (m : Mem) (k : AV → Prop) (op : UnOp) (ty : TypeId) (x : Operand) : rdx P rd t m (.unOp op ty x) k = withv (evx t x) fun u => unx op u k := rfl
theorem rdx_convert (P : Program) (rd : Nat → Bool) (t : Slots) (m : Mem) (k : AV → Prop) (s d : TypeId) (x : Operand) : rdx P rd t m (.convert s d x) k = withv (evx t x) fun u => convx P rd m s d u k := rfl
theorem rdx_makeInterface (P : Program) (rd : Nat → Bool) (t : Slots) (m : Mem) (k : AV → Prop) (ty : TypeId) (x : Operand) : rdx P rd t m (.makeInterface ty x) k = withv (evx t x) fun u => known P ty = true ∧ isIfaceT P ty = false ∧ k (.iface ty u) := rfl
theorem rdx_makeFunc (P : Program) (rd : Nat → Bool) (t : Slots) (m : Mem) (k : AV → Prop) (f : Fn) (fi ca : Array Operand) : rdx P rd t m (.makeFunc f fi ca) k = withl (evs t fi.toList) fun p => withl (evs t ca.toList) fun q => k (.fn f p q) := rfl
theorem rdx_fieldAddr (P : Program) (rd : Nat → Bool) (t : Slots) (m : Mem) (k : AV → Prop) (s : TypeId) (x : Operand) (f : Nat) : rdx P rd t m (.fieldAddr s x f) k = withv (evx t x) fun u => fldx P s u f k := rfl
theorem rdx_field (P : Program) (rd : Nat → Bool) (t : Slots) (m : Mem) (k : AV → Prop) (s : TypeId) (x : Operand) (f : Nat) : rdx P rd t m (.field s x f) k = withv (evx t x) fun u => fieldx P s u f k := rfl
theorem rdx_indexAddr (P : Program) (rd : Nat → Bool) (t : Slots) (m : Mem) (k : AV → Prop) (ty : TypeId) (x i : Operand) : rdx P rd t m (.indexAddr ty x i) k = withv (evx t x) fun u => withv (evx t i) fun v => idxx P ty u v k := rfl
theorem rdx_index (P : Program) (rd : Nat → Bool) (t : Slots) (m : Mem) (k : AV → Prop) (ty : TypeId) (x i : Operand) : rdx P rd t m (.index ty x i) k = withv (evx t x) fun u => withv (evx t i) fun v => indexx P ty u v k := rfl
theorem opx_move (P : Program) (fz : Bool) (wr : Nat → Bool) (t : Slots) (m : Mem) (nx : Nat) (K : Kv) (x : Operand) : opx P fz wr t m nx (.move x) K = rdx P (fun _ => true) t m (.move x) (KvAt K m nx) := rfl
theorem opx_assign (P : Program) (fz : Bool) (wr : Nat → Bool) (t : Slots) (m : Mem) (nx : Nat) (K : Kv) (x : Operand) : opx P fz wr t m nx (.assign x) K = rdx P (fun _ => true) t m (.assign x) (KvAt K m nx) := rfl
theorem opx_pick (P : Program) (fz : Bool) (wr : Nat → Bool) (t : Slots) (m : Mem) (nx : Nat) (K : Kv) (c x y : Operand) : opx P fz wr t m nx (.pick c x y) K = rdx P (fun _ => true) t m (.pick c x y) (KvAt K m nx) := rfl
theorem opx_build (P : Program) (fz : Bool) (wr : Nat → Bool) (t : Slots) (m : Mem) (nx : Nat) (K : Kv) (ty : TypeId) (ps : Array (Nat × Operand)) : opx P fz wr t m nx (.build ty ps) K = rdx P (fun _ => true) t m (.build ty ps) (KvAt K m nx) := rfl
theorem opx_load (P : Program) (fz : Bool) (wr : Nat → Bool) (t : Slots) (m : Mem) (nx : Nat) (K : Kv) (ty : TypeId) (p : Operand) : opx P fz wr t m nx (.load ty p) K = rdx P (fun _ => true) t m (.load ty p) (KvAt K m nx) := rfl
theorem opx_nilCheck (P : Program) (fz : Bool) (wr : Nat → Bool) (t : Slots) (m : Mem) (nx : Nat) (K : Kv) (x : Operand) : opx P fz wr t m nx (.nilCheck x) K = rdx P (fun _ => true) t m (.nilCheck x) (KvAt K m nx) := rfl
theorem opx_binOp (P : Program) (fz : Bool) (wr : Nat → Bool) (t : Slots) (m : Mem) (nx : Nat) (K : Kv) (op : BinOp) (ty : TypeId) (x y : Operand) (ty2 : TypeId) : opx P fz wr t m nx (.binOp op ty x y ty2) K = rdx P (fun _ => true) t m (.binOp op ty x y ty2) (KvAt K m nx) := rfl
theorem opx_unOp (P : Program) (fz : Bool) (wr : Nat → Bool) (t : Slots) (m : Mem) (nx : Nat) (K : Kv) (op : UnOp) (ty : TypeId) (x : Operand) : opx P fz wr t m nx (.unOp op ty x) K = rdx P (fun _ => true) t m (.unOp op ty x) (KvAt K m nx) := rfl
theorem opx_convert (P : Program) (fz : Bool) (wr : Nat → Bool) (t : Slots) (m : Mem) (nx : Nat) (K : Kv) (s d : TypeId) (x : Operand) : opx P fz wr t m nx (.convert s d x) K = withv (evx t x) fun u => cvx P wr s d u m nx K := rfl
theorem cvx_int (P : Program) (wr : Nat → Bool) (s d : TypeId) (k : IntKind) (x : Int) (m : Mem) (nx : Nat) (K : Kv) : cvx P wr s d (.int k x) m nx K = convx P (fun _ => true) m s d (.int k x) (KvAt K m nx) := rfl
theorem cvx_str (P : Program) (wr : Nat → Bool) (s d : TypeId) (x : ByteArray) (m : Mem) (nx : Nat) (K : Kv) : cvx P wr s d (.str x) m nx K = convx P (fun _ => true) m s d (.str x) (KvAt K m nx) := rfl
theorem cvx_nils (P : Program) (wr : Nat → Bool) (s d : TypeId) (m : Mem) (nx : Nat) (K : Kv) : cvx P wr s d .nils m nx K = convx P (fun _ => true) m s d .nils (KvAt K m nx) := rfl
theorem cvx_ro (P : Program) (wr : Nat → Bool) (s d : TypeId) (n : Nat) (l : List AV) (m : Mem) (nx : Nat) (K : Kv) : cvx P wr s d (.ro n l) m nx K = convx P (fun _ => true) m s d (.ro n l) (KvAt K m nx) := rfl
theorem cvx_sl (P : Program) (wr : Nat → Bool) (s d : TypeId) (n off len cap : Nat) (m : Mem) (nx : Nat) (K : Kv) : cvx P wr s d (.sl n off len cap) m nx K = cvs (isStrT P d) P wr s d n off len cap m nx K := rfl
theorem cvs_true (P : Program) (wr : Nat → Bool) (s d : TypeId) (n off len cap : Nat) (m : Mem) (nx : Nat) (K : Kv) : cvs true P wr s d n off len cap m nx K = convx P (fun _ => true) m s d (.sl n off len cap) (KvAt K m nx) := rfl
def cvo (n off len cap : Nat) (m : Mem) (nx : Nat) (K : Kv) : Option AObj → Prop
  | some (.cells l ty) => K (.sl n off len cap) (upd m n (.fz l ty)) nx
  | _ => False
theorem cvo_cells (n off len cap : Nat) (m : Mem) (nx : Nat) (K : Kv) (l : List AV) (ty : TypeId) : cvo n off len cap m nx K (some (.cells l ty)) = K (.sl n off len cap) (upd m n (.fz l ty)) nx := rfl
theorem cvs_false (P : Program) (wr : Nat → Bool) (s d : TypeId) (n off len cap : Nat) (m : Mem) (nx : Nat) (K : Kv) : cvs false P wr s d n off len cap m nx K = (s = d ∧ 0 < cap ∧ ∃ e, elemT P d = some e ∧ intT P e = some .u8 ∧ wr n = true ∧ cvo n off len cap m nx K (look m n)) := by
  simp only [cvs]
  generalize look m n = o
  match o with
  | none => rfl
  | some (.cells l e) => rfl
  | some (.opq o) => rfl
  | some (.fz l e) => rfl
  | some (.mp k a b) => rfl
  | some (.mx k a b c) => rfl
theorem opx_makeInterface (P : Program) (fz : Bool) (wr : Nat → Bool) (t : Slots) (m : Mem) (nx : Nat) (K : Kv) (ty : TypeId) (x : Operand) : opx P fz wr t m nx (.makeInterface ty x) K = rdx P (fun _ => true) t m (.makeInterface ty x) (KvAt K m nx) := rfl
theorem opx_makeFunc (P : Program) (fz : Bool) (wr : Nat → Bool) (t : Slots) (m : Mem) (nx : Nat) (K : Kv) (f : Fn) (fi ca : Array Operand) : opx P fz wr t m nx (.makeFunc f fi ca) K = rdx P (fun _ => true) t m (.makeFunc f fi ca) (KvAt K m nx) := rfl
theorem opx_slice (P : Program) (fz : Bool) (wr : Nat → Bool) (t : Slots) (m : Mem) (nx : Nat) (K : Kv) (ty : TypeId) (x : Operand) (lo hi mx : Option Operand) : opx P fz wr t m nx (.slice ty x lo hi mx) K = rdx P (fun _ => true) t m (.slice ty x lo hi mx) (KvAt K m nx) := rfl
theorem opx_fieldAddr (P : Program) (fz : Bool) (wr : Nat → Bool) (t : Slots) (m : Mem) (nx : Nat) (K : Kv) (s : TypeId) (x : Operand) (f : Nat) : opx P fz wr t m nx (.fieldAddr s x f) K = rdx P (fun _ => true) t m (.fieldAddr s x f) (KvAt K m nx) := rfl
theorem opx_field (P : Program) (fz : Bool) (wr : Nat → Bool) (t : Slots) (m : Mem) (nx : Nat) (K : Kv) (s : TypeId) (x : Operand) (f : Nat) : opx P fz wr t m nx (.field s x f) K = rdx P (fun _ => true) t m (.field s x f) (KvAt K m nx) := rfl
theorem opx_indexAddr (P : Program) (fz : Bool) (wr : Nat → Bool) (t : Slots) (m : Mem) (nx : Nat) (K : Kv) (ty : TypeId) (x i : Operand) : opx P fz wr t m nx (.indexAddr ty x i) K = rdx P (fun _ => true) t m (.indexAddr ty x i) (KvAt K m nx) := rfl
theorem opx_index (P : Program) (fz : Bool) (wr : Nat → Bool) (t : Slots) (m : Mem) (nx : Nat) (K : Kv) (ty : TypeId) (x i : Operand) : opx P fz wr t m nx (.index ty x i) K = rdx P (fun _ => true) t m (.index ty x i) (KvAt K m nx) := rfl
theorem opx_extract (P : Program) (fz : Bool) (wr : Nat → Bool) (t : Slots) (m : Mem) (nx : Nat) (K : Kv) (x : Operand) (i : Nat) : opx P fz wr t m nx (.extract x i) K = rdx P (fun _ => true) t m (.extract x i) (KvAt K m nx) := rfl
theorem opx_alloc (P : Program) (fz : Bool) (wr : Nat → Bool) (t : Slots) (m : Mem) (nx : Nat) (K : Kv) (ty : TypeId) : opx P fz wr t m nx (.alloc ty) K = allocx P ty m nx K := rfl
theorem opx_box (P : Program) (fz : Bool) (wr : Nat → Bool) (t : Slots) (m : Mem) (nx : Nat) (K : Kv) (ty : TypeId) (x : Operand) : opx P fz wr t m nx (.box ty x) K = withv (evx t x) fun v => boxx ty v m nx K := rfl
theorem opx_makeSlice (P : Program) (fz : Bool) (wr : Nat → Bool) (t : Slots) (m : Mem) (nx : Nat) (K : Kv) (ty : TypeId) (l c : Operand) : opx P fz wr t m nx (.makeSlice ty l c) K = withv (evx t l) fun x => withv (evx t c) fun y => mkslx P ty x y m nx K := rfl
theorem opx_store (P : Program) (fz : Bool) (wr : Nat → Bool) (t : Slots) (m : Mem) (nx : Nat) (K : Kv) (ty : TypeId) (p x : Operand) : opx P fz wr t m nx (.store ty p x) K = withv (evx t p) fun u => withv (evx t x) fun v => stx P wr ty u v m nx K := rfl
theorem opx_append (P : Program) (fz : Bool) (wr : Nat → Bool) (t : Slots) (m : Mem) (nx : Nat) (K : Kv) (as : Array Operand) (ts : Array TypeId) : opx P fz wr t m nx (.call { callee := .builtin .append, args := as, argTypes := ts }) K = withl (evs t as.toList) fun l => appq P wr ts l m nx K (isZ P ts) := rfl
theorem opx_invoke (P : Program) (fz : Bool) (wr : Nat → Bool) (t : Slots) (m : Mem) (nx : Nat) (K : Kv) (x : Operand) (name : String) (as : Array Operand) (ts : Array TypeId) : opx P fz wr t m nx (.call { callee := .invoke x name, args := as, argTypes := ts }) K = withv (evx t x) fun u => withl (evs t as.toList) fun l => invx P fz wr u name l m nx K := rfl
theorem invx_iface (P : Program) (fz : Bool) (wr : Nat → Bool) (ty : TypeId) (x : AV) (name : String) (l : List AV) (m : Mem) (nx : Nat) (K : Kv) : invx P fz wr (.iface ty x) name l m nx K = ∃ g, methT P ty name g ∧ enters P g = true ∧ CallG fz P g (x :: l) wr m nx K := rfl
theorem opx_copy (P : Program) (fz : Bool) (wr : Nat → Bool) (t : Slots) (m : Mem) (nx : Nat) (K : Kv) (as : Array Operand) (ts : Array TypeId) : opx P fz wr t m nx (.call { callee := .builtin .copy, args := as, argTypes := ts }) K = withl (evs t as.toList) fun l => cpyx P wr ts l m nx K := rfl
theorem opx_len (P : Program) (fz : Bool) (wr : Nat → Bool) (t : Slots) (m : Mem) (nx : Nat) (K : Kv) (as : Array Operand) (ts : Array TypeId) : opx P fz wr t m nx (.call { callee := .builtin .len, args := as, argTypes := ts }) K = withl (evs t as.toList) fun l => lenq P ts l m nx K (mapOf l) := rfl
theorem opx_min (P : Program) (fz : Bool) (wr : Nat → Bool) (t : Slots) (m : Mem) (nx : Nat) (K : Kv) (as : Array Operand) (ts : Array TypeId) : opx P fz wr t m nx (.call { callee := .builtin .min, args := as, argTypes := ts }) K = withl (evs t as.toList) fun l => bltx P .min ts l (KvAt K m nx) := rfl
theorem opx_max (P : Program) (fz : Bool) (wr : Nat → Bool) (t : Slots) (m : Mem) (nx : Nat) (K : Kv) (as : Array Operand) (ts : Array TypeId) : opx P fz wr t m nx (.call { callee := .builtin .max, args := as, argTypes := ts }) K = withl (evs t as.toList) fun l => bltx P .max ts l (KvAt K m nx) := rfl
theorem opx_call (P : Program) (fz : Bool) (wr : Nat → Bool) (t : Slots) (m : Mem) (nx : Nat) (K : Kv) (f : Operand) (as : Array Operand) (ts : Array TypeId) : opx P fz wr t m nx (.call { callee := .value f, args := as, argTypes := ts }) K = withv (evx t f) fun u => withl (evs t as.toList) fun l => calx P fz wr u l m nx K := rfl
theorem opx_makeMap (P : Program) (fz : Bool) (wr : Nat → Bool) (t : Slots) (m : Mem) (nx : Nat) (K : Kv) (ty : TypeId) : opx P fz wr t m nx (.makeMap ty none) K = mkmx2 P ty m nx K := rfl
theorem opx_insert (P : Program) (fz : Bool) (wr : Nat → Bool) (t : Slots) (m : Mem) (nx : Nat) (K : Kv) (ty : TypeId) (x i y : Operand) : opx P fz wr t m nx (.insert ty x i y) K = withv (evx t x) fun u => withv (evx t i) fun v => withv (evx t y) fun z => insx2 P wr ty u v z m nx K := rfl
theorem opx_mapUpdate (P : Program) (fz : Bool) (wr : Nat → Bool) (t : Slots) (m : Mem) (nx : Nat) (K : Kv) (ty : TypeId) (x i y : Operand) : opx P fz wr t m nx (.mapUpdate ty x i y) K = withv (evx t x) fun u => withv (evx t i) fun v => withv (evx t y) fun z => insx2 P wr ty u v z m nx K := rfl
theorem opx_lookup (P : Program) (fz : Bool) (wr : Nat → Bool) (t : Slots) (m : Mem) (nx : Nat) (K : Kv) (ty : TypeId) (x i : Operand) (ok : Bool) : opx P fz wr t m nx (.lookup ty x i ok) K = withv (evx t x) fun u => withv (evx t i) fun v => lookx2 P m ty u v ok (KvAt K m nx) := rfl
theorem KeepK_one (m0 : Mem) (k : Nat) (K : Kv) (v : AV) (m : Mem) (nx : Nat) : KeepK m0 [k] K v m nx = (look m k = look m0 k ∧ K v m nx) := by
  unfold KeepK
  simp only [List.mem_singleton, forall_eq]
def dyw (w : Bool) (P : Program) (wr : Nat → Bool) (m0 : Mem) (mods : List Nat) (op : Op) (d : Option Tmp) (E : Se) (t : Slots) (m : Mem) (nx : Nat) : Prop := match w with
  | true => opx P false wr t m nx op (After E t d)
  | false => opx P false (wrD m nx []) t m nx op (After E t d)
theorem dyw_true (P : Program) (wr : Nat → Bool) (m0 : Mem) (mods : List Nat) (op : Op) (d : Option Tmp) (E : Se) (t : Slots) (m : Mem) (nx : Nat) : dyw true P wr m0 mods op d E t m nx = opx P false wr t m nx op (After E t d) := rfl
theorem dyw_false (P : Program) (wr : Nat → Bool) (m0 : Mem) (mods : List Nat) (op : Op) (d : Option Tmp) (E : Se) (t : Slots) (m : Mem) (nx : Nat) : dyw false P wr m0 mods op d E t m nx = opx P false (wrD m nx []) t m nx op (After E t d) := rfl
theorem DyE_true (P : Program) (wr : Nat → Bool) (m0 : Mem) (mods Wr Er : List Nat) (i : Nat) (op : Op) (d : Option Tmp) (E : Se) (t : Slots) (m : Mem) (nx : Nat) : DyE P wr m0 mods Wr Er i true op d E t m nx = dyw (Wr.contains i) P wr m0 mods op d E t m nx := by
  unfold DyE dyw
  cases Wr.contains i <;> rfl
def Rdy (e : Bool) (wr : Nat → Bool) (mods : List Nat) (n : Nat) : Bool := !wr n || (e && mods.contains n)
theorem Rdy_app (e : Bool) (wr : Nat → Bool) (mods : List Nat) (n : Nat) : Rdy e wr mods n = (!wr n || (e && mods.contains n)) := rfl
theorem DyE_false (P : Program) (wr : Nat → Bool) (m0 : Mem) (mods Wr Er : List Nat) (i : Nat) (op : Op) (d : Option Tmp) (E : Se) (t : Slots) (m : Mem) (nx : Nat) : DyE P wr m0 mods Wr Er i false op d E t m nx = rdx P (Rdy (Er.contains i) wr mods) t m op (KvAt (After E t d) m nx) := by
  unfold DyE
  cases Wr.contains i <;> rfl
theorem DyO_some (P : Program) (N : Nat) (wr : Nat → Bool) (m0 : Mem) (mods Wr Er : List Nat) (ops : Array Oper) (i : Nat) (single : Bool) (o : Oper) (E : Se) (t : Slots) (m : Mem) (nx : Nat) :
    DyO P N wr m0 mods Wr Er ops i single (some o) E t m nx = (dstOk N o.dst = true ∧ grdx ops o.guard (DyE P wr m0 mods Wr Er i single o.op o.dst E) (SkE o.dst E) t m nx) := rfl
theorem drawy_nil (P : Program) (N : Nat) (wr : Nat → Bool) (m0 : Mem) (mods Wr Er : List Nat) (ops : Array Oper) (K : Se) (t : Slots) (m : Mem) (nx : Nat) : drawy P N wr m0 mods Wr Er ops K [] t m nx = K t m nx := rfl
theorem drawy_cons (P : Program) (N : Nat) (wr : Nat → Bool) (m0 : Mem) (mods Wr Er : List Nat) (ops : Array Oper) (K : Se) (i : Nat) (single : Bool) (r : List (Nat × Bool)) (t : Slots) (m : Mem) (nx : Nat) :
    drawy P N wr m0 mods Wr Er ops K ((i, single) :: r) t m nx = DyO P N wr m0 mods Wr Er ops i single ops[i]? (drawy P N wr m0 mods Wr Er ops K r) t m nx := rfl
theorem rdx_len (P : Program) (rd : Nat → Bool) (t : Slots) (m : Mem) (k : AV → Prop) (as : Array Operand) (ts : Array TypeId) : rdx P rd t m (.call { callee := .builtin .len, args := as, argTypes := ts }) k = withl (evs t as.toList) fun l => bltx P .len ts l k := rfl
theorem rdx_min (P : Program) (rd : Nat → Bool) (t : Slots) (m : Mem) (k : AV → Prop) (as : Array Operand) (ts : Array TypeId) : rdx P rd t m (.call { callee := .builtin .min, args := as, argTypes := ts }) k = withl (evs t as.toList) fun l => bltx P .min ts l k := rfl
theorem rdx_max (P : Program) (rd : Nat → Bool) (t : Slots) (m : Mem) (k : AV → Prop) (as : Array Operand) (ts : Array TypeId) : rdx P rd t m (.call { callee := .builtin .max, args := as, argTypes := ts }) k = withl (evs t as.toList) fun l => bltx P .max ts l k := rfl
def pickv (c : AV) (x y : Option AV) (k : AV → Prop) : Prop := match c with
  | .bool q => (q = true → withv x k) ∧ (q = false → withv y k)
  | _ => False
theorem rdx_pick (P : Program) (rd : Nat → Bool) (t : Slots) (m : Mem) (k : AV → Prop) (c x y : Operand) : rdx P rd t m (.pick c x y) k = withv (evx t c) fun cv => pickv cv (evx t x) (evx t y) k := rfl
theorem pickv_true (x y : Option AV) (k : AV → Prop) : pickv (.bool true) x y k = withv x k := by simp [pickv]
theorem pickv_false (x y : Option AV) (k : AV → Prop) : pickv (.bool false) x y k = withv y k := by simp [pickv]
theorem pickv_bool (q : Bool) (x y : Option AV) (k : AV → Prop) : pickv (.bool q) x y k = ((q = true → withv x k) ∧ (q = false → withv y k)) := rfl
def bldv (P : Program) (ty : TypeId) (o : Option (List (Nat × AV))) (k : AV → Prop) : Prop := match o with
  | some ps => buildx P ty ps k
  | none => False
theorem rdx_build (P : Program) (rd : Nat → Bool) (t : Slots) (m : Mem) (k : AV → Prop) (ty : TypeId) (ps : Array (Nat × Operand)) : rdx P rd t m (.build ty ps) k = bldv P ty (evp t ps.toList) k := rfl
theorem bldv_some (P : Program) (ty : TypeId) (ps : List (Nat × AV)) (k : AV → Prop) : bldv P ty (some ps) k = buildx P ty ps k := rfl
def bslv (P : Program) (ty : TypeId) (len : Nat) (o : Option (List (Nat × AV))) (m : Mem) (nx : Nat) (K : Kv) : Prop := match o with
  | some ps => bslx P ty len ps m nx K
  | none => False
theorem opx_buildSlice (P : Program) (fz : Bool) (wr : Nat → Bool) (t : Slots) (m : Mem) (nx : Nat) (K : Kv) (ty : TypeId) (len : Nat) (ps : Array (Nat × Operand)) : opx P fz wr t m nx (.buildSlice ty len ps) K = bslv P ty len (evp t ps.toList) m nx K := rfl
theorem bslv_some (P : Program) (ty : TypeId) (len : Nat) (ps : List (Nat × AV)) (m : Mem) (nx : Nat) (K : Kv) : bslv P ty len (some ps) m nx K = bslx P ty len ps m nx K := rfl
def slcv (P : Program) (ty : TypeId) (u : AV) (lo hi : Option (Option AV)) (k : AV → Prop) : Prop := match lo, hi with
  | some none, _ => False
  | _, some none => False
  | l, h => slcx P ty u l.join h.join k
theorem rdx_slice (P : Program) (rd : Nat → Bool) (t : Slots) (m : Mem) (k : AV → Prop) (ty : TypeId) (x : Operand) (lo hi : Option Operand) : rdx P rd t m (.slice ty x lo hi none) k = withv (evx t x) fun u => slcv P ty u (lo.map (evx t)) (hi.map (evx t)) k := rfl
theorem slcv_nn (P : Program) (ty : TypeId) (u : AV) (k : AV → Prop) : slcv P ty u none none k = slcx P ty u none none k := rfl
theorem slcv_sn (P : Program) (ty : TypeId) (u a : AV) (k : AV → Prop) : slcv P ty u (some (some a)) none k = slcx P ty u (some a) none k := rfl
theorem slcv_ns (P : Program) (ty : TypeId) (u a : AV) (k : AV → Prop) : slcv P ty u none (some (some a)) k = slcx P ty u none (some a) k := rfl
theorem slcv_ss (P : Program) (ty : TypeId) (u a b : AV) (k : AV → Prop) : slcv P ty u (some (some a)) (some (some b)) k = slcx P ty u (some a) (some b) k := rfl
def extv (u : AV) (i : Nat) (k : AV → Prop) : Prop := match u with
  | .tup l => withv l[i]? k
  | _ => False
theorem rdx_extract (P : Program) (rd : Nat → Bool) (t : Slots) (m : Mem) (k : AV → Prop) (x : Operand) (i : Nat) : rdx P rd t m (.extract x i) k = withv (evx t x) fun u => extv u i k := rfl
theorem extv_tup (l : List AV) (i : Nat) (k : AV → Prop) : extv (.tup l) i k = withv l[i]? k := rfl
theorem binx_add (P : Program) (ty : TypeId) (k : AV → Prop) (q : IntKind) (a b : Int) : binx P .add ty (.int q a) (.int q b) k = k (.int q (q.wrap (a + b))) := by simp [binx]
theorem binx_sub (P : Program) (ty : TypeId) (k : AV → Prop) (q : IntKind) (a b : Int) : binx P .sub ty (.int q a) (.int q b) k = k (.int q (q.wrap (a - b))) := by simp [binx]
theorem binx_mul (P : Program) (ty : TypeId) (k : AV → Prop) (q : IntKind) (a b : Int) : binx P .mul ty (.int q a) (.int q b) k = k (.int q (q.wrap (a * b))) := by simp [binx]
theorem binx_and (P : Program) (ty : TypeId) (k : AV → Prop) (q : IntKind) (a b : Int) : binx P .and ty (.int q a) (.int q b) k = k (.int q (bitsI .and q a b)) := by simp [binx]
theorem binx_or (P : Program) (ty : TypeId) (k : AV → Prop) (q : IntKind) (a b : Int) : binx P .or ty (.int q a) (.int q b) k = k (.int q (bitsI .or q a b)) := by simp [binx]
theorem binx_xor (P : Program) (ty : TypeId) (k : AV → Prop) (q : IntKind) (a b : Int) : binx P .xor ty (.int q a) (.int q b) k = k (.int q (bitsI .xor q a b)) := by simp [binx]
theorem binx_andNot (P : Program) (ty : TypeId) (k : AV → Prop) (q : IntKind) (a b : Int) : binx P .andNot ty (.int q a) (.int q b) k = k (.int q (bitsI .andNot q a b)) := by simp [binx]
theorem binx_eql (P : Program) (ty : TypeId) (k : AV → Prop) (q : IntKind) (a b : Int) : binx P .eql ty (.int q a) (.int q b) k = k (.bool (a == b)) := by simp [binx]
theorem binx_neq (P : Program) (ty : TypeId) (k : AV → Prop) (q : IntKind) (a b : Int) : binx P .neq ty (.int q a) (.int q b) k = k (.bool (a != b)) := by simp [binx]
theorem binx_lss (P : Program) (ty : TypeId) (k : AV → Prop) (q : IntKind) (a b : Int) : binx P .lss ty (.int q a) (.int q b) k = k (.bool (decide (a < b))) := by simp [binx]
theorem binx_leq (P : Program) (ty : TypeId) (k : AV → Prop) (q : IntKind) (a b : Int) : binx P .leq ty (.int q a) (.int q b) k = k (.bool (decide (a ≤ b))) := by simp [binx]
theorem binx_gtr (P : Program) (ty : TypeId) (k : AV → Prop) (q : IntKind) (a b : Int) : binx P .gtr ty (.int q a) (.int q b) k = k (.bool (decide (a > b))) := by simp [binx]
theorem binx_geq (P : Program) (ty : TypeId) (k : AV → Prop) (q : IntKind) (a b : Int) : binx P .geq ty (.int q a) (.int q b) k = k (.bool (decide (a ≥ b))) := by simp [binx]
theorem binx_quo (P : Program) (ty : TypeId) (k : AV → Prop) (q : IntKind) (a b : Int) : binx P .quo ty (.int q a) (.int q b) k = (b ≠ 0 ∧ k (.int q (q.wrap (a.tdiv b)))) := by simp [binx]
theorem binx_rem (P : Program) (ty : TypeId) (k : AV → Prop) (q : IntKind) (a b : Int) : binx P .rem ty (.int q a) (.int q b) k = (b ≠ 0 ∧ k (.int q (a.tmod b))) := by simp [binx]
theorem binx_shl (P : Program) (ty : TypeId) (k : AV → Prop) (q q2 : IntKind) (a b : Int) : binx P .shl ty (.int q a) (.int q2 b) k = (0 ≤ b ∧ k (.int q (shlI q a b))) := by simp [binx]
theorem binx_shr (P : Program) (ty : TypeId) (k : AV → Prop) (q q2 : IntKind) (a b : Int) : binx P .shr ty (.int q a) (.int q2 b) k = (0 ≤ b ∧ k (.int q (shrI q a b))) := by simp [binx]
theorem binx_seql (P : Program) (ty : TypeId) (k : AV → Prop) (a b : ByteArray) : binx P .eql ty (.str a) (.str b) k = k (.bool (a.toList == b.toList)) := rfl
theorem binx_sneq (P : Program) (ty : TypeId) (k : AV → Prop) (a b : ByteArray) : binx P .neq ty (.str a) (.str b) k = k (.bool (!(a.toList == b.toList))) := rfl
theorem binx_beql (P : Program) (ty : TypeId) (k : AV → Prop) (a b : Bool) : binx P .eql ty (.bool a) (.bool b) k = (isBoolT P ty = true ∧ k (.bool (a == b))) := rfl
theorem binx_bneq (P : Program) (ty : TypeId) (k : AV → Prop) (a b : Bool) : binx P .neq ty (.bool a) (.bool b) k = (isBoolT P ty = true ∧ k (.bool (!(a == b)))) := rfl
theorem binx_peql (P : Program) (ty : TypeId) (k : AV → Prop) : binx P .eql ty .nilp .nilp k = (isPtrT P ty = true ∧ k (.bool true)) := rfl
theorem binx_ppeql (P : Program) (ty : TypeId) (k : AV → Prop) (n c : Nat) : binx P .eql ty (.ptr n c) .nilp k = (isPtrT P ty = true ∧ k (.bool false)) := rfl
theorem binx_pqeql (P : Program) (ty : TypeId) (k : AV → Prop) (n c : Nat) : binx P .eql ty .nilp (.ptr n c) k = (isPtrT P ty = true ∧ k (.bool false)) := rfl
theorem binx_feql (P : Program) (ty : TypeId) (k : AV → Prop) (f : Fn) (x y : List AV) : binx P .eql ty (.fn f x y) .nilf k = (isFuncT P ty = true ∧ k (.bool false)) := rfl
theorem binx_neql (P : Program) (ty : TypeId) (k : AV → Prop) : binx P .eql ty .nilf .nilf k = (isFuncT P ty = true ∧ k (.bool true)) := rfl
theorem binx_pneq (P : Program) (ty : TypeId) (k : AV → Prop) : binx P .neq ty .nilp .nilp k = (isPtrT P ty = true ∧ k (.bool false)) := rfl
theorem binx_ppneq (P : Program) (ty : TypeId) (k : AV → Prop) (n c : Nat) : binx P .neq ty (.ptr n c) .nilp k = (isPtrT P ty = true ∧ k (.bool true)) := rfl
theorem binx_pqneq (P : Program) (ty : TypeId) (k : AV → Prop) (n c : Nat) : binx P .neq ty .nilp (.ptr n c) k = (isPtrT P ty = true ∧ k (.bool true)) := rfl
theorem binx_fneq (P : Program) (ty : TypeId) (k : AV → Prop) (f : Fn) (x y : List AV) : binx P .neq ty (.fn f x y) .nilf k = (isFuncT P ty = true ∧ k (.bool true)) := rfl
theorem binx_nneq (P : Program) (ty : TypeId) (k : AV → Prop) : binx P .neq ty .nilf .nilf k = (isFuncT P ty = true ∧ k (.bool false)) := rfl
theorem unx_neg (q : IntKind) (n : Int) (k : AV → Prop) : unx .neg (.int q n) k = k (.int q (q.wrap (0 - n))) := rfl
theorem unx_xor (q : IntKind) (n : Int) (k : AV → Prop) : unx .xor (.int q n) k = k (.int q (notI q n)) := rfl
theorem unx_not (b : Bool) (k : AV → Prop) : unx .not (.bool b) k = k (.bool !b) := rfl
theorem exec_skip (P : Program) (fz : Bool) (N nf : Nat) (wr : Nat → Bool) (t : Slots) (m : Mem) (nx : Nat) (K : Kx) : exec P fz N nf wr .skip t m nx K = K .normal t m nx := rfl
theorem exec_region (P : Program) (fz : Bool) (N nf : Nat) (wr : Nat → Bool) (t : Slots) (m : Mem) (nx : Nat) (K : Kx) (id : Nat) (ops : Array Oper) : exec P fz N nf wr (.region id ops false) t m nx K = opsx P fz N wr ops (Nrm K) ops.toList t m nx := rfl
theorem exec_draw (P : Program) (fz : Bool) (N nf : Nat) (wr : Nat → Bool) (t : Slots) (m : Mem) (nx : Nat) (K : Kx) (id : Nat) (ops : Array Oper) : exec P fz N nf wr (.region id ops true) t m nx K = DrawOk P N wr ops t m nx K := rfl
theorem exec_seq (P : Program) (fz : Bool) (N nf : Nat) (wr : Nat → Bool) (t : Slots) (m : Mem) (nx : Nat) (K : Kx) (x y : Code) : exec P fz N nf wr (.seq x y) t m nx K = exec P fz N nf wr x t m nx (Sq (exec P fz N nf wr y) K) := rfl
def cndv (P : Program) (fz : Bool) (N nf : Nat) (wr : Nat → Bool) (v : AV) (x y : Code) (t : Slots) (m : Mem) (nx : Nat) (K : Kx) : Prop := match v with
  | .bool q => (q = true → exec P fz N nf wr x t m nx K) ∧ (q = false → exec P fz N nf wr y t m nx K)
  | _ => False
theorem exec_cond (P : Program) (fz : Bool) (N nf : Nat) (wr : Nat → Bool) (t : Slots) (m : Mem) (nx : Nat) (K : Kx) (c : Operand) (x y : Code) : exec P fz N nf wr (.cond c x y) t m nx K = withv (evx t c) fun v => cndv P fz N nf wr v x y t m nx K := rfl
theorem cndv_true (P : Program) (fz : Bool) (N nf : Nat) (wr : Nat → Bool) (t : Slots) (m : Mem) (nx : Nat) (K : Kx) (x y : Code) : cndv P fz N nf wr (.bool true) x y t m nx K = exec P fz N nf wr x t m nx K := by simp [cndv]
theorem cndv_false (P : Program) (fz : Bool) (N nf : Nat) (wr : Nat → Bool) (t : Slots) (m : Mem) (nx : Nat) (K : Kx) (x y : Code) : cndv P fz N nf wr (.bool false) x y t m nx K = exec P fz N nf wr y t m nx K := by simp [cndv]
theorem cndv_bool (P : Program) (fz : Bool) (N nf : Nat) (wr : Nat → Bool) (t : Slots) (m : Mem) (nx : Nat) (K : Kx) (q : Bool) (x y : Code) : cndv P fz N nf wr (.bool q) x y t m nx K = ((q = true → exec P fz N nf wr x t m nx K) ∧ (q = false → exec P fz N nf wr y t m nx K)) := rfl
theorem exec_block (P : Program) (fz : Bool) (N nf : Nat) (wr : Nat → Bool) (t : Slots) (m : Mem) (nx : Nat) (K : Kx) (id : Nat) (c : Code) : exec P fz N nf wr (.block id c) t m nx K = exec P fz N nf wr c t m nx (Blk id K) := rfl
theorem exec_loop (P : Program) (fz : Bool) (N nf : Nat) (wr : Nat → Bool) (t : Slots) (m : Mem) (nx : Nat) (K : Kx) (c : Code) : exec P fz N nf wr (.loop c) t m nx K = LoopOk fz nf (exec P fz N nf wr c) wr t m nx K := rfl
theorem exec_exit (P : Program) (fz : Bool) (N nf : Nat) (wr : Nat → Bool) (t : Slots) (m : Mem) (nx : Nat) (K : Kx) (id : Nat) : exec P fz N nf wr (.exit id) t m nx K = K (.exit id) t m nx := rfl
theorem exec_ret (P : Program) (fz : Bool) (N nf : Nat) (wr : Nat → Bool) (t : Slots) (m : Mem) (nx : Nat) (K : Kx) : exec P fz N nf wr .ret t m nx K = K .ret t m nx := rfl
theorem RetK_ret (P : Program) (rs : List ResultVar) (nx0 : Nat) (wr : Nat → Bool) (K : Kv) (t : Slots) (m : Mem) (nx : Nat) : RetK P rs nx0 wr K .ret t m nx = resx P t m rs (FinK nx0 wr m nx K) := rfl
theorem RetK_normal (P : Program) (rs : List ResultVar) (nx0 : Nat) (wr : Nat → Bool) (K : Kv) (t : Slots) (m : Mem) (nx : Nat) : RetK P rs nx0 wr K .normal t m nx = resx P t m rs (FinK nx0 wr m nx K) := rfl
theorem FinK_app (nx0 : Nat) (wr : Nat → Bool) (m : Mem) (nx : Nat) (K : Kv) (l : List AV) : FinK nx0 wr m nx K l = Fin nx0 wr m nx K (resv l) := rfl
theorem resx_nil (P : Program) (t : Slots) (m : Mem) (k : List AV → Prop) : resx P t m [] k = k [] := rfl
def ConsK (v : AV) (k : List AV → Prop) : List AV → Prop := fun l => k (v :: l)
theorem ConsK_app (v : AV) (k : List AV → Prop) (l : List AV) : ConsK v k l = k (v :: l) := rfl
theorem resx_tmp (P : Program) (t : Slots) (m : Mem) (k : List AV → Prop) (s : Tmp) (r : List ResultVar) : resx P t m (.tmp s :: r) k = withv (look t s) fun v => resx P t m r (ConsK v k) := rfl
theorem resx_cell (P : Program) (t : Slots) (m : Mem) (k : List AV → Prop) (s : Tmp) (ty : TypeId) (r : List ResultVar) : resx P t m (.cell s ty :: r) k = withv (look t s) fun p => loadx P (fun _ => true) m ty p fun v => resx P t m r (ConsK v k) := rfl
theorem LoopK_normal {ι : Type} (nf : Nat) (wr : Nat → Bool) (S : ι → Slots × Mem × Nat) (μ : ι → Nat) (i : ι) (K : Kx) (t : Slots) (m : Mem) (nx : Nat) : LoopK nf wr S μ i K .normal t m nx = (∃ j, μ j < μ i ∧ ∃ l, Le nf l wr t m nx (S j).1 (S j).2.1 (S j).2.2) := rfl
theorem LoopK_ret {ι : Type} (nf : Nat) (wr : Nat → Bool) (S : ι → Slots × Mem × Nat) (μ : ι → Nat) (i : ι) (K : Kx) (t : Slots) (m : Mem) (nx : Nat) : LoopK nf wr S μ i K .ret t m nx = K .ret t m nx := rfl
theorem LoopK_exit {ι : Type} (nf : Nat) (wr : Nat → Bool) (S : ι → Slots × Mem × Nat) (μ : ι → Nat) (i : ι) (K : Kx) (t : Slots) (m : Mem) (nx : Nat) (e : Nat) : LoopK nf wr S μ i K (.exit e) t m nx = K (.exit e) t m nx := rfl
theorem opx_mapEntry (P : Program) (fz : Bool) (wr : Nat → Bool) (t : Slots) (m : Mem) (nx : Nat) (K : Kv) (ty : TypeId) (x i : Operand) : opx P fz wr t m nx (.mapEntry ty x i) K = withv (evx t x) fun u => withv (evx t i) fun v => mentx P wr ty u v m nx K := rfl
theorem opx_entryStore (P : Program) (fz : Bool) (wr : Nat → Bool) (t : Slots) (m : Mem) (nx : Nat) (K : Kv) (ty : TypeId) (x i y : Operand) : opx P fz wr t m nx (.entryStore ty x i y) K = withv (evx t x) fun u => withv (evx t i) fun v => withv (evx t y) fun z => estx wr u v z m nx K := rfl
theorem opx_delete (P : Program) (fz : Bool) (wr : Nat → Bool) (t : Slots) (m : Mem) (nx : Nat) (K : Kv) (as : Array Operand) (ts : Array TypeId) : opx P fz wr t m nx (.call { callee := .builtin .delete, args := as, argTypes := ts }) K = withl (evs t as.toList) fun l => delx P wr ts l m nx K := rfl
theorem opx_s2a (P : Program) (fz : Bool) (wr : Nat → Bool) (t : Slots) (m : Mem) (nx : Nat) (K : Kv) (ty : TypeId) (x : Operand) : opx P fz wr t m nx (.sliceToArrayPointer ty x) K = rdx P (fun _ => true) t m (.sliceToArrayPointer ty x) (KvAt K m nx) := rfl
theorem rdx_s2a (P : Program) (rd : Nat → Bool) (t : Slots) (m : Mem) (k : AV → Prop) (ty : TypeId) (x : Operand) : rdx P rd t m (.sliceToArrayPointer ty x) k = withv (evx t x) fun u => s2ax P ty u k := rfl
theorem mapOf_map (n : Nat) : mapOf [.map n] = some n := rfl
theorem mapOf_sl (n o l c : Nat) : mapOf [.sl n o l c] = none := rfl
theorem mapOf_nils : mapOf [.nils] = none := rfl
theorem mapOf_ro (n : Nat) (l : List AV) : mapOf [.ro n l] = none := rfl
theorem mapOf_str (x : ByteArray) : mapOf [.str x] = none := rfl
theorem mapOf_agg (l : List AV) : mapOf [.agg l] = none := rfl
theorem mapOf_ptr (n o : Nat) : mapOf [.ptr n o] = none := rfl
theorem mapOf_rop (l : List AV) : mapOf [.rop l] = none := rfl
theorem mapOf_val (v : Value) : mapOf [.val v] = none := rfl
theorem lenq_none (P : Program) (ts : Array TypeId) (l : List AV) (m : Mem) (nx : Nat) (K : Kv) : lenq P ts l m nx K none = bltx P .len ts l (KvAt K m nx) := rfl
theorem lenq_some (P : Program) (ts : Array TypeId) (l : List AV) (m : Mem) (nx : Nat) (K : Kv) (n : Nat) : lenq P ts l m nx K (some n) = lenm P ts n m nx K := rfl
end Go.Eng
end
section
/- The engine, part 12b: the equations once more, so that nothing behind an unknown is walked before it is known. Printed by a program of our own. -/
set_option linter.unusedVariables false
set_option linter.unusedSimpArgs false
namespace Go.Eng
open Go
/-- what is asked of the type's facts, and what follows -/
def Asks {α : Type} (o : Option α) (f : α → Prop) : Prop := ∃ x, o = some x ∧ f x
@[congr] theorem Asks_congr {α : Type} {o o' : Option α} {f : α → Prop} (h : o = o') : Asks o f = Asks o' f := by rw [h]
theorem Asks_some {α : Type} (x : α) (f : α → Prop) : Asks (some x) f = f x := by
  simp only [Asks, Option.some.injEq, exists_eq_left']
theorem binx_aeql (P : Program) (ty : TypeId) (k : AV → Prop) (a b : List AV) : binx P .eql ty (.agg a) (.agg b) k = (eqAggT P ty = true ∧ Asks (aggLits P ty a) fun la => Asks (aggLits P ty b) fun lb => k (.bool (litEq la lb))) := rfl
theorem binx_aneq (P : Program) (ty : TypeId) (k : AV → Prop) (a b : List AV) : binx P .neq ty (.agg a) (.agg b) k = (eqAggT P ty = true ∧ Asks (aggLits P ty a) fun la => Asks (aggLits P ty b) fun lb => k (.bool (!(litEq la lb)))) := rfl
theorem pickx_true (P : Program) (ty : TypeId) (l : List AV) (off : Nat) (k : AV → Prop) : pickx true P ty l off k = (Asks (sizeT P ty) fun s => off + s ≤ l.length ∧ k (.agg ((l.drop off).take s))) := rfl
theorem pickx_false (P : Program) (ty : TypeId) (l : List AV) (off : Nat) (k : AV → Prop) : pickx false P ty l off k = (off < l.length ∧ k (l.getD off (dflt P ty))) := rfl
theorem idxx_sl (P : Program) (t : TypeId) (n off len cap : Nat) (q : IntKind) (i : Int) (k : AV → Prop) : idxx P t (.sl n off len cap) (.int q i) k = (Asks (elemT P t) fun e => Asks (sizeT P e) fun s => (0 ≤ i ∧ i < len) ∧ k (.ptr n (off + i.toNat * s))) := rfl
theorem idxx_ptr (P : Program) (t : TypeId) (n off : Nat) (q : IntKind) (i : Int) (k : AV → Prop) : idxx P t (.ptr n off) (.int q i) k = (Asks (arrT P t) fun q => Asks (sizeT P q.2) fun s => (0 ≤ i ∧ i < q.1) ∧ k (.ptr n (off + i.toNat * s))) := rfl
theorem idxx_ro (P : Program) (t : TypeId) (len : Nat) (xs : List AV) (q : IntKind) (i : Int) (k : AV → Prop) : idxx P t (.ro len xs) (.int q i) k = (Asks (elemT P t) fun e => Asks (sizeT P e) fun s => (0 ≤ i ∧ i < len) ∧ i.toNat * s < xs.length ∧ k (.rop (xs.drop (i.toNat * s)))) := rfl
theorem idxx_rop (P : Program) (t : TypeId) (xs : List AV) (q : IntKind) (i : Int) (k : AV → Prop) : idxx P t (.rop xs) (.int q i) k = (Asks (arrT P t) fun q => Asks (sizeT P q.2) fun s => (0 ≤ i ∧ i < q.1) ∧ k (.rop (xs.drop (i.toNat * s)))) := rfl
theorem fldx_ptr (P : Program) (t : TypeId) (n off f : Nat) (k : AV → Prop) : fldx P t (.ptr n off) f k = (Asks (fieldT P t f) fun q => Asks (sizeT P q.2) fun s => s ≠ 0 ∧ k (.ptr n (off + q.1))) := rfl
theorem fldx_rop (P : Program) (t : TypeId) (xs : List AV) (f : Nat) (k : AV → Prop) : fldx P t (.rop xs) f k = (Asks (fieldT P t f) fun q => Asks (sizeT P q.2) fun s => s ≠ 0 ∧ k (.rop (xs.drop q.1))) := rfl
theorem fieldx_agg (P : Program) (t : TypeId) (l : List AV) (f : Nat) (k : AV → Prop) : fieldx P t (.agg l) f k = (Asks (fieldT P t f) fun q => partx P q.2 l q.1 k) := rfl
theorem indexx_agg (P : Program) (t : TypeId) (l : List AV) (q : IntKind) (i : Int) (k : AV → Prop) : indexx P t (.agg l) (.int q i) k = (Asks (arrT P t) fun q => Asks (sizeT P q.2) fun s => (0 ≤ i ∧ i < q.1) ∧ partx P q.2 l (i.toNat * s) k) := rfl
theorem indexx_str (P : Program) (t : TypeId) (s : ByteArray) (q : IntKind) (i : Int) (k : AV → Prop) : indexx P t (.str s) (.int q i) k = (isStrT P t = true ∧ 0 ≤ i ∧ i.toNat < s.data.toList.length ∧ k (.int .u8 ((s.data.toList.getD i.toNat 0).toNat : Int))) := rfl
theorem slcx_sl (P : Program) (t : TypeId) (n off len cap : Nat) (lo hi : Option AV) (k : AV → Prop) : slcx P t (.sl n off len cap) lo hi k = (Asks (elemT P t) fun e => Asks (sizeT P e) fun s => Asks (loI lo) fun l => Asks (hiI len hi) fun h => (0 ≤ l ∧ l ≤ h ∧ h ≤ cap) ∧ k (.sl n (off + l.toNat * s) (h.toNat - l.toNat) (cap - l.toNat))) := rfl
theorem slcx_nils (P : Program) (t : TypeId) (lo hi : Option AV) (k : AV → Prop) : slcx P t .nils lo hi k = (Asks (elemT P t) fun e => Asks (sizeT P e) fun s => loI lo = some 0 ∧ hiI 0 hi = some 0 ∧ k .nils) := rfl
theorem slcx_ro (P : Program) (t : TypeId) (len : Nat) (xs : List AV) (lo hi : Option AV) (k : AV → Prop) : slcx P t (.ro len xs) lo hi k = (Asks (elemT P t) fun e => Asks (sizeT P e) fun s => Asks (loI lo) fun l => Asks (hiI len hi) fun h => (0 ≤ l ∧ l ≤ h ∧ h ≤ len) ∧ k (.ro (h.toNat - l.toNat) ((xs.drop (l.toNat * s)).take ((h.toNat - l.toNat) * s)))) := rfl
theorem slcx_ptr (P : Program) (t : TypeId) (n off : Nat) (lo hi : Option AV) (k : AV → Prop) : slcx P t (.ptr n off) lo hi k = (Asks (arrT P t) fun q => Asks (sizeT P q.2) fun s => Asks (loI lo) fun l => Asks (hiI q.1 hi) fun h => (0 ≤ l ∧ l ≤ h ∧ h ≤ q.1) ∧ k (.sl n (off + l.toNat * s) (h.toNat - l.toNat) (q.1 - l.toNat))) := rfl
theorem slcx_str (P : Program) (t : TypeId) (s : ByteArray) (lo hi : Option AV) (k : AV → Prop) : slcx P t (.str s) lo hi k = (isStrT P t = true ∧ Asks (loI lo) fun l => Asks (hiI s.size hi) fun h => (0 ≤ l ∧ l ≤ h ∧ h ≤ s.size) ∧ k (.str (s.extract l.toNat h.toNat))) := rfl
theorem convx_int (P : Program) (rd : Nat → Bool) (m : Mem) (src dst : TypeId) (q0 : IntKind) (n : Int) (k : AV → Prop) : convx P rd m src dst (.int q0 n) k = (Asks (intT P dst) fun q => known P src = true ∧ k (.int q (q.wrap n))) := rfl
theorem convx_str (P : Program) (rd : Nat → Bool) (m : Mem) (src dst : TypeId) (s : ByteArray) (k : AV → Prop) : convx P rd m src dst (.str s) k = (isStrT P dst = true ∧ isStrT P src = true ∧ k (.str s)) := rfl
theorem convx_nils (P : Program) (rd : Nat → Bool) (m : Mem) (src dst : TypeId) (k : AV → Prop) : convx P rd m src dst .nils k = (Asks (elemT P src) fun e => intT P e = some .u8 ∧ isStrT P dst = true ∧ k (.str ⟨#[]⟩)) := rfl
theorem convx_ro (P : Program) (rd : Nat → Bool) (m : Mem) (src dst : TypeId) (len : Nat) (xs : List AV) (k : AV → Prop) : convx P rd m src dst (.ro len xs) k = (Asks (elemT P src) fun e => intT P e = some .u8 ∧ isStrT P dst = true ∧ len ≤ xs.length ∧ Asks (u8s (xs.take len)) fun bs => k (.str ⟨bs.toArray⟩)) := rfl
def cvbo (P : Program) (rd : Bool) (src dst : TypeId) (off len : Nat) (k : AV → Prop) : Option AObj → Prop
  | some (.cells l _) => rd = true ∧ Asks (elemT P src) fun e => intT P e = some .u8 ∧ isStrT P dst = true ∧ off + len ≤ l.length ∧ Asks (u8s ((l.drop off).take len)) fun bs => k (.str ⟨bs.toArray⟩)
  | _ => False
theorem cvbo_cells (P : Program) (rd : Bool) (src dst : TypeId) (off len : Nat) (k : AV → Prop) (l : List AV) (ty : TypeId) : cvbo P rd src dst off len k (some (.cells l ty)) = (rd = true ∧ Asks (elemT P src) fun e => intT P e = some .u8 ∧ isStrT P dst = true ∧ off + len ≤ l.length ∧ Asks (u8s ((l.drop off).take len)) fun bs => k (.str ⟨bs.toArray⟩)) := rfl
theorem convx_sl (P : Program) (rd : Nat → Bool) (m : Mem) (src dst : TypeId) (n off len cap : Nat) (k : AV → Prop) : convx P rd m src dst (.sl n off len cap) k = (cvbo P (rd n) src dst off len k (look m n)) := by
  simp only [convx]
  generalize look m n = o
  match o with
  | none => rfl
  | some (.cells l e) => rfl
  | some (.opq o) => rfl
  | some (.fz l e) => rfl
  | some (.mp k a b) => rfl
  | some (.mx k a b c) => rfl
theorem lenx_agg (P : Program) (ty : TypeId) (l : List AV) (k : AV → Prop) : lenx P ty (.agg l) k = (Asks (arrT P ty) fun q => k (.int .i64 q.1)) := rfl
theorem lenx_sl (P : Program) (ty : TypeId) (n off len cap : Nat) (k : AV → Prop) : lenx P ty (.sl n off len cap) k = ((elemT P ty).isSome = true ∧ k (.int .i64 len)) := rfl
theorem lenx_nils (P : Program) (ty : TypeId) (k : AV → Prop) : lenx P ty .nils k = ((elemT P ty).isSome = true ∧ k (.int .i64 0)) := rfl
theorem lenx_ro (P : Program) (ty : TypeId) (len : Nat) (xs : List AV) (k : AV → Prop) : lenx P ty (.ro len xs) k = ((elemT P ty).isSome = true ∧ k (.int .i64 len)) := rfl
theorem lenx_str (P : Program) (ty : TypeId) (s : ByteArray) (k : AV → Prop) : lenx P ty (.str s) k = (isStrT P ty = true ∧ k (.int .i64 s.size)) := rfl
theorem mmx_int (mx : Bool) (q : IntKind) (x : Int) (r : List AV) (k : AV → Prop) : mmx mx (.int q x :: r) k = (Asks (mmI mx x r) fun y => k (.int q y)) := rfl
def bldx (P : Program) (z : List AV) (parts : List (Nat × AV)) (k : AV → Prop) : Option (List (Nat × Nat)) → Option (Nat × TypeId) → Prop
  | some ps, _ => Asks (fillA (fun i => ps[i]?) z parts) fun l => k (.agg l)
  | none, some q => Asks (sizeT P q.2) fun s => Asks (fillA (fun i => some (i * s, s)) z parts) fun l => k (.agg l)
  | none, none => False
theorem bldx_s (P : Program) (z : List AV) (parts : List (Nat × AV)) (k : AV → Prop) (ps : List (Nat × Nat)) (q : Option (Nat × TypeId)) : bldx P z parts k (some ps) q = Asks (fillA (fun i => ps[i]?) z parts) fun l => k (.agg l) := rfl
theorem bldx_n (P : Program) (z : List AV) (parts : List (Nat × AV)) (k : AV → Prop) (q : Nat × TypeId) : bldx P z parts k none (some q) = Asks (sizeT P q.2) fun s => Asks (fillA (fun i => some (i * s, s)) z parts) fun l => k (.agg l) := rfl
theorem buildx_eq (P : Program) (ty : TypeId) (parts : List (Nat × AV)) (k : AV → Prop) : buildx P ty parts k = (Asks (zav P ty) fun z => bldx P z parts k (placesT P ty) (arrT P ty)) := by
  simp only [buildx, Asks]
  cases placesT P ty <;> cases arrT P ty <;> rfl
theorem allocx_eq (P : Program) (ty : TypeId) (m : Mem) (nx : Nat) (K : Kv) : allocx P ty m nx K = (Asks (zav P ty) fun z => K (.ptr nx 0) ((nx, .cells z ty) :: m) (nx + 1)) := rfl
theorem bslx_eq (P : Program) (ty : TypeId) (len : Nat) (parts : List (Nat × AV)) (m : Mem) (nx : Nat) (K : Kv) : bslx P ty len parts m nx K = (Asks (elemT P ty) fun e => Asks (sizeT P e) fun s => len * s ≤ 16777216 ∧ Asks (zav P e) fun z => (len * s = 0 ∨ 0 < z.length) ∧ Asks (fillA (fun i => some (i * s, s)) (zfill z (len * s)) parts) fun l => K (.sl nx 0 len len) ((nx, .cells l e) :: m) (nx + 1)) := rfl
theorem mkslx_int (P : Program) (ty : TypeId) (q1 q2 : IntKind) (x y : Int) (m : Mem) (nx : Nat) (K : Kv) : mkslx P ty (.int q1 x) (.int q2 y) m nx K = (Asks (elemT P ty) fun e => Asks (sizeT P e) fun s => Asks (bytesT P e) fun bt => (0 ≤ x ∧ x ≤ y ∧ y ≤ 9223372036854775807 ∧ bt * y.toNat ≤ 281474976710656) ∧ Asks (zav P e) fun z => z.length = s ∧ 0 < s ∧ K (.sl nx 0 x.toNat y.toNat) ((nx, .cells (zfill z (y.toNat * s)) e) :: m) (nx + 1)) := rfl
theorem appx_two (P : Program) (wr : Nat → Bool) (ty ty2 : TypeId) (dst src : AV) (m : Mem) (nx : Nat) (K : Kv) : appx P wr #[ty, ty2] [dst, src] m nx K = (ty2 = ty ∧ Asks (elemT P ty) fun e => Asks (sizeT P e) fun s => 0 < s ∧ Asks (bytesT P e) fun bt => Asks (zav P e) fun z => z.length = s ∧ Asks (srcx m s src) fun q => q.2.length = q.1 * s ∧ q.2.all one1 = true ∧ appk dst m nx wr e s bt q K) := rfl
def cpyo (n off len s : Nat) (m : Mem) (nx : Nat) (q : Nat × List AV) (K : Kv) : Option AObj → Prop
  | some (.cells l e') => off + len * s ≤ l.length ∧ K (.int .i64 (min (q.1 : Int) (len : Int))) (upd m n (.cells (spl l off (q.2.take (min q.1 len * s))) e')) nx
  | _ => False
theorem cpyo_cells (n off len s : Nat) (m : Mem) (nx : Nat) (q : Nat × List AV) (K : Kv) (l : List AV) (e' : TypeId) : cpyo n off len s m nx q K (some (.cells l e')) = (off + len * s ≤ l.length ∧ K (.int .i64 (min (q.1 : Int) (len : Int))) (upd m n (.cells (spl l off (q.2.take (min q.1 len * s))) e')) nx) := rfl
theorem cpyx_two (P : Program) (wr : Nat → Bool) (ty ty2 : TypeId) (n off len cap : Nat) (src : AV) (m : Mem) (nx : Nat) (K : Kv) : cpyx P wr #[ty, ty2] [.sl n off len cap, src] m nx K = (Asks (elemT P ty) fun e => Asks (sizeT P e) fun s => Asks (srcx m s src) fun q => q.2.length = q.1 * s ∧ q.2.all one1 = true ∧ wr n = true ∧ cpyo n off len s m nx q K (look m n)) := by
  simp only [cpyx, Asks]
  generalize look m n = o
  match o with
  | none => rfl
  | some (.cells l e) => rfl
  | some (.opq o) => rfl
  | some (.fz l e) => rfl
  | some (.mp k a b) => rfl
  | some (.mx k a b c) => rfl
theorem cvs_falseE (P : Program) (wr : Nat → Bool) (s d : TypeId) (n off len cap : Nat) (m : Mem) (nx : Nat) (K : Kv) : cvs false P wr s d n off len cap m nx K = (s = d ∧ 0 < cap ∧ Asks (elemT P d) fun e => intT P e = some .u8 ∧ wr n = true ∧ cvo n off len cap m nx K (look m n)) := by
  rw [Eng.cvs_false]; rfl
theorem mkmx_eq (P : Program) (ty : TypeId) (m : Mem) (nx : Nat) (K : Kv) : mkmx P ty m nx K = Asks (mapT P ty) fun q => K (.map nx) ((nx, .mp q.1 [] []) :: m) (nx + 1) := rfl
def insxo (P : Program) (w : Bool) (ty : TypeId) (n : Nat) (q0 : IntKind) (z : Int) (y : AV) (m : Mem) (nx : Nat) (K : Kv) : Option AObj → Prop
  | some (.mp q1 keys vals) => Asks (mapT P ty) fun q => q0 = q.1 ∧ q1 = q.1 ∧ w = true ∧ K (.tup []) (upd m n (.mp q.1 (mputk z keys) (mputv z y keys vals))) nx
  | _ => False
theorem insx_map (P : Program) (wr : Nat → Bool) (ty : TypeId) (n : Nat) (q0 : IntKind) (z : Int) (y : AV) (m : Mem) (nx : Nat) (K : Kv) : insx P wr ty (.map n) (.int q0 z) y m nx K = insxo P (wr n) ty n q0 z y m nx K (look m n) := by
  simp only [insx]
  generalize look m n = o
  match o with
  | none => rfl
  | some (.cells l e) => rfl
  | some (.opq o) => rfl
  | some (.fz l e) => rfl
  | some (.mp k a b) => rfl
  | some (.mx k a b c) => rfl
theorem insxo_mp (P : Program) (w : Bool) (ty : TypeId) (n : Nat) (q0 : IntKind) (z : Int) (y : AV) (m : Mem) (nx : Nat) (K : Kv) (q1 : IntKind) (keys : List Int) (vals : List AV) :
    insxo P w ty n q0 z y m nx K (some (.mp q1 keys vals)) = Asks (mapT P ty) fun q => q0 = q.1 ∧ q1 = q.1 ∧ w = true ∧ K (.tup []) (upd m n (.mp q.1 (mputk z keys) (mputv z y keys vals))) nx := rfl
def lookxo (P : Program) (ty : TypeId) (q0 : IntKind) (z : Int) (ok : Bool) (k : AV → Prop) : Option AObj → Prop
  | some (.mp q1 keys vals) => Asks (mapT P ty) fun q => q0 = q.1 ∧ q1 = q.1 ∧ Asks (zval P q.2) fun d => lkk ok d k (mfind z keys vals)
  | _ => False
theorem lookx_map (P : Program) (m : Mem) (ty : TypeId) (n : Nat) (q0 : IntKind) (z : Int) (ok : Bool) (k : AV → Prop) : lookx P m ty (.map n) (.int q0 z) ok k = lookxo P ty q0 z ok k (look m n) := by
  simp only [lookx]
  generalize look m n = o
  match o with
  | none => rfl
  | some (.cells l e) => rfl
  | some (.opq o) => rfl
  | some (.fz l e) => rfl
  | some (.mp k a b) => rfl
  | some (.mx k a b c) => rfl
theorem lookxo_mp (P : Program) (ty : TypeId) (q0 : IntKind) (z : Int) (ok : Bool) (k : AV → Prop) (q1 : IntKind) (keys : List Int) (vals : List AV) :
    lookxo P ty q0 z ok k (some (.mp q1 keys vals)) = Asks (mapT P ty) fun q => q0 = q.1 ∧ q1 = q.1 ∧ Asks (zval P q.2) fun d => lkk ok d k (mfind z keys vals) := rfl
theorem lkk_some (ok : Bool) (d v : AV) (k : AV → Prop) : lkk ok d k (some v) = k (if ok then .tup [v, .bool true] else v) := rfl
theorem lkk_none (ok : Bool) (d : AV) (k : AV → Prop) : lkk ok d k none = k (if ok then .tup [d, .bool false] else d) := rfl
theorem mkmx2_eq (P : Program) (ty : TypeId) (m : Mem) (nx : Nat) (K : Kv) : mkmx2 P ty m nx K = mkq P ty m nx K (mxT P ty) := rfl
theorem mkq_some (P : Program) (ty : TypeId) (m : Mem) (nx : Nat) (K : Kv) (q : KD × TypeId) : mkq P ty m nx K (some q) = K (.map nx) ((nx, .mx q.1 [] [] []) :: m) (nx + 1) := rfl
theorem mkq_none (P : Program) (ty : TypeId) (m : Mem) (nx : Nat) (K : Kv) : mkq P ty m nx K none = mkmx P ty m nx K := rfl
theorem lookx2_map (P : Program) (m : Mem) (ty : TypeId) (n : Nat) (v : AV) (ok : Bool) (k : AV → Prop) : lookx2 P m ty (.map n) v ok k = lookq P m ty n v ok k (look m n) := rfl
theorem lookq_mx (P : Program) (m : Mem) (ty : TypeId) (n : Nat) (v : AV) (ok : Bool) (k : AV → Prop) (kd : KD) (keys : List Key) (vals : List AV) (born : List Nat) : lookq P m ty n v ok k (some (.mx kd keys vals born)) = (Asks (mxT P ty) fun q => q.1 = kd ∧ Asks (keyA kd v) fun a => Asks (zval P q.2) fun d => lkk ok d k (xget a keys vals)) := rfl
theorem lookq_mp (P : Program) (m : Mem) (ty : TypeId) (n : Nat) (v : AV) (ok : Bool) (k : AV → Prop) (q : IntKind) (keys : List Int) (vals : List AV) : lookq P m ty n v ok k (some (.mp q keys vals)) = lookx P m ty (.map n) v ok k := rfl
theorem insx2_map (P : Program) (wr : Nat → Bool) (ty : TypeId) (n : Nat) (i y : AV) (m : Mem) (nx : Nat) (K : Kv) : insx2 P wr ty (.map n) i y m nx K = insq P wr ty n i y m nx K (look m n) := rfl
theorem insq_mx (P : Program) (wr : Nat → Bool) (ty : TypeId) (n : Nat) (i y : AV) (m : Mem) (nx : Nat) (K : Kv) (kd : KD) (keys : List Key) (vals : List AV) (born : List Nat) : insq P wr ty n i y m nx K (some (.mx kd keys vals born)) = (Asks (mxT P ty) fun q => q.1 = kd ∧ Asks (keyA kd i) fun k => wr n = true ∧ insk K m n nx kd keys vals born k y) := rfl
theorem insq_mp (P : Program) (wr : Nat → Bool) (ty : TypeId) (n : Nat) (i y : AV) (m : Mem) (nx : Nat) (K : Kv) (q : IntKind) (keys : List Int) (vals : List AV) : insq P wr ty n i y m nx K (some (.mp q keys vals)) = insx P wr ty (.map n) i y m nx K := rfl
def mentq (P : Program) (wr : Nat → Bool) (ty : TypeId) (n : Nat) (i : AV) (m : Mem) (nx : Nat) (K : Kv) : Option AObj → Prop
  | some (.mx kd keys vals born) => Asks (mxT P ty) fun q => q.1 = kd ∧ Asks (keyA kd i) fun k => Asks (zval P q.2) fun z => wr n = true ∧ mentk K m n nx kd keys vals born k z
  | _ => False
theorem mentx_map (P : Program) (wr : Nat → Bool) (ty : TypeId) (n : Nat) (i : AV) (m : Mem) (nx : Nat) (K : Kv) : mentx P wr ty (.map n) i m nx K = mentq P wr ty n i m nx K (look m n) := by
  simp only [mentx]
  generalize look m n = o
  match o with
  | none => rfl
  | some (.cells l e) => rfl
  | some (.opq o) => rfl
  | some (.fz l e) => rfl
  | some (.mp k a b) => rfl
  | some (.mx k a b c) => rfl
theorem mentq_mx (P : Program) (wr : Nat → Bool) (ty : TypeId) (n : Nat) (i : AV) (m : Mem) (nx : Nat) (K : Kv) (kd : KD) (keys : List Key) (vals : List AV) (born : List Nat) : mentq P wr ty n i m nx K (some (.mx kd keys vals born)) = (Asks (mxT P ty) fun q => q.1 = kd ∧ Asks (keyA kd i) fun k => Asks (zval P q.2) fun z => wr n = true ∧ mentk K m n nx kd keys vals born k z) := rfl
def estq (w : Bool) (n : Nat) (c : Int) (y : AV) (m : Mem) (nx : Nat) (K : Kv) : Option AObj → Prop
  | some (.mx kd keys vals born) => bidx c born < born.length ∧ w = true ∧ K (.tup []) (upd m n (.mx kd keys (vals.set (bidx c born) y) born)) nx
  | _ => False
theorem estx_map (wr : Nat → Bool) (n : Nat) (q : IntKind) (c : Int) (y : AV) (m : Mem) (nx : Nat) (K : Kv) : estx wr (.map n) (.int q c) y m nx K = estq (wr n) n c y m nx K (look m n) := by
  simp only [estx]
  generalize look m n = o
  match o with
  | none => rfl
  | some (.cells l e) => rfl
  | some (.opq o) => rfl
  | some (.fz l e) => rfl
  | some (.mp k a b) => rfl
  | some (.mx k a b c) => rfl
theorem estq_mx (w : Bool) (n : Nat) (c : Int) (y : AV) (m : Mem) (nx : Nat) (K : Kv) (kd : KD) (keys : List Key) (vals : List AV) (born : List Nat) : estq w n c y m nx K (some (.mx kd keys vals born)) = (bidx c born < born.length ∧ w = true ∧ K (.tup []) (upd m n (.mx kd keys (vals.set (bidx c born) y) born)) nx) := rfl
def delq (P : Program) (w : Bool) (ty : TypeId) (n : Nat) (i : AV) (m : Mem) (nx : Nat) (K : Kv) : Option AObj → Prop
  | some (.mx kd keys vals born) => Asks (mxT P ty) fun q => q.1 = kd ∧ Asks (keyA kd i) fun a => w = true ∧ K (.tup []) (upd m n (.mx kd (keys.eraseIdx (xidx a keys)) (vals.eraseIdx (xidx a keys)) (born.eraseIdx (xidx a keys)))) nx
  | _ => False
theorem delx_two (P : Program) (wr : Nat → Bool) (ty kt : TypeId) (n : Nat) (i : AV) (m : Mem) (nx : Nat) (K : Kv) : delx P wr #[ty, kt] [.map n, i] m nx K = delq P (wr n) ty n i m nx K (look m n) := by
  simp only [delx]
  generalize look m n = o
  match o with
  | none => rfl
  | some (.cells l e) => rfl
  | some (.opq o) => rfl
  | some (.fz l e) => rfl
  | some (.mp k a b) => rfl
  | some (.mx k a b c) => rfl
theorem delq_mx (P : Program) (w : Bool) (ty : TypeId) (n : Nat) (i : AV) (m : Mem) (nx : Nat) (K : Kv) (kd : KD) (keys : List Key) (vals : List AV) (born : List Nat) : delq P w ty n i m nx K (some (.mx kd keys vals born)) = (Asks (mxT P ty) fun q => q.1 = kd ∧ Asks (keyA kd i) fun a => w = true ∧ K (.tup []) (upd m n (.mx kd (keys.eraseIdx (xidx a keys)) (vals.eraseIdx (xidx a keys)) (born.eraseIdx (xidx a keys)))) nx) := rfl
def lenmq (P : Program) (ty : TypeId) (m : Mem) (nx : Nat) (K : Kv) : Option AObj → Prop
  | some (.mx kd keys vals born) => (Asks (mxT P ty) fun _ => True) ∧ K (.int .i64 keys.length) m nx
  | _ => False
theorem lenm_one (P : Program) (ty : TypeId) (n : Nat) (m : Mem) (nx : Nat) (K : Kv) : lenm P #[ty] n m nx K = lenmq P ty m nx K (look m n) := by
  simp only [lenm]
  generalize look m n = o
  match o with
  | none => rfl
  | some (.cells l e) => rfl
  | some (.opq o) => rfl
  | some (.fz l e) => rfl
  | some (.mp k a b) => rfl
  | some (.mx k a b c) =>
    simp only [lenmq, Asks, and_true]
theorem lenmq_mx (P : Program) (ty : TypeId) (m : Mem) (nx : Nat) (K : Kv) (kd : KD) (keys : List Key) (vals : List AV) (born : List Nat) : lenmq P ty m nx K (some (.mx kd keys vals born)) = ((Asks (mxT P ty) fun _ => True) ∧ K (.int .i64 keys.length) m nx) := rfl
theorem binx_sneql (P : Program) (ty : TypeId) (k : AV → Prop) (n o l c : Nat) : binx P .eql ty (.sl n o l c) .nils k = ((elemT P ty).isSome = true ∧ k (.bool false)) := rfl
theorem binx_snneq (P : Program) (ty : TypeId) (k : AV → Prop) (n o l c : Nat) : binx P .neq ty (.sl n o l c) .nils k = ((elemT P ty).isSome = true ∧ k (.bool true)) := rfl
theorem binx_ifeql (P : Program) (ty ty2 : TypeId) (x : AV) (k : AV → Prop) : binx P .eql ty (.iface ty2 x) .nili k = (isIfaceT P ty = true ∧ k (.bool false)) := rfl
theorem binx_ifneq (P : Program) (ty ty2 : TypeId) (x : AV) (k : AV → Prop) : binx P .neq ty (.iface ty2 x) .nili k = (isIfaceT P ty = true ∧ k (.bool true)) := rfl
theorem binx_nneql (P : Program) (ty : TypeId) (k : AV → Prop) : binx P .eql ty .nils .nils k = ((elemT P ty).isSome = true ∧ k (.bool true)) := rfl
theorem binx_nnneq (P : Program) (ty : TypeId) (k : AV → Prop) : binx P .neq ty .nils .nils k = ((elemT P ty).isSome = true ∧ k (.bool false)) := rfl
theorem s2ax_sl (P : Program) (ty : TypeId) (n off len cap : Nat) (k : AV → Prop) : s2ax P ty (.sl n off len cap) k = (Asks (arrT P ty) fun q => 0 < q.1 ∧ q.1 ≤ len ∧ k (.ptr n off)) := rfl
theorem s2ax_ro (P : Program) (ty : TypeId) (len : Nat) (xs : List AV) (k : AV → Prop) : s2ax P ty (.ro len xs) k = (Asks (arrT P ty) fun q => 0 < q.1 ∧ q.1 ≤ len ∧ 0 < xs.length ∧ k (.rop xs)) := rfl
end Go.Eng
end
section
/- The engine, part 31: the equations of maps with stamps, all in one. Printed by a program of our own. -/
set_option maxRecDepth 100000
namespace Go.Eng
open Go
theorem engU0 : type_of% (And.intro @mkmx2_eq <| And.intro @mkq_some <| And.intro @mkq_none <| And.intro @lookx2_map <| And.intro @lookq_mx <| And.intro @lookq_mp <| And.intro @insx2_map <| And.intro @insq_mx <| And.intro @insq_mp <| And.intro @mentx_map <| And.intro @mentq_mx <| And.intro @estx_map <| And.intro @estq_mx <| And.intro @delx_two <| And.intro @delq_mx <| And.intro @lenm_one <| And.intro @lenmq_mx <| And.intro @s2ax_sl <| And.intro @s2ax_ro <| And.intro @opx_mapEntry <| And.intro @opx_entryStore <| And.intro @opx_delete <| And.intro @opx_s2a <| And.intro @rdx_s2a <| And.intro @mapOf_map <| And.intro @mapOf_sl <| And.intro @mapOf_nils <| And.intro @mapOf_ro <| And.intro @mapOf_str <| And.intro @mapOf_agg <| And.intro @mapOf_ptr <| And.intro @mapOf_rop <| And.intro @mapOf_val <| And.intro @lenq_none <| And.intro @lenq_some <| And.intro @keyA_int <| And.intro @keyA_bb <| And.intro @binx_sneql <| And.intro @binx_snneq <| And.intro @binx_nneql <| @binx_nnneq) := And.intro @mkmx2_eq <| And.intro @mkq_some <| And.intro @mkq_none <| And.intro @lookx2_map <| And.intro @lookq_mx <| And.intro @lookq_mp <| And.intro @insx2_map <| And.intro @insq_mx <| And.intro @insq_mp <| And.intro @mentx_map <| And.intro @mentq_mx <| And.intro @estx_map <| And.intro @estq_mx <| And.intro @delx_two <| And.intro @delq_mx <| And.intro @lenm_one <| And.intro @lenmq_mx <| And.intro @s2ax_sl <| And.intro @s2ax_ro <| And.intro @opx_mapEntry <| And.intro @opx_entryStore <| And.intro @opx_delete <| And.intro @opx_s2a <| And.intro @rdx_s2a <| And.intro @mapOf_map <| And.intro @mapOf_sl <| And.intro @mapOf_nils <| And.intro @mapOf_ro <| And.intro @mapOf_str <| And.intro @mapOf_agg <| And.intro @mapOf_ptr <| And.intro @mapOf_rop <| And.intro @mapOf_val <| And.intro @lenq_none <| And.intro @lenq_some <| And.intro @keyA_int <| And.intro @keyA_bb <| And.intro @binx_sneql <| And.intro @binx_snneq <| And.intro @binx_nneql <| @binx_nnneq
end Go.Eng
end
section
/- The engine, part 12: counted loops, branches, and ends in their usual forms. Own work. -/
set_option linter.unusedVariables false
namespace Go.Eng
open Go

theorem wrap_u (k : IntKind) (hk : k.signed = false) (x : Int) : k.wrap x = x % 2 ^ k.bits := by simp [IntKind.wrap, hk]
theorem wrap_u8 (x : Int) : IntKind.u8.wrap x = x % 256 := wrap_u .u8 rfl x
theorem wrap_u16 (x : Int) : IntKind.u16.wrap x = x % 65536 := wrap_u .u16 rfl x
theorem wrap_u32 (x : Int) : IntKind.u32.wrap x = x % 4294967296 := wrap_u .u32 rfl x
theorem wrap_u64 (x : Int) : IntKind.u64.wrap x = x % 18446744073709551616 := wrap_u .u64 rfl x
theorem wrap_i64' (x : Int) : IntKind.i64.wrap x = if x % 18446744073709551616 ≥ 9223372036854775808 then x % 18446744073709551616 - 18446744073709551616 else x % 18446744073709551616 := by
  have h : IntKind.i64.wrap x = if decide (x % 18446744073709551616 ≥ 9223372036854775808) = true then x % 18446744073709551616 - 18446744073709551616 else x % 18446744073709551616 := rfl
  rw [h]; simp only [decide_eq_true_eq]
theorem wrap_i64 {x : Int} (h1 : -9223372036854775808 ≤ x) (h2 : x < 9223372036854775808) : IntKind.i64.wrap x = x := by
  rw [wrap_i64']; split <;> omega

/-! sameness of names -/
def slotsSame (t : Slots) : Slots → Prop
  | [] => True
  | (s, v) :: r => look t s = some v ∧ slotsSame t r
def memSame (m : Mem) : Mem → Prop
  | [] => True
  | (n, o) :: r => look m n = some o ∧ memSame m r
theorem rf_id {nx nx' : Nat} (h : nx = nx') (n : Nat) : rf [] nx nx' n = n := by
  unfold rf; simp only [look]; split <;> omega
mutual
theorem renA_id {f : Nat → Nat} (hf : ∀ n, f n = n) : ∀ v : AV, renA f v = v
  | .bool _ => rfl
  | .int _ _ => rfl
  | .str _ => rfl
  | .ptr n o => by simp only [renA, hf]
  | .nilp => rfl
  | .sl n o l c => by simp only [renA, hf]
  | .nils => rfl
  | .ro l xs => by simp only [renA, renL_id hf xs]
  | .rop xs => by simp only [renA, renL_id hf xs]
  | .fn g x y => by simp only [renA, renL_id hf x, renL_id hf y]
  | .nilf => rfl
  | .map n => by simp only [renA, hf]
  | .nilm => rfl
  | .iface t x => by simp only [renA, renA_id hf x]
  | .nili => rfl
  | .agg l => by simp only [renA, renL_id hf l]
  | .tup l => by simp only [renA, renL_id hf l]
  | .val _ => rfl
theorem renL_id {f : Nat → Nat} (hf : ∀ n, f n = n) : ∀ l : List AV, renL f l = l
  | [] => rfl
  | v :: r => by simp only [renL, renA_id hf v, renL_id hf r]
end
theorem renO_id {f : Nat → Nat} (hf : ∀ n, f n = n) (o : AObj) : renO f o = o := by
  cases o with
  | cells l ty => simp only [renO, renL_id hf]
  | opq o => rfl
  | fz l ty => simp only [renO, renL_id hf]
  | mp k keys vals => simp only [renO, renL_id hf]
  | mx kd keys vals born => simp only [renO, renL_id hf]

theorem slotsSame_le {f : Nat → Nat} (hf : ∀ n, f n = n) {t : Slots} : ∀ {t' : Slots}, slotsSame t t' → slotsLe f t t'
  | [], _ => trivial
  | (s, v) :: r, h => ⟨by rw [renA_id hf]; exact h.1, slotsSame_le hf h.2⟩
theorem memSame_le {f : Nat → Nat} (hf : ∀ n, f n = n) {wr : Nat → Bool} {m : Mem} : ∀ {m' : Mem}, memSame m m' → memLe f wr wr m m'
  | [], _ => trivial
  | (n, o) :: r, h => ⟨by rw [renO_id hf, hf]; exact h.1, by rw [hf], memSame_le hf h.2⟩
theorem injOn_id {f : Nat → Nat} (hf : ∀ n, f n = n) {m : Mem} (h : (m.map fun p => p.1).Nodup) : injOn f m := by
  unfold injOn; simpa only [hf] using h
theorem Le.same {nf : Nat} {wr : Nat → Bool} {t t' : Slots} {m m' : Mem} {nx : Nat} (hn : nf ≤ nx) (hs : slotsSame t t') (hm : memSame m m') (hd : (m'.map fun p => p.1).Nodup)
    (hw : ∀ n, nx ≤ n → wr n = true) (hk : ∀ n, wr n = false → ∃ o, look m' n = some o) : ∃ l, Le nf l wr t m nx t' m' nx :=
  ⟨[], ⟨by rfl, hn, slotsSame_le (rf_id rfl) hs, memSame_le (rf_id rfl) hm, injOn_id (rf_id rfl) hd, hk, hw⟩⟩
theorem Le.sameT {nf : Nat} {t t' : Slots} {m m' : Mem} {nx : Nat} (hn : nf ≤ nx) (hs : slotsSame t t') (hm : memSame m m') (hd : (m'.map fun p => p.1).Nodup) : ∃ l, Le nf l (fun _ => true) t m nx t' m' nx :=
  Le.same hn hs hm hd (fun _ _ => rfl) (fun _ e => by cases e)

/-! a loop that counts up -/
def UpK (nf : Nat) (wr : Nat → Bool) (S : Nat → Slots × Mem × Nat) (n i : Nat) (hi : i ≤ n) (K : Kx) : Kx := LoopK (ι := { i : Nat // i ≤ n }) nf wr (fun i => S i.1) (fun i => n - i.1) ⟨i, hi⟩ K
theorem UpK_normal {nf : Nat} {wr : Nat → Bool} {S : Nat → Slots × Mem × Nat} {n i : Nat} {hi : i ≤ n} {K : Kx} {t : Slots} {m : Mem} {nx : Nat} (h1 : i < n) (h2 : ∃ l, Le nf l wr t m nx (S (i + 1)).1 (S (i + 1)).2.1 (S (i + 1)).2.2) : UpK nf wr S n i hi K .normal t m nx :=
  ⟨⟨i + 1, h1⟩, by show n - (i + 1) < n - i; omega, h2⟩
theorem UpK_ret (nf : Nat) (wr : Nat → Bool) (S : Nat → Slots × Mem × Nat) (n i : Nat) (hi : i ≤ n) (K : Kx) (t : Slots) (m : Mem) (nx : Nat) : UpK nf wr S n i hi K .ret t m nx = K .ret t m nx := rfl
theorem UpK_exit (nf : Nat) (wr : Nat → Bool) (S : Nat → Slots × Mem × Nat) (n i : Nat) (hi : i ≤ n) (K : Kx) (t : Slots) (m : Mem) (nx : Nat) (e : Nat) : UpK nf wr S n i hi K (.exit e) t m nx = K (.exit e) t m nx := rfl
theorem LoopOk.up {fz : Bool} {nf : Nat} {E : Ex} {wr : Nat → Bool} {t : Slots} {m : Mem} {nx : Nat} {K : Kx} (n : Nat) (S : Nat → Slots × Mem × Nat)
    (h0 : ∃ l, Le nf l wr t m nx (S 0).1 (S 0).2.1 (S 0).2.2) (hr : ∀ i (hi : i ≤ n), E (S i).1 (S i).2.1 (S i).2.2 (UpK nf wr S n i hi K)) : LoopOk fz nf E wr t m nx K :=
  ⟨{ i : Nat // i ≤ n }, fun i => S i.1, fun i => n - i.1, ⟨⟨0, Nat.zero_le _⟩, .inl h0⟩, fun i => hr i.1 i.2⟩
theorem LoopOk.upF {nf : Nat} {E : Ex} {wr : Nat → Bool} {t : Slots} {m : Mem} {nx : Nat} {K : Kx} (n : Nat) (S : Nat → Slots × Mem × Nat)
    (h0 : LeF nf wr t m nx (S 0).1 (S 0).2.1 (S 0).2.2) (hr : ∀ i (hi : i ≤ n), E (S i).1 (S i).2.1 (S i).2.2 (UpK nf wr S n i hi K)) : LoopOk true nf E wr t m nx K :=
  ⟨{ i : Nat // i ≤ n }, fun i => S i.1, fun i => n - i.1, ⟨⟨0, Nat.zero_le _⟩, .inr ⟨rfl, h0⟩⟩, fun i => hr i.1 i.2⟩
/-! branches and ends -/
theorem cndv_split {P : Program} {fz : Bool} {N nf : Nat} {wr : Nat → Bool} {b : Bool} {x y : Code} {t : Slots} {m : Mem} {nx : Nat} {K : Kx} (h1 : b = true → exec P fz N nf wr x t m nx K) (h2 : b = false → exec P fz N nf wr y t m nx K) : cndv P fz N nf wr (.bool b) x y t m nx K := ⟨h1, h2⟩
theorem grdv_split {b : Bool} {s : Tmp} {want : Bool} {yes no : Se} {t : Slots} {m : Mem} {nx : Nat} (h1 : b = want → yes ((s, .bool want) :: t) m nx) (h2 : b = !want → no ((s, .bool (!want)) :: t) m nx) : grdv (some (.bool b)) s want yes no t m nx := ⟨h1, h2⟩
theorem pickv_split {b : Bool} {x y : Option AV} {k : AV → Prop} (h1 : b = true → withv x k) (h2 : b = false → withv y k) : pickv (.bool b) x y k := ⟨h1, h2⟩
theorem renL_flat {f : Nat → Nat} {l : List AV} (h : l.all flat = true) : renL f l = l := flatL_ren h f
theorem flat_ints (k : IntKind) (l : List Int) : (l.map (AV.int k)).all flat = true := by
  induction l with
  | nil => rfl
  | cons x r ih => simp only [List.map_cons, List.all_cons, ih, Bool.and_true]; rfl
theorem Fin.flatv {wr : Nat → Bool} {m : Mem} {nx : Nat} {K : Kv} {v : AV} (hw : ∀ n, wr n = true) (hf : ∀ f, renA f v = v) (h : K v [] 0) : Fin 0 wr m nx K v :=
  ⟨[], v, [], 0, ⟨rfl, Nat.le_refl _⟩, (hf _).symm, trivial, List.nodup_nil, fun n e => (by rw [hw] at e; cases e), h⟩

/-! one cell each -/
def stxo (P : Program) (wr : Nat → Bool) (ty : TypeId) (n off : Nat) (x : AV) (m : Mem) (nx : Nat) (K : Kv) : Option AObj → Prop
  | some (.cells l e) => wr n = true ∧ isTup x = false ∧ sizeT P ty = some (acells x).length ∧ off + (acells x).length ≤ l.length ∧ (acells x).all one1 = true ∧ K (.tup []) (upd m n (.cells (stor l off x) e)) nx
  | _ => False
theorem stx_ptr (P : Program) (wr : Nat → Bool) (ty : TypeId) (n off : Nat) (x : AV) (m : Mem) (nx : Nat) (K : Kv) : stx P wr ty (.ptr n off) x m nx K = stxo P wr ty n off x m nx K (look m n) := by
  simp only [stx]
  generalize look m n = o
  match o with
  | none => rfl
  | some (.cells l e) => rfl
  | some (.opq o) => rfl
  | some (.fz l e) => rfl
  | some (.mp k a b) => rfl
  | some (.mx k a b c) => rfl
theorem stxo_cells (P : Program) (wr : Nat → Bool) (ty : TypeId) (n off : Nat) (x : AV) (m : Mem) (nx : Nat) (K : Kv) (l : List AV) (e : TypeId) : stxo P wr ty n off x m nx K (some (.cells l e)) = (wr n = true ∧ isTup x = false ∧ sizeT P ty = some (acells x).length ∧ off + (acells x).length ≤ l.length ∧ (acells x).all one1 = true ∧ K (.tup []) (upd m n (.cells (stor l off x) e)) nx) := rfl
theorem one1_bool (b : Bool) : one1 (.bool b) = true := rfl
theorem isTup_bool (b : Bool) : isTup (.bool b) = false := rfl
theorem acells_bool (b : Bool) : acells (.bool b) = [(.bool b)] := rfl
theorem one1_int (k : IntKind) (n : Int) : one1 (.int k n) = true := rfl
theorem isTup_int (k : IntKind) (n : Int) : isTup (.int k n) = false := rfl
theorem acells_int (k : IntKind) (n : Int) : acells (.int k n) = [(.int k n)] := rfl
theorem one1_str (s : ByteArray) : one1 (.str s) = true := rfl
theorem isTup_str (s : ByteArray) : isTup (.str s) = false := rfl
theorem acells_str (s : ByteArray) : acells (.str s) = [(.str s)] := rfl
theorem one1_ptr (n o : Nat) : one1 (.ptr n o) = true := rfl
theorem isTup_ptr (n o : Nat) : isTup (.ptr n o) = false := rfl
theorem acells_ptr (n o : Nat) : acells (.ptr n o) = [(.ptr n o)] := rfl
theorem one1_nilp : one1 .nilp = true := rfl
theorem isTup_nilp : isTup .nilp = false := rfl
theorem acells_nilp : acells .nilp = [.nilp] := rfl
theorem one1_sl (n o l c : Nat) : one1 (.sl n o l c) = true := rfl
theorem isTup_sl (n o l c : Nat) : isTup (.sl n o l c) = false := rfl
theorem acells_sl (n o l c : Nat) : acells (.sl n o l c) = [(.sl n o l c)] := rfl
theorem one1_nils : one1 .nils = true := rfl
theorem isTup_nils : isTup .nils = false := rfl
theorem acells_nils : acells .nils = [.nils] := rfl
theorem one1_ro (l : Nat) (x : List AV) : one1 (.ro l x) = true := rfl
theorem isTup_ro (l : Nat) (x : List AV) : isTup (.ro l x) = false := rfl
theorem acells_ro (l : Nat) (x : List AV) : acells (.ro l x) = [(.ro l x)] := rfl
theorem one1_rop (x : List AV) : one1 (.rop x) = true := rfl
theorem isTup_rop (x : List AV) : isTup (.rop x) = false := rfl
theorem acells_rop (x : List AV) : acells (.rop x) = [(.rop x)] := rfl
theorem one1_fn (f : Fn) (x y : List AV) : one1 (.fn f x y) = true := rfl
theorem isTup_fn (f : Fn) (x y : List AV) : isTup (.fn f x y) = false := rfl
theorem acells_fn (f : Fn) (x y : List AV) : acells (.fn f x y) = [(.fn f x y)] := rfl
theorem one1_nilf : one1 .nilf = true := rfl
theorem isTup_nilf : isTup .nilf = false := rfl
theorem acells_nilf : acells .nilf = [.nilf] := rfl
theorem one1_map (n : Nat) : one1 (.map n) = true := rfl
theorem isTup_map (n : Nat) : isTup (.map n) = false := rfl
theorem acells_map (n : Nat) : acells (.map n) = [(.map n)] := rfl
theorem one1_nilm : one1 .nilm = true := rfl
theorem isTup_nilm : isTup .nilm = false := rfl
theorem acells_nilm : acells .nilm = [.nilm] := rfl
theorem one1_iface (t : TypeId) (x : AV) : one1 (.iface t x) = true := rfl
theorem isTup_iface (t : TypeId) (x : AV) : isTup (.iface t x) = false := rfl
theorem acells_iface (t : TypeId) (x : AV) : acells (.iface t x) = [(.iface t x)] := rfl
theorem one1_nili : one1 .nili = true := rfl
theorem isTup_nili : isTup .nili = false := rfl
theorem acells_nili : acells .nili = [.nili] := rfl
theorem isTup_agg (l : List AV) : isTup (.agg l) = false := rfl
theorem acells_agg (l : List AV) : acells (.agg l) = l := rfl
theorem stor_bool (b : Bool) (l : List AV) (off : Nat) : stor l off (.bool b) = l.set off (.bool b) := rfl
theorem stor_int (k : IntKind) (n : Int) (l : List AV) (off : Nat) : stor l off (.int k n) = l.set off (.int k n) := rfl
theorem stor_str (s : ByteArray) (l : List AV) (off : Nat) : stor l off (.str s) = l.set off (.str s) := rfl
theorem stor_ptr (n o : Nat) (l : List AV) (off : Nat) : stor l off (.ptr n o) = l.set off (.ptr n o) := rfl
theorem stor_nilp (l : List AV) (off : Nat) : stor l off .nilp = l.set off .nilp := rfl
theorem stor_sl (n o l2 c : Nat) (l : List AV) (off : Nat) : stor l off (.sl n o l2 c) = l.set off (.sl n o l2 c) := rfl
theorem stor_nils (l : List AV) (off : Nat) : stor l off .nils = l.set off .nils := rfl
theorem stor_ro (l2 : Nat) (x : List AV) (l : List AV) (off : Nat) : stor l off (.ro l2 x) = l.set off (.ro l2 x) := rfl
theorem stor_rop (x : List AV) (l : List AV) (off : Nat) : stor l off (.rop x) = l.set off (.rop x) := rfl
theorem stor_fn (f : Fn) (x y : List AV) (l : List AV) (off : Nat) : stor l off (.fn f x y) = l.set off (.fn f x y) := rfl
theorem stor_nilf (l : List AV) (off : Nat) : stor l off .nilf = l.set off .nilf := rfl
theorem stor_map (n : Nat) (l : List AV) (off : Nat) : stor l off (.map n) = l.set off (.map n) := rfl
theorem stor_nilm (l : List AV) (off : Nat) : stor l off .nilm = l.set off .nilm := rfl
theorem stor_iface (t : TypeId) (x : AV) (l : List AV) (off : Nat) : stor l off (.iface t x) = l.set off (.iface t x) := rfl
theorem stor_nili (l : List AV) (off : Nat) : stor l off .nili = l.set off .nili := rfl
theorem stor_agg (x l : List AV) (off : Nat) : stor l off (.agg x) = spl l off x := rfl
theorem one1_ints (k : IntKind) (l : List Int) : (l.map (AV.int k)).all one1 = true := by
  induction l with
  | nil => rfl
  | cons x r ih => simp only [List.map_cons, List.all_cons, ih, Bool.and_true]; rfl
theorem all_replicate_one {v : AV} (h : one1 v = true) (n : Nat) : (List.replicate n v).all one1 = true := by simp [h]
end Go.Eng
end
section
/- The engine, part 13: lists of numbers, words as bit vectors, and contracts of functions that keep nothing. Own work. -/
set_option linter.unusedVariables false
namespace Go.Eng
open Go

def ints (k : IntKind) (l : List Int) : List AV := l.map (AV.int k)
theorem ints_length (k : IntKind) (l : List Int) : (ints k l).length = l.length := by simp [ints]
theorem ints_drop (k : IntKind) (l : List Int) (n : Nat) : (ints k l).drop n = ints k (l.drop n) := by simp [ints]
theorem ints_take (k : IntKind) (l : List Int) (n : Nat) : (ints k l).take n = ints k (l.take n) := by simp [ints]
theorem ints_append (k : IntKind) (l l' : List Int) : ints k l ++ ints k l' = ints k (l ++ l') := by simp [ints]
theorem ints_nil (k : IntKind) : ints k [] = [] := rfl
theorem ints_cons (k : IntKind) (x : Int) (l : List Int) : ints k (x :: l) = .int k x :: ints k l := rfl
theorem ints_set (k : IntKind) (l : List Int) (n : Nat) (x : Int) : (ints k l).set n (.int k x) = ints k (l.set n x) := by simp [ints, List.map_set]
theorem ints_rep (k : IntKind) (n : Nat) (x : Int) : List.replicate n (.int k x) = ints k (List.replicate n x) := by simp [ints]
theorem ints_getD (k : IntKind) (l : List Int) (n : Nat) (d : Int) : (ints k l).getD n (.int k d) = .int k (l.getD n d) := by
  simp only [ints, List.getD_eq_getElem?_getD, List.getElem?_map]
  cases l[n]? <;> rfl
theorem ints_one (k : IntKind) (l : List Int) : (ints k l).all one1 = true := one1_ints k l
theorem ints_flat (k : IntKind) (l : List Int) : (ints k l).all flat = true := flat_ints k l
theorem ints_ren (k : IntKind) (l : List Int) (f : Nat → Nat) : renL f (ints k l) = ints k l := flatL_ren (ints_flat k l) f
theorem ints_noRo (k : IntKind) (l : List Int) : noRoL (ints k l) = true := flatL_noRo (ints_flat k l)
theorem ints_spl (k : IntKind) (l l' : List Int) (n : Nat) : spl (ints k l) n (ints k l') = ints k (l.take n ++ l' ++ l.drop (n + l'.length)) := by simp [spl, ints, List.map_take, List.map_drop]
theorem ints_inj (k : IntKind) (l l' : List Int) : (ints k l = ints k l') = (l = l') := by
  refine propext ⟨fun h => ?_, fun h => by rw [h]⟩
  induction l generalizing l' with
  | nil => cases l' with
    | nil => rfl
    | cons y r => simp [ints] at h
  | cons x r ih => cases l' with
    | nil => simp [ints] at h
    | cons y s =>
      simp only [ints_cons, List.cons.injEq, AV.int.injEq, true_and] at h
      rw [h.1, ih s h.2]

/-! words -/
/-- words as cells -/
def bvs (k : IntKind) {w : Nat} (l : List (BitVec w)) : List AV := l.map fun x => .int k (x.toNat : Int)
section
variable (k : IntKind) {w : Nat} (l l' : List (BitVec w)) (n : Nat)
theorem bvs_length : (bvs k l).length = l.length := by simp [bvs]
theorem bvs_drop : (bvs k l).drop n = bvs k (l.drop n) := by simp [bvs]
theorem bvs_take : (bvs k l).take n = bvs k (l.take n) := by simp [bvs]
theorem bvs_append : bvs k l ++ bvs k l' = bvs k (l ++ l') := by simp [bvs]
theorem bvs_nil : bvs k ([] : List (BitVec w)) = [] := rfl
theorem bvs_cons (x : BitVec w) : bvs k (x :: l) = .int k (x.toNat : Int) :: bvs k l := rfl
theorem bvs_set (x : BitVec w) : (bvs k l).set n (.int k (x.toNat : Int)) = bvs k (l.set n x) := by simp [bvs, List.map_set]
theorem bvs_rep (x : BitVec w) : List.replicate n (.int k (x.toNat : Int)) = bvs k (List.replicate n x) := by simp [bvs]
theorem bvs_rep0 : List.replicate n (.int k 0) = bvs k (List.replicate n (0 : BitVec w)) := by simp [bvs]
theorem bvs_getD : (bvs k l).getD n (.int k 0) = .int k ((l.getD n 0).toNat : Int) := by
  simp only [bvs, List.getD_eq_getElem?_getD, List.getElem?_map]
  cases l[n]? with
  | none => simp
  | some x => rfl
theorem bvs_one : (bvs k l).all one1 = true := by
  induction l with
  | nil => rfl
  | cons x r ih => simp only [bvs_cons, List.all_cons, ih, Bool.and_true]; rfl
theorem bvs_flat : (bvs k l).all flat = true := by
  induction l with
  | nil => rfl
  | cons x r ih => simp only [bvs_cons, List.all_cons, ih, Bool.and_true]; rfl
theorem bvs_det : (bvs k l).all det = true := by
  induction l with
  | nil => rfl
  | cons x r ih => simp only [bvs_cons, List.all_cons, ih, Bool.and_true]; rfl
theorem bvs_ren (f : Nat → Nat) : renL f (bvs k l) = bvs k l := flatL_ren (bvs_flat k l) f
theorem bvs_noRo : noRoL (bvs k l) = true := flatL_noRo (bvs_flat k l)
theorem bvs_spl : spl (bvs k l) n (bvs k l') = bvs k (l.take n ++ l' ++ l.drop (n + l'.length)) := by simp [spl, bvs, List.map_take, List.map_drop]
theorem bvs_inj : (bvs k l = bvs k l') = (l = l') := by
  refine propext ⟨fun h => ?_, fun h => by rw [h]⟩
  induction l generalizing l' with
  | nil => cases l' with
    | nil => rfl
    | cons y r => simp [bvs] at h
  | cons x r ih => cases l' with
    | nil => simp [bvs] at h
    | cons y s =>
      simp only [bvs_cons, List.cons.injEq, AV.int.injEq, true_and] at h
      rw [BitVec.eq_of_toNat_eq (x := x) (y := y) (by omega), ih s h.2]
end
theorem ofInt_nat (w : Nat) {v : Nat} (x : BitVec v) : BitVec.ofInt w (x.toNat : Int) = x.setWidth w := by
  rw [BitVec.ofInt_natCast, BitVec.ofNat_toNat]
theorem ofInt_nat_same {v : Nat} (x : BitVec v) : BitVec.ofInt v (x.toNat : Int) = x := by
  rw [ofInt_nat]; simp
theorem bv_eq {w : Nat} (x y : BitVec w) : ((x.toNat : Int) == (y.toNat : Int)) = (x == y) := by
  by_cases h : x = y
  · subst h; simp
  · have : x.toNat ≠ y.toNat := fun e => h (BitVec.eq_of_toNat_eq e)
    have h1 : (x == y) = false := by simpa using h
    have h2 : ((x.toNat : Int) == (y.toNat : Int)) = false := by simp; omega
    rw [h1, h2]
theorem bv_ne {w : Nat} (x y : BitVec w) : ((x.toNat : Int) != (y.toNat : Int)) = (x != y) := by simp only [bne, bv_eq]
theorem bv_nonneg {w : Nat} (x : BitVec w) : (0 : Int) ≤ (x.toNat : Int) := Int.natCast_nonneg _

theorem wrapbv8 (z : Int) : IntKind.u8.wrap z = ((BitVec.ofInt 8 z).toNat : Int) := by
  rw [wrap_u8, BitVec.toNat_ofInt]
  omega
theorem wrapself8 (x : BitVec 8) : IntKind.u8.wrap (x.toNat : Int) = (x.toNat : Int) := by rw [wrapbv8, ofInt_nat_same]
theorem ofIntwrap8 (z : Int) : BitVec.ofInt 8 (IntKind.u8.wrap z) = BitVec.ofInt 8 z := by rw [wrapbv8, ofInt_nat_same]
theorem bxor8 (a b : Int) : bitsI .xor .u8 a b = ((BitVec.ofInt 8 a ^^^ BitVec.ofInt 8 b).toNat : Int) := wrapself8 _
theorem band8 (a b : Int) : bitsI .and .u8 a b = ((BitVec.ofInt 8 a &&& BitVec.ofInt 8 b).toNat : Int) := wrapself8 _
theorem bor8 (a b : Int) : bitsI .or .u8 a b = ((BitVec.ofInt 8 a ||| BitVec.ofInt 8 b).toNat : Int) := wrapself8 _
theorem bnot8 (a : Int) : notI .u8 a = ((~~~ BitVec.ofInt 8 a).toNat : Int) := by
  have h : notI .u8 a = bitsI .xor .u8 255 a := rfl
  rw [h, bxor8, show BitVec.ofInt 8 255 = BitVec.allOnes 8 from rfl, BitVec.allOnes_xor]
theorem bshr8 (x : BitVec 8) (c : Int) : shrI .u8 (x.toNat : Int) c = ((x >>> c.toNat).toNat : Int) := by
  unfold shrI
  rw [BitVec.toNat_ushiftRight, Nat.shiftRight_eq_div_pow, Int.fdiv_eq_ediv_of_nonneg _ (by exact Int.natCast_nonneg (2 ^ _))]
  have hk : IntKind.bits .u8 = 8 := rfl
  rw [hk]
  rcases Nat.le_total c.toNat 8 with h | h
  · rw [Nat.min_eq_left h, Int.natCast_ediv, Int.natCast_pow]; rfl
  · rw [Nat.min_eq_right h]
    have h1 : x.toNat < 2 ^ 8 := x.isLt
    have h2 : x.toNat < 2 ^ c.toNat := Nat.lt_of_lt_of_le h1 (Nat.pow_le_pow_right (by decide) h)
    rw [Nat.div_eq_of_lt h2]
    have : (x.toNat : Int) / (2 : Int) ^ 8 = ((x.toNat / 2 ^ 8 : Nat) : Int) := by norm_cast
    rw [this, Nat.div_eq_of_lt h1]
theorem bshl8 (x : BitVec 8) (c : Int) : shlI .u8 (x.toNat : Int) c = ((x <<< c.toNat).toNat : Int) := by
  unfold shlI
  have hk : IntKind.bits .u8 = 8 := rfl
  rw [wrap_u8, BitVec.toNat_shiftLeft, Nat.shiftLeft_eq, hk]
  rcases Nat.le_total c.toNat 8 with h | h
  · rw [Nat.min_eq_left h, Int.natCast_emod, Int.natCast_mul, Int.natCast_pow]; rfl
  · rw [Nat.min_eq_right h]
    obtain ⟨j, hj⟩ : ∃ j, c.toNat = 8 + j := ⟨c.toNat - 8, by omega⟩
    rw [hj, Nat.pow_add]
    have h1 : x.toNat * (2 ^ 8 * 2 ^ j) % 2 ^ 8 = 0 := by
      rw [Nat.mul_left_comm]; exact Nat.mul_mod_right _ _
    rw [h1]
    have h2 : ((x.toNat : Int) * 2 ^ 8) = ((x.toNat * 2 ^ 8 : Nat) : Int) := by norm_cast
    rw [h2]
    omega
theorem wrapbv16 (z : Int) : IntKind.u16.wrap z = ((BitVec.ofInt 16 z).toNat : Int) := by
  rw [wrap_u16, BitVec.toNat_ofInt]
  omega
theorem wrapself16 (x : BitVec 16) : IntKind.u16.wrap (x.toNat : Int) = (x.toNat : Int) := by rw [wrapbv16, ofInt_nat_same]
theorem ofIntwrap16 (z : Int) : BitVec.ofInt 16 (IntKind.u16.wrap z) = BitVec.ofInt 16 z := by rw [wrapbv16, ofInt_nat_same]
theorem bxor16 (a b : Int) : bitsI .xor .u16 a b = ((BitVec.ofInt 16 a ^^^ BitVec.ofInt 16 b).toNat : Int) := wrapself16 _
theorem band16 (a b : Int) : bitsI .and .u16 a b = ((BitVec.ofInt 16 a &&& BitVec.ofInt 16 b).toNat : Int) := wrapself16 _
theorem bor16 (a b : Int) : bitsI .or .u16 a b = ((BitVec.ofInt 16 a ||| BitVec.ofInt 16 b).toNat : Int) := wrapself16 _
theorem bnot16 (a : Int) : notI .u16 a = ((~~~ BitVec.ofInt 16 a).toNat : Int) := by
  have h : notI .u16 a = bitsI .xor .u16 65535 a := rfl
  rw [h, bxor16, show BitVec.ofInt 16 65535 = BitVec.allOnes 16 from rfl, BitVec.allOnes_xor]
theorem bshr16 (x : BitVec 16) (c : Int) : shrI .u16 (x.toNat : Int) c = ((x >>> c.toNat).toNat : Int) := by
  unfold shrI
  rw [BitVec.toNat_ushiftRight, Nat.shiftRight_eq_div_pow, Int.fdiv_eq_ediv_of_nonneg _ (by exact Int.natCast_nonneg (2 ^ _))]
  have hk : IntKind.bits .u16 = 16 := rfl
  rw [hk]
  rcases Nat.le_total c.toNat 16 with h | h
  · rw [Nat.min_eq_left h, Int.natCast_ediv, Int.natCast_pow]; rfl
  · rw [Nat.min_eq_right h]
    have h1 : x.toNat < 2 ^ 16 := x.isLt
    have h2 : x.toNat < 2 ^ c.toNat := Nat.lt_of_lt_of_le h1 (Nat.pow_le_pow_right (by decide) h)
    rw [Nat.div_eq_of_lt h2]
    have : (x.toNat : Int) / (2 : Int) ^ 16 = ((x.toNat / 2 ^ 16 : Nat) : Int) := by norm_cast
    rw [this, Nat.div_eq_of_lt h1]
theorem bshl16 (x : BitVec 16) (c : Int) : shlI .u16 (x.toNat : Int) c = ((x <<< c.toNat).toNat : Int) := by
  unfold shlI
  have hk : IntKind.bits .u16 = 16 := rfl
  rw [wrap_u16, BitVec.toNat_shiftLeft, Nat.shiftLeft_eq, hk]
  rcases Nat.le_total c.toNat 16 with h | h
  · rw [Nat.min_eq_left h, Int.natCast_emod, Int.natCast_mul, Int.natCast_pow]; rfl
  · rw [Nat.min_eq_right h]
    obtain ⟨j, hj⟩ : ∃ j, c.toNat = 16 + j := ⟨c.toNat - 16, by omega⟩
    rw [hj, Nat.pow_add]
    have h1 : x.toNat * (2 ^ 16 * 2 ^ j) % 2 ^ 16 = 0 := by
      rw [Nat.mul_left_comm]; exact Nat.mul_mod_right _ _
    rw [h1]
    have h2 : ((x.toNat : Int) * 2 ^ 16) = ((x.toNat * 2 ^ 16 : Nat) : Int) := by norm_cast
    rw [h2]
    omega
theorem wrapbv32 (z : Int) : IntKind.u32.wrap z = ((BitVec.ofInt 32 z).toNat : Int) := by
  rw [wrap_u32, BitVec.toNat_ofInt]
  omega
theorem wrapself32 (x : BitVec 32) : IntKind.u32.wrap (x.toNat : Int) = (x.toNat : Int) := by rw [wrapbv32, ofInt_nat_same]
theorem ofIntwrap32 (z : Int) : BitVec.ofInt 32 (IntKind.u32.wrap z) = BitVec.ofInt 32 z := by rw [wrapbv32, ofInt_nat_same]
theorem bxor32 (a b : Int) : bitsI .xor .u32 a b = ((BitVec.ofInt 32 a ^^^ BitVec.ofInt 32 b).toNat : Int) := wrapself32 _
theorem band32 (a b : Int) : bitsI .and .u32 a b = ((BitVec.ofInt 32 a &&& BitVec.ofInt 32 b).toNat : Int) := wrapself32 _
theorem bor32 (a b : Int) : bitsI .or .u32 a b = ((BitVec.ofInt 32 a ||| BitVec.ofInt 32 b).toNat : Int) := wrapself32 _
theorem bnot32 (a : Int) : notI .u32 a = ((~~~ BitVec.ofInt 32 a).toNat : Int) := by
  have h : notI .u32 a = bitsI .xor .u32 4294967295 a := rfl
  rw [h, bxor32, show BitVec.ofInt 32 4294967295 = BitVec.allOnes 32 from rfl, BitVec.allOnes_xor]
theorem bshr32 (x : BitVec 32) (c : Int) : shrI .u32 (x.toNat : Int) c = ((x >>> c.toNat).toNat : Int) := by
  unfold shrI
  rw [BitVec.toNat_ushiftRight, Nat.shiftRight_eq_div_pow, Int.fdiv_eq_ediv_of_nonneg _ (by exact Int.natCast_nonneg (2 ^ _))]
  have hk : IntKind.bits .u32 = 32 := rfl
  rw [hk]
  rcases Nat.le_total c.toNat 32 with h | h
  · rw [Nat.min_eq_left h, Int.natCast_ediv, Int.natCast_pow]; rfl
  · rw [Nat.min_eq_right h]
    have h1 : x.toNat < 2 ^ 32 := x.isLt
    have h2 : x.toNat < 2 ^ c.toNat := Nat.lt_of_lt_of_le h1 (Nat.pow_le_pow_right (by decide) h)
    rw [Nat.div_eq_of_lt h2]
    have : (x.toNat : Int) / (2 : Int) ^ 32 = ((x.toNat / 2 ^ 32 : Nat) : Int) := by norm_cast
    rw [this, Nat.div_eq_of_lt h1]
theorem bshl32 (x : BitVec 32) (c : Int) : shlI .u32 (x.toNat : Int) c = ((x <<< c.toNat).toNat : Int) := by
  unfold shlI
  have hk : IntKind.bits .u32 = 32 := rfl
  rw [wrap_u32, BitVec.toNat_shiftLeft, Nat.shiftLeft_eq, hk]
  rcases Nat.le_total c.toNat 32 with h | h
  · rw [Nat.min_eq_left h, Int.natCast_emod, Int.natCast_mul, Int.natCast_pow]; rfl
  · rw [Nat.min_eq_right h]
    obtain ⟨j, hj⟩ : ∃ j, c.toNat = 32 + j := ⟨c.toNat - 32, by omega⟩
    rw [hj, Nat.pow_add]
    have h1 : x.toNat * (2 ^ 32 * 2 ^ j) % 2 ^ 32 = 0 := by
      rw [Nat.mul_left_comm]; exact Nat.mul_mod_right _ _
    rw [h1]
    have h2 : ((x.toNat : Int) * 2 ^ 32) = ((x.toNat * 2 ^ 32 : Nat) : Int) := by norm_cast
    rw [h2]
    omega
theorem wrapbv64 (z : Int) : IntKind.u64.wrap z = ((BitVec.ofInt 64 z).toNat : Int) := by
  rw [wrap_u64, BitVec.toNat_ofInt]
  omega
theorem wrapself64 (x : BitVec 64) : IntKind.u64.wrap (x.toNat : Int) = (x.toNat : Int) := by rw [wrapbv64, ofInt_nat_same]
theorem ofIntwrap64 (z : Int) : BitVec.ofInt 64 (IntKind.u64.wrap z) = BitVec.ofInt 64 z := by rw [wrapbv64, ofInt_nat_same]
theorem bxor64 (a b : Int) : bitsI .xor .u64 a b = ((BitVec.ofInt 64 a ^^^ BitVec.ofInt 64 b).toNat : Int) := wrapself64 _
theorem band64 (a b : Int) : bitsI .and .u64 a b = ((BitVec.ofInt 64 a &&& BitVec.ofInt 64 b).toNat : Int) := wrapself64 _
theorem bor64 (a b : Int) : bitsI .or .u64 a b = ((BitVec.ofInt 64 a ||| BitVec.ofInt 64 b).toNat : Int) := wrapself64 _
theorem bnot64 (a : Int) : notI .u64 a = ((~~~ BitVec.ofInt 64 a).toNat : Int) := by
  have h : notI .u64 a = bitsI .xor .u64 18446744073709551615 a := rfl
  rw [h, bxor64, show BitVec.ofInt 64 18446744073709551615 = BitVec.allOnes 64 from rfl, BitVec.allOnes_xor]
theorem bshr64 (x : BitVec 64) (c : Int) : shrI .u64 (x.toNat : Int) c = ((x >>> c.toNat).toNat : Int) := by
  unfold shrI
  rw [BitVec.toNat_ushiftRight, Nat.shiftRight_eq_div_pow, Int.fdiv_eq_ediv_of_nonneg _ (by exact Int.natCast_nonneg (2 ^ _))]
  have hk : IntKind.bits .u64 = 64 := rfl
  rw [hk]
  rcases Nat.le_total c.toNat 64 with h | h
  · rw [Nat.min_eq_left h, Int.natCast_ediv, Int.natCast_pow]; rfl
  · rw [Nat.min_eq_right h]
    have h1 : x.toNat < 2 ^ 64 := x.isLt
    have h2 : x.toNat < 2 ^ c.toNat := Nat.lt_of_lt_of_le h1 (Nat.pow_le_pow_right (by decide) h)
    rw [Nat.div_eq_of_lt h2]
    have : (x.toNat : Int) / (2 : Int) ^ 64 = ((x.toNat / 2 ^ 64 : Nat) : Int) := by norm_cast
    rw [this, Nat.div_eq_of_lt h1]
theorem bshl64 (x : BitVec 64) (c : Int) : shlI .u64 (x.toNat : Int) c = ((x <<< c.toNat).toNat : Int) := by
  unfold shlI
  have hk : IntKind.bits .u64 = 64 := rfl
  rw [wrap_u64, BitVec.toNat_shiftLeft, Nat.shiftLeft_eq, hk]
  rcases Nat.le_total c.toNat 64 with h | h
  · rw [Nat.min_eq_left h, Int.natCast_emod, Int.natCast_mul, Int.natCast_pow]; rfl
  · rw [Nat.min_eq_right h]
    obtain ⟨j, hj⟩ : ∃ j, c.toNat = 64 + j := ⟨c.toNat - 64, by omega⟩
    rw [hj, Nat.pow_add]
    have h1 : x.toNat * (2 ^ 64 * 2 ^ j) % 2 ^ 64 = 0 := by
      rw [Nat.mul_left_comm]; exact Nat.mul_mod_right _ _
    rw [h1]
    have h2 : ((x.toNat : Int) * 2 ^ 64) = ((x.toNat * 2 ^ 64 : Nat) : Int) := by norm_cast
    rw [h2]
    omega

theorem bandn8 (a b : Int) : bitsI .andNot .u8 a b = ((BitVec.ofInt 8 a &&& ~~~ BitVec.ofInt 8 b).toNat : Int) := wrapself8 _
theorem bandn16 (a b : Int) : bitsI .andNot .u16 a b = ((BitVec.ofInt 16 a &&& ~~~ BitVec.ofInt 16 b).toNat : Int) := wrapself16 _
theorem bandn32 (a b : Int) : bitsI .andNot .u32 a b = ((BitVec.ofInt 32 a &&& ~~~ BitVec.ofInt 32 b).toNat : Int) := wrapself32 _
theorem bandn64 (a b : Int) : bitsI .andNot .u64 a b = ((BitVec.ofInt 64 a &&& ~~~ BitVec.ofInt 64 b).toNat : Int) := wrapself64 _
theorem wrap_i32_bv (z : Int) : IntKind.i32.wrap z = (BitVec.ofInt 32 z).toInt := by
  have h : IntKind.i32.wrap z = if decide (z % 4294967296 ≥ 2147483648) = true then z % 4294967296 - 4294967296 else z % 4294967296 := rfl
  rw [h, BitVec.toInt_ofInt, Int.bmod_def]
  simp only [decide_eq_true_eq]
  split <;> split <;> omega
theorem ofInt_toInt' {w : Nat} (x : BitVec w) : BitVec.ofInt w x.toInt = x := BitVec.ofInt_toInt
theorem bshr_i32 (x : BitVec 32) (c : Int) (h0 : 0 ≤ c) (h1 : c < 32) : shrI .i32 x.toInt c = (x.sshiftRight c.toNat).toInt := by
  unfold shrI
  have hk : IntKind.bits .i32 = 32 := rfl
  rw [hk, Nat.min_eq_left (by omega), BitVec.toInt_sshiftRight, Int.shiftRight_eq_div_pow, Int.fdiv_eq_ediv_of_nonneg _ (by exact Int.natCast_nonneg (2 ^ _))]
  rfl
theorem ofInt_add' (w : Nat) (a b : Int) : BitVec.ofInt w (a + b) = BitVec.ofInt w a + BitVec.ofInt w b := BitVec.ofInt_add ..
theorem ofInt_neg' (w : Nat) (a : Int) : BitVec.ofInt w (-a) = - BitVec.ofInt w a := BitVec.ofInt_neg ..
theorem ofInt_sub' (w : Nat) (a b : Int) : BitVec.ofInt w (a - b) = BitVec.ofInt w a - BitVec.ofInt w b := by
  rw [Int.sub_eq_add_neg, ofInt_add', ofInt_neg', BitVec.sub_eq_add_neg]
theorem ofInt_mul' (w : Nat) (a b : Int) : BitVec.ofInt w (a * b) = BitVec.ofInt w a * BitVec.ofInt w b := BitVec.ofInt_mul ..
theorem ofInt_cast (w : Nat) (n : Nat) : BitVec.ofInt w (n : Int) = BitVec.ofNat w n := BitVec.ofInt_natCast ..
theorem bvs_rep8 (n : Nat) : List.replicate n (.int .u8 0) = bvs .u8 (List.replicate n (0 : BitVec 8)) := bvs_rep0 ..
theorem bvs_rep16 (n : Nat) : List.replicate n (.int .u16 0) = bvs .u16 (List.replicate n (0 : BitVec 16)) := bvs_rep0 ..
theorem bvs_rep32 (n : Nat) : List.replicate n (.int .u32 0) = bvs .u32 (List.replicate n (0 : BitVec 32)) := bvs_rep0 ..
theorem bvs_rep64 (n : Nat) : List.replicate n (.int .u64 0) = bvs .u64 (List.replicate n (0 : BitVec 64)) := bvs_rep0 ..
theorem tdv8 (x : BitVec 8) (c : Int) (h0 : 0 ≤ c) (h1 : c < 256) : (x.toNat : Int).tdiv c = ((x / BitVec.ofInt 8 c).toNat : Int) := by
  rw [Int.tdiv_eq_ediv_of_nonneg (Int.natCast_nonneg _), BitVec.toNat_udiv, BitVec.toNat_ofInt, Int.natCast_ediv]
  congr 1
  omega
theorem tmd8 (x : BitVec 8) (c : Int) (h0 : 0 ≤ c) (h1 : c < 256) : (x.toNat : Int).tmod c = ((x % BitVec.ofInt 8 c).toNat : Int) := by
  rw [Int.tmod_eq_emod_of_nonneg (Int.natCast_nonneg _), BitVec.toNat_umod, BitVec.toNat_ofInt, Int.natCast_emod]
  congr 1
  omega
theorem beqlit8 (x : BitVec 8) (c : Int) (h0 : 0 ≤ c) (h1 : c < 256) : ((x.toNat : Int) == c) = (x == BitVec.ofInt 8 c) := by
  have h : c = ((BitVec.ofInt 8 c).toNat : Int) := by rw [BitVec.toNat_ofInt]; omega
  rw [show ((x.toNat : Int) == c) = ((x.toNat : Int) == ((BitVec.ofInt 8 c).toNat : Int)) from by rw [← h]]
  exact bv_eq _ _
theorem bnelit8 (x : BitVec 8) (c : Int) (h0 : 0 ≤ c) (h1 : c < 256) : ((x.toNat : Int) != c) = (x != BitVec.ofInt 8 c) := by
  rw [bne, bne, beqlit8 x c h0 h1]
theorem tdv16 (x : BitVec 16) (c : Int) (h0 : 0 ≤ c) (h1 : c < 65536) : (x.toNat : Int).tdiv c = ((x / BitVec.ofInt 16 c).toNat : Int) := by
  rw [Int.tdiv_eq_ediv_of_nonneg (Int.natCast_nonneg _), BitVec.toNat_udiv, BitVec.toNat_ofInt, Int.natCast_ediv]
  congr 1
  omega
theorem tmd16 (x : BitVec 16) (c : Int) (h0 : 0 ≤ c) (h1 : c < 65536) : (x.toNat : Int).tmod c = ((x % BitVec.ofInt 16 c).toNat : Int) := by
  rw [Int.tmod_eq_emod_of_nonneg (Int.natCast_nonneg _), BitVec.toNat_umod, BitVec.toNat_ofInt, Int.natCast_emod]
  congr 1
  omega
theorem beqlit16 (x : BitVec 16) (c : Int) (h0 : 0 ≤ c) (h1 : c < 65536) : ((x.toNat : Int) == c) = (x == BitVec.ofInt 16 c) := by
  have h : c = ((BitVec.ofInt 16 c).toNat : Int) := by rw [BitVec.toNat_ofInt]; omega
  rw [show ((x.toNat : Int) == c) = ((x.toNat : Int) == ((BitVec.ofInt 16 c).toNat : Int)) from by rw [← h]]
  exact bv_eq _ _
theorem bnelit16 (x : BitVec 16) (c : Int) (h0 : 0 ≤ c) (h1 : c < 65536) : ((x.toNat : Int) != c) = (x != BitVec.ofInt 16 c) := by
  rw [bne, bne, beqlit16 x c h0 h1]
theorem tdv32 (x : BitVec 32) (c : Int) (h0 : 0 ≤ c) (h1 : c < 4294967296) : (x.toNat : Int).tdiv c = ((x / BitVec.ofInt 32 c).toNat : Int) := by
  rw [Int.tdiv_eq_ediv_of_nonneg (Int.natCast_nonneg _), BitVec.toNat_udiv, BitVec.toNat_ofInt, Int.natCast_ediv]
  congr 1
  omega
theorem tmd32 (x : BitVec 32) (c : Int) (h0 : 0 ≤ c) (h1 : c < 4294967296) : (x.toNat : Int).tmod c = ((x % BitVec.ofInt 32 c).toNat : Int) := by
  rw [Int.tmod_eq_emod_of_nonneg (Int.natCast_nonneg _), BitVec.toNat_umod, BitVec.toNat_ofInt, Int.natCast_emod]
  congr 1
  omega
theorem beqlit32 (x : BitVec 32) (c : Int) (h0 : 0 ≤ c) (h1 : c < 4294967296) : ((x.toNat : Int) == c) = (x == BitVec.ofInt 32 c) := by
  have h : c = ((BitVec.ofInt 32 c).toNat : Int) := by rw [BitVec.toNat_ofInt]; omega
  rw [show ((x.toNat : Int) == c) = ((x.toNat : Int) == ((BitVec.ofInt 32 c).toNat : Int)) from by rw [← h]]
  exact bv_eq _ _
theorem bnelit32 (x : BitVec 32) (c : Int) (h0 : 0 ≤ c) (h1 : c < 4294967296) : ((x.toNat : Int) != c) = (x != BitVec.ofInt 32 c) := by
  rw [bne, bne, beqlit32 x c h0 h1]
theorem tdv64 (x : BitVec 64) (c : Int) (h0 : 0 ≤ c) (h1 : c < 18446744073709551616) : (x.toNat : Int).tdiv c = ((x / BitVec.ofInt 64 c).toNat : Int) := by
  rw [Int.tdiv_eq_ediv_of_nonneg (Int.natCast_nonneg _), BitVec.toNat_udiv, BitVec.toNat_ofInt, Int.natCast_ediv]
  congr 1
  omega
theorem tmd64 (x : BitVec 64) (c : Int) (h0 : 0 ≤ c) (h1 : c < 18446744073709551616) : (x.toNat : Int).tmod c = ((x % BitVec.ofInt 64 c).toNat : Int) := by
  rw [Int.tmod_eq_emod_of_nonneg (Int.natCast_nonneg _), BitVec.toNat_umod, BitVec.toNat_ofInt, Int.natCast_emod]
  congr 1
  omega
theorem beqlit64 (x : BitVec 64) (c : Int) (h0 : 0 ≤ c) (h1 : c < 18446744073709551616) : ((x.toNat : Int) == c) = (x == BitVec.ofInt 64 c) := by
  have h : c = ((BitVec.ofInt 64 c).toNat : Int) := by rw [BitVec.toNat_ofInt]; omega
  rw [show ((x.toNat : Int) == c) = ((x.toNat : Int) == ((BitVec.ofInt 64 c).toNat : Int)) from by rw [← h]]
  exact bv_eq _ _
theorem bnelit64 (x : BitVec 64) (c : Int) (h0 : 0 ≤ c) (h1 : c < 18446744073709551616) : ((x.toNat : Int) != c) = (x != BitVec.ofInt 64 c) := by
  rw [bne, bne, beqlit64 x c h0 h1]
theorem drop_getD {α : Type} (l : List α) (n m : Nat) (d : α) : (l.drop n).getD m d = l.getD (n + m) d := by simp [List.getD_eq_getElem?_getD]
theorem bv8_lt (x : BitVec 8) : ((x.toNat : Int) < 256) = True := by have := x.isLt; simp; omega
theorem bv8_ltn (x : BitVec 8) : (x.toNat < 256) = True := by have := x.isLt; simp; omega
theorem bvs_flat_rep {w : Nat} (k : IntKind) (a b : Nat) (x : BitVec w) : (List.replicate a (bvs k (List.replicate b x))).flatten = bvs k (List.replicate (a * b) x) := by
  simp only [← bvs_rep, List.flatten_replicate_replicate]
theorem foldl_take_succ {α β : Type} (f : α → β → α) (l : List β) (r : α) (n : Nat) (d : β) (h : n < l.length) : (l.take (n + 1)).foldl f r = f ((l.take n).foldl f r) (l.getD n d) := by
  rw [List.take_succ_eq_append_getElem h, List.foldl_append, List.getD_eq_getElem?_getD, List.getElem?_eq_getElem h]
  rfl
/-- a contract that tells a value alone -/
theorem CallOk.flatv {fz : Bool} {P : Program} {g : FuncId} {args0 args : List AV} {wr : Nat → Bool} {m : Mem} {nx : Nat} {K : Kv} {V : AV} (h : CallOk P g args0 (fun _ => true) [] 0 fun v m nx => v = V ∧ m = [] ∧ nx = 0)
    (ha : argsx m [] (rf [] nx 0) args args0) (hf : ∀ f, renA f V = V) (hn : noRo V = true) (hK : K V m nx) : CallG fz P g args wr m nx K := by
  refine h.use [] rfl trivial List.nodup_nil rfl (fun _ _ => rfl) (fun _ e => by cases e) ha ?_
  rintro v m' nx' ⟨rfl, rfl, rfl⟩
  exact ⟨hn, rfl, Nat.le_refl _, by rw [hf]; exact hK⟩
/-! a loop that counts up, with what is not told exactly -/
def UpX {X : Type} (Q : Nat → X → Prop) (nf : Nat) (wr : Nat → Bool) (S : Nat → X → Slots × Mem × Nat) (n i : Nat) (x : X) (hi : i ≤ n ∧ Q i x) (K : Kx) : Kx := LoopK (ι := { p : Nat × X // p.1 ≤ n ∧ Q p.1 p.2 }) nf wr (fun p => S p.1.1 p.1.2) (fun p => n - p.1.1) ⟨(i, x), hi⟩ K
theorem UpX_normal {X : Type} {Q : Nat → X → Prop} {nf : Nat} {wr : Nat → Bool} {S : Nat → X → Slots × Mem × Nat} {n i : Nat} {x : X} {hi : i ≤ n ∧ Q i x} {K : Kx} {t : Slots} {m : Mem} {nx : Nat} (h1 : i < n) (x' : X) (hq : Q (i + 1) x') (h2 : ∃ l, Le nf l wr t m nx (S (i + 1) x').1 (S (i + 1) x').2.1 (S (i + 1) x').2.2) : UpX Q nf wr S n i x hi K .normal t m nx :=
  ⟨⟨(i + 1, x'), h1, hq⟩, by show n - (i + 1) < n - i; omega, h2⟩
theorem UpX_ret {X : Type} (Q : Nat → X → Prop) (nf : Nat) (wr : Nat → Bool) (S : Nat → X → Slots × Mem × Nat) (n i : Nat) (x : X) (hi : i ≤ n ∧ Q i x) (K : Kx) (t : Slots) (m : Mem) (nx : Nat) : UpX Q nf wr S n i x hi K .ret t m nx = K .ret t m nx := rfl
theorem UpX_exit {X : Type} (Q : Nat → X → Prop) (nf : Nat) (wr : Nat → Bool) (S : Nat → X → Slots × Mem × Nat) (n i : Nat) (x : X) (hi : i ≤ n ∧ Q i x) (K : Kx) (t : Slots) (m : Mem) (nx : Nat) (e : Nat) : UpX Q nf wr S n i x hi K (.exit e) t m nx = K (.exit e) t m nx := rfl
theorem LoopOk.upX {X : Type} (Q : Nat → X → Prop) {fz : Bool} {nf : Nat} {E : Ex} {wr : Nat → Bool} {t : Slots} {m : Mem} {nx : Nat} {K : Kx} (n : Nat) (S : Nat → X → Slots × Mem × Nat) (x0 : X) (hq : Q 0 x0)
    (h0 : ∃ l, Le nf l wr t m nx (S 0 x0).1 (S 0 x0).2.1 (S 0 x0).2.2) (hr : ∀ i x (hi : i ≤ n ∧ Q i x), E (S i x).1 (S i x).2.1 (S i x).2.2 (UpX Q nf wr S n i x hi K)) : LoopOk fz nf E wr t m nx K :=
  ⟨{ p : Nat × X // p.1 ≤ n ∧ Q p.1 p.2 }, fun p => S p.1.1 p.1.2, fun p => n - p.1.1, ⟨⟨(0, x0), Nat.zero_le _, hq⟩, .inl h0⟩, fun p => hr p.1.1 p.1.2 p.2⟩
theorem u8s_bvs (x : List (BitVec 8)) : u8s (bvs .u8 x) = some (x.map fun v => UInt8.ofNat v.toNat) := by
  induction x with
  | nil => rfl
  | cons v r ih =>
    have h : (0 : Int) ≤ (v.toNat : Int) ∧ (v.toNat : Int) < 256 := by have := v.isLt; omega
    simp only [bvs_cons, u8s, if_pos h, ih, Option.map_some, Int.toNat_natCast, List.map_cons]
theorem Le.one {n' : Nat} {t t' : Slots} {m : Mem} {nx : Nat} {o : AObj} (hs : slotsLe (rf [(0, n')] nx 1) t t') (hm : look m n' = some (renO (rf [(0, n')] nx 1) o)) : ∃ l, Le 0 l (fun _ => true) t m nx t' [(0, o)] 1 :=
  ⟨[(0, n')], rfl, Nat.zero_le _, hs, ⟨hm, rfl, trivial⟩, by simp [injOn], (fun n e => by cases e), fun _ _ => rfl⟩
theorem rf_one (n' nx : Nat) : rf [(0, n')] nx 1 0 = n' := rfl
theorem renL_vals' (f : Nat → Nat) (k : IntKind) {w : Nat} (x : List (BitVec w)) (sp : List Value) : renL f (bvs k x ++ sp.map AV.val) = bvs k x ++ sp.map AV.val := by
  rw [renL_append, bvs_ren, renL_vals]
theorem noRoL_vals' (k : IntKind) {w : Nat} (x : List (BitVec w)) (sp : List Value) : noRoL (bvs k x ++ sp.map AV.val) = true := by
  rw [noRoL_append, bvs_noRo, noRoL_vals]; rfl
theorem rf_zero (nx : Nat) : rf [] nx 0 = fun n => n + nx := by
  funext n
  unfold rf
  simp only [look]
  rw [if_neg (by omega), Nat.sub_zero]
/-- a contract that leaves new objects -/
theorem CallOk.more {fz : Bool} {P : Program} {g : FuncId} {args0 args : List AV} {wr : Nat → Bool} {m : Mem} {nx : Nat} {K R : Kv} (h : CallOk P g args0 (fun _ => true) [] 0 R)
    (ha : argsx m [] (rf [] nx 0) args args0) (hK : ∀ v m' nx', R v m' nx' → noRo v = true ∧ noRoM m' = true ∧ K (renA (fun n => n + nx) v) (renM (fun n => n + nx) m' ++ m) (nx + nx')) : CallG fz P g args wr m nx K := by
  refine h.use [] rfl trivial List.nodup_nil rfl (fun _ _ => rfl) (fun _ e => by cases e) ha ?_
  intro v m' nx' hR
  obtain ⟨h1, h2, h3⟩ := hK v m' nx' hR
  rw [rf_zero]
  exact ⟨h1, h2, Nat.zero_le _, by simpa only [List.map_nil, delAll, Nat.sub_zero] using h3⟩
theorem argx_int (m : Mem) (own : List Nat) (f : Nat → Nat) (k k' : IntKind) (x y : Int) : argx m own f (.int k x) (.int k' y) = (k = k' ∧ x = y) := by simp only [argx, renA, AV.int.injEq]
theorem argx_bool (m : Mem) (own : List Nat) (f : Nat → Nat) (x y : Bool) : argx m own f (.bool x) (.bool y) = (x = y) := by simp only [argx, renA, AV.bool.injEq]
theorem argx_ro (m : Mem) (own : List Nat) (f : Nat → Nat) (n n' : Nat) (k k' : IntKind) {w : Nat} (x y : List (BitVec w)) : argx m own f (.ro n (bvs k x)) (.ro n' (bvs k' y)) = (n = n' ∧ bvs k x = bvs k' y) := by simp only [argx, renA, bvs_ren, AV.ro.injEq]
theorem argx_fn (m : Mem) (own : List Nat) (f : Nat → Nat) (g g' : Fn) : argx m own f (.fn g [] []) (.fn g' [] []) = (g = g') := by simp only [argx, renA, renL, AV.fn.injEq, and_true]
theorem argx_nils (m : Mem) (own : List Nat) (f : Nat → Nat) (n' : Nat) (y : List AV) : argx m own f .nils (.ro n' y) = (n' = 0 ∧ y = []) := rfl
/-- what is appended to words -/
theorem appk_bvs {wr : Nat → Bool} {m : Mem} {nx : Nat} {K : Kv} {k : IntKind} {w : Nat} {x y : List (BitVec w)} {sp : List Value} {n cap e bt : Nat} (hn : look m n = some (.cells (bvs k x ++ sp.map AV.val) e)) (hw : wr n = true)
    (hl : x.length + sp.length = cap) (hc : cap ≤ maxI) (hb : 0 < bt) (hm : (x.length + y.length) * bt ≤ 140737488355328)
    (hK : ∀ (cap' : Nat) (sp' : List Value), (x ++ y).length + sp'.length = cap' → cap' ≤ maxI → K (.sl nx 0 (x ++ y).length cap') ((nx, .cells (bvs k (x ++ y) ++ sp'.map AV.val) e) :: del m n) (nx + 1)) :
    appk (.sl n 0 x.length cap) m nx wr e 1 bt (y.length, bvs k y) K := by
  simp only [appk]
  refine .inl ⟨trivial, hw, ?_⟩
  rw [hn]
  have hm' : x.length + y.length ≤ (x.length + y.length) * bt := Nat.le_mul_of_pos_right _ hb
  refine ⟨rfl, by simp only [List.length_append, bvs_length, List.length_map]; omega, hc, hm, by omega, fun cap' sp' h1 h2 h3 => ?_⟩
  have e1 : (bvs k x ++ sp.map AV.val).take (x.length * 1) ++ bvs k y = bvs k (x ++ y) := by
    rw [Nat.mul_one, List.take_append_of_le_length (by rw [bvs_length]; exact Nat.le_refl _), bvs_take, List.take_length, bvs_append]
  have := hK cap' sp' (by simp only [List.length_append]; omega) h2
  rw [e1]
  rwa [List.length_append] at this
theorem appk_nils {wr : Nat → Bool} {m : Mem} {nx : Nat} {K : Kv} {k : IntKind} {w : Nat} {y : List (BitVec w)} {e bt : Nat} (hb : 0 < bt) (hm : y.length * bt ≤ 140737488355328)
    (h0 : y = [] → K .nils m nx) (hK : 0 < y.length → ∀ (cap' : Nat) (sp' : List Value), y.length + sp'.length = cap' → cap' ≤ maxI → K (.sl nx 0 y.length cap') ((nx, .cells (bvs k y ++ sp'.map AV.val) e) :: m) (nx + 1)) :
    appk .nils m nx wr e 1 bt (y.length, bvs k y) K := by
  simp only [appk]
  have hm' : y.length ≤ y.length * bt := Nat.le_mul_of_pos_right _ hb
  exact ⟨hm, by omega, fun h => h0 (List.length_eq_zero_iff.1 h), fun hp cap sp h1 h2 h3 => hK hp cap sp (by omega) h2⟩
theorem argx_sl {m : Mem} {own : List Nat} {f : Nat → Nat} {k : IntKind} {w : Nat} {x : List (BitVec w)} {y : List AV} {n len cap e : Nat} (hn : look m n = some (.cells (bvs k x ++ y) e)) (ho : own.contains n = false) (hl : len = x.length) :
    argx m own f (.sl n 0 len cap) (.ro x.length (bvs k x)) := by
  subst hl
  simp only [argx]
  refine ⟨trivial, ho, ?_⟩
  rw [hn]
  refine ⟨bvs_flat k x, fun h => by rw [bvs_length]; exact h, by simp only [List.length_append, bvs_length]; omega, ?_⟩
  rw [List.drop_zero, bvs_length, List.take_append_of_le_length (by rw [bvs_length]; exact Nat.le_refl _), bvs_take, List.take_length]
end Go.Eng
end
section
/- The engine, part 19: the equations of a walk, all in one. Printed by a program of our own. -/
set_option maxRecDepth 100000
namespace Go.Eng
open Go
theorem engS0 : type_of% (And.intro @KeepK_one <| And.intro @dyw_true <| And.intro @dyw_false <| And.intro @DyE_true <| And.intro @Rdy_app <| And.intro @DyE_false <| And.intro @DyO_some <| And.intro @drawy_nil <| And.intro @drawy_cons <| And.intro @opx_makeMap <| And.intro @opx_insert <| And.intro @opx_mapUpdate <| And.intro @opx_lookup <| And.intro @mkmx_eq <| And.intro @insx_map <| And.intro @insxo_mp <| And.intro @lookx_map <| And.intro @lookxo_mp <| And.intro @lkk_some <| And.intro @lkk_none <| And.intro @mfind_cons <| And.intro @mfind_nil <| And.intro @mputv_cons <| And.intro @mputv_nil <| And.intro @mputk_cons <| And.intro @mputk_nil <| And.intro @wrap_i32_bv <| And.intro @ofInt_toInt' <| And.intro @bshr_i32 <| And.intro @bandn8 <| And.intro @bandn16 <| And.intro @bandn32 <| And.intro @bandn64 <| And.intro @UpX_ret <| And.intro @UpX_exit <| And.intro @u8s_bvs <| And.intro @bvs_ren <| And.intro @bvs_flat_rep <| And.intro @UpK_ret <| @UpK_exit) := And.intro @KeepK_one <| And.intro @dyw_true <| And.intro @dyw_false <| And.intro @DyE_true <| And.intro @Rdy_app <| And.intro @DyE_false <| And.intro @DyO_some <| And.intro @drawy_nil <| And.intro @drawy_cons <| And.intro @opx_makeMap <| And.intro @opx_insert <| And.intro @opx_mapUpdate <| And.intro @opx_lookup <| And.intro @mkmx_eq <| And.intro @insx_map <| And.intro @insxo_mp <| And.intro @lookx_map <| And.intro @lookxo_mp <| And.intro @lkk_some <| And.intro @lkk_none <| And.intro @mfind_cons <| And.intro @mfind_nil <| And.intro @mputv_cons <| And.intro @mputv_nil <| And.intro @mputk_cons <| And.intro @mputk_nil <| And.intro @wrap_i32_bv <| And.intro @ofInt_toInt' <| And.intro @bshr_i32 <| And.intro @bandn8 <| And.intro @bandn16 <| And.intro @bandn32 <| And.intro @bandn64 <| And.intro @UpX_ret <| And.intro @UpX_exit <| And.intro @u8s_bvs <| And.intro @bvs_ren <| And.intro @bvs_flat_rep <| And.intro @UpK_ret <| @UpK_exit
theorem engS1 : type_of% (And.intro @rdx_move <| And.intro @rdx_assign <| And.intro @rdx_load <| And.intro @rdx_nilCheck <| And.intro @rdx_binOp <| And.intro @rdx_unOp <| And.intro @rdx_convert <| And.intro @rdx_makeInterface <| And.intro @rdx_makeFunc <| And.intro @rdx_fieldAddr <| And.intro @rdx_field <| And.intro @rdx_indexAddr <| And.intro @rdx_index <| And.intro @opx_move <| And.intro @opx_assign <| And.intro @opx_pick <| And.intro @opx_build <| And.intro @opx_load <| And.intro @opx_nilCheck <| And.intro @opx_binOp <| And.intro @opx_unOp <| And.intro @opx_convert <| And.intro @cvx_int <| And.intro @cvx_str <| And.intro @cvx_nils <| And.intro @cvx_ro <| And.intro @cvx_sl <| And.intro @cvs_true <| And.intro @cvo_cells <| And.intro @opx_makeInterface <| And.intro @opx_makeFunc <| And.intro @opx_slice <| And.intro @opx_fieldAddr <| And.intro @opx_field <| And.intro @opx_indexAddr <| And.intro @opx_index <| And.intro @opx_extract <| And.intro @opx_alloc <| And.intro @opx_box <| @opx_makeSlice) := And.intro @rdx_move <| And.intro @rdx_assign <| And.intro @rdx_load <| And.intro @rdx_nilCheck <| And.intro @rdx_binOp <| And.intro @rdx_unOp <| And.intro @rdx_convert <| And.intro @rdx_makeInterface <| And.intro @rdx_makeFunc <| And.intro @rdx_fieldAddr <| And.intro @rdx_field <| And.intro @rdx_indexAddr <| And.intro @rdx_index <| And.intro @opx_move <| And.intro @opx_assign <| And.intro @opx_pick <| And.intro @opx_build <| And.intro @opx_load <| And.intro @opx_nilCheck <| And.intro @opx_binOp <| And.intro @opx_unOp <| And.intro @opx_convert <| And.intro @cvx_int <| And.intro @cvx_str <| And.intro @cvx_nils <| And.intro @cvx_ro <| And.intro @cvx_sl <| And.intro @cvs_true <| And.intro @cvo_cells <| And.intro @opx_makeInterface <| And.intro @opx_makeFunc <| And.intro @opx_slice <| And.intro @opx_fieldAddr <| And.intro @opx_field <| And.intro @opx_indexAddr <| And.intro @opx_index <| And.intro @opx_extract <| And.intro @opx_alloc <| And.intro @opx_box <| @opx_makeSlice
theorem engS2 : type_of% (And.intro @opx_store <| And.intro @opx_append <| And.intro @opx_copy <| And.intro @opx_len <| And.intro @opx_min <| And.intro @opx_max <| And.intro @opx_call <| And.intro @rdx_len <| And.intro @rdx_min <| And.intro @rdx_max <| And.intro @rdx_pick <| And.intro @pickv_true <| And.intro @pickv_false <| And.intro @rdx_build <| And.intro @bldv_some <| And.intro @opx_buildSlice <| And.intro @bslv_some <| And.intro @rdx_slice <| And.intro @slcv_nn <| And.intro @slcv_sn <| And.intro @slcv_ns <| And.intro @slcv_ss <| And.intro @rdx_extract <| And.intro @extv_tup <| And.intro @binx_add <| And.intro @binx_sub <| And.intro @binx_mul <| And.intro @binx_and <| And.intro @binx_or <| And.intro @binx_xor <| And.intro @binx_andNot <| And.intro @binx_eql <| And.intro @binx_neq <| And.intro @binx_lss <| And.intro @binx_leq <| And.intro @binx_gtr <| And.intro @binx_geq <| And.intro @binx_quo <| And.intro @binx_rem <| @binx_shl) := And.intro @opx_store <| And.intro @opx_append <| And.intro @opx_copy <| And.intro @opx_len <| And.intro @opx_min <| And.intro @opx_max <| And.intro @opx_call <| And.intro @rdx_len <| And.intro @rdx_min <| And.intro @rdx_max <| And.intro @rdx_pick <| And.intro @pickv_true <| And.intro @pickv_false <| And.intro @rdx_build <| And.intro @bldv_some <| And.intro @opx_buildSlice <| And.intro @bslv_some <| And.intro @rdx_slice <| And.intro @slcv_nn <| And.intro @slcv_sn <| And.intro @slcv_ns <| And.intro @slcv_ss <| And.intro @rdx_extract <| And.intro @extv_tup <| And.intro @binx_add <| And.intro @binx_sub <| And.intro @binx_mul <| And.intro @binx_and <| And.intro @binx_or <| And.intro @binx_xor <| And.intro @binx_andNot <| And.intro @binx_eql <| And.intro @binx_neq <| And.intro @binx_lss <| And.intro @binx_leq <| And.intro @binx_gtr <| And.intro @binx_geq <| And.intro @binx_quo <| And.intro @binx_rem <| @binx_shl
theorem engS3 : type_of% (And.intro @binx_shr <| And.intro @binx_seql <| And.intro @binx_sneq <| And.intro @binx_beql <| And.intro @binx_bneq <| And.intro @binx_aeql <| And.intro @binx_aneq <| And.intro @binx_peql <| And.intro @binx_ppeql <| And.intro @binx_pqeql <| And.intro @binx_feql <| And.intro @binx_neql <| And.intro @binx_pneq <| And.intro @binx_ppneq <| And.intro @binx_pqneq <| And.intro @binx_fneq <| And.intro @binx_nneq <| And.intro @unx_neg <| And.intro @unx_xor <| And.intro @unx_not <| And.intro @exec_skip <| And.intro @exec_region <| And.intro @exec_seq <| And.intro @exec_cond <| And.intro @cndv_true <| And.intro @cndv_false <| And.intro @exec_block <| And.intro @exec_loop <| And.intro @exec_exit <| And.intro @exec_ret <| And.intro @RetK_ret <| And.intro @RetK_normal <| And.intro @FinK_app <| And.intro @resx_nil <| And.intro @ConsK_app <| And.intro @resx_tmp <| And.intro @resx_cell <| And.intro @LoopK_normal <| And.intro @LoopK_ret <| @LoopK_exit) := And.intro @binx_shr <| And.intro @binx_seql <| And.intro @binx_sneq <| And.intro @binx_beql <| And.intro @binx_bneq <| And.intro @binx_aeql <| And.intro @binx_aneq <| And.intro @binx_peql <| And.intro @binx_ppeql <| And.intro @binx_pqeql <| And.intro @binx_feql <| And.intro @binx_neql <| And.intro @binx_pneq <| And.intro @binx_ppneq <| And.intro @binx_pqneq <| And.intro @binx_fneq <| And.intro @binx_nneq <| And.intro @unx_neg <| And.intro @unx_xor <| And.intro @unx_not <| And.intro @exec_skip <| And.intro @exec_region <| And.intro @exec_seq <| And.intro @exec_cond <| And.intro @cndv_true <| And.intro @cndv_false <| And.intro @exec_block <| And.intro @exec_loop <| And.intro @exec_exit <| And.intro @exec_ret <| And.intro @RetK_ret <| And.intro @RetK_normal <| And.intro @FinK_app <| And.intro @resx_nil <| And.intro @ConsK_app <| And.intro @resx_tmp <| And.intro @resx_cell <| And.intro @LoopK_normal <| And.intro @LoopK_ret <| @LoopK_exit
theorem engS4 : type_of% (And.intro @opsx_nil <| And.intro @opsx_cons <| And.intro @After_app <| And.intro @KvAt_app <| And.intro @OpE_app <| And.intro @SkE_app <| And.intro @grdx_none <| And.intro @grdx_some <| And.intro @grds_some <| And.intro @grdv_true <| And.intro @grdv_false <| And.intro @grdv_true' <| And.intro @grdv_false' <| And.intro @grdv_undef <| And.intro @DrO_some <| And.intro @DrE_true <| And.intro @DrE_false <| And.intro @drawx_nil <| And.intro @drawx_cons <| And.intro @Sq_normal <| And.intro @Sq_ret <| And.intro @Sq_exit <| And.intro @Blk_normal <| And.intro @Blk_ret <| And.intro @Blk_exit <| And.intro @Nrm_app <| And.intro @withv_some <| And.intro @withl_some <| And.intro @zfill_one <| And.intro @one1_bool <| And.intro @isTup_bool <| And.intro @acells_bool <| And.intro @one1_int <| And.intro @isTup_int <| And.intro @acells_int <| And.intro @one1_str <| And.intro @isTup_str <| And.intro @acells_str <| And.intro @one1_ptr <| @isTup_ptr) := And.intro @opsx_nil <| And.intro @opsx_cons <| And.intro @After_app <| And.intro @KvAt_app <| And.intro @OpE_app <| And.intro @SkE_app <| And.intro @grdx_none <| And.intro @grdx_some <| And.intro @grds_some <| And.intro @grdv_true <| And.intro @grdv_false <| And.intro @grdv_true' <| And.intro @grdv_false' <| And.intro @grdv_undef <| And.intro @DrO_some <| And.intro @DrE_true <| And.intro @DrE_false <| And.intro @drawx_nil <| And.intro @drawx_cons <| And.intro @Sq_normal <| And.intro @Sq_ret <| And.intro @Sq_exit <| And.intro @Blk_normal <| And.intro @Blk_ret <| And.intro @Blk_exit <| And.intro @Nrm_app <| And.intro @withv_some <| And.intro @withl_some <| And.intro @zfill_one <| And.intro @one1_bool <| And.intro @isTup_bool <| And.intro @acells_bool <| And.intro @one1_int <| And.intro @isTup_int <| And.intro @acells_int <| And.intro @one1_str <| And.intro @isTup_str <| And.intro @acells_str <| And.intro @one1_ptr <| @isTup_ptr
theorem engS5 : type_of% (And.intro @acells_ptr <| And.intro @one1_nilp <| And.intro @isTup_nilp <| And.intro @acells_nilp <| And.intro @one1_sl <| And.intro @isTup_sl <| And.intro @acells_sl <| And.intro @one1_nils <| And.intro @isTup_nils <| And.intro @acells_nils <| And.intro @one1_ro <| And.intro @isTup_ro <| And.intro @acells_ro <| And.intro @one1_rop <| And.intro @isTup_rop <| And.intro @acells_rop <| And.intro @one1_fn <| And.intro @isTup_fn <| And.intro @acells_fn <| And.intro @one1_nilf <| And.intro @isTup_nilf <| And.intro @acells_nilf <| And.intro @one1_map <| And.intro @isTup_map <| And.intro @acells_map <| And.intro @one1_nilm <| And.intro @isTup_nilm <| And.intro @acells_nilm <| And.intro @one1_iface <| And.intro @isTup_iface <| And.intro @acells_iface <| And.intro @one1_nili <| And.intro @isTup_nili <| And.intro @acells_nili <| And.intro @isTup_agg <| And.intro @acells_agg <| And.intro @stor_bool <| And.intro @stor_int <| And.intro @stor_str <| @stor_ptr) := And.intro @acells_ptr <| And.intro @one1_nilp <| And.intro @isTup_nilp <| And.intro @acells_nilp <| And.intro @one1_sl <| And.intro @isTup_sl <| And.intro @acells_sl <| And.intro @one1_nils <| And.intro @isTup_nils <| And.intro @acells_nils <| And.intro @one1_ro <| And.intro @isTup_ro <| And.intro @acells_ro <| And.intro @one1_rop <| And.intro @isTup_rop <| And.intro @acells_rop <| And.intro @one1_fn <| And.intro @isTup_fn <| And.intro @acells_fn <| And.intro @one1_nilf <| And.intro @isTup_nilf <| And.intro @acells_nilf <| And.intro @one1_map <| And.intro @isTup_map <| And.intro @acells_map <| And.intro @one1_nilm <| And.intro @isTup_nilm <| And.intro @acells_nilm <| And.intro @one1_iface <| And.intro @isTup_iface <| And.intro @acells_iface <| And.intro @one1_nili <| And.intro @isTup_nili <| And.intro @acells_nili <| And.intro @isTup_agg <| And.intro @acells_agg <| And.intro @stor_bool <| And.intro @stor_int <| And.intro @stor_str <| @stor_ptr
theorem engS6 : type_of% (And.intro @stor_nilp <| And.intro @stor_sl <| And.intro @stor_nils <| And.intro @stor_ro <| And.intro @stor_rop <| And.intro @stor_fn <| And.intro @stor_nilf <| And.intro @stor_map <| And.intro @stor_nilm <| And.intro @stor_iface <| And.intro @stor_nili <| And.intro @stor_agg <| And.intro @stx_ptr <| And.intro @stxo_cells <| And.intro @one1_ints <| And.intro @bvs_length <| And.intro @bvs_drop <| And.intro @bvs_take <| And.intro @bvs_append <| And.intro @bvs_set <| And.intro @bvs_getD <| And.intro @bvs_one <| And.intro @bvs_spl <| And.intro @tdv8 <| And.intro @tmd8 <| And.intro @beqlit8 <| And.intro @bnelit8 <| And.intro @tdv16 <| And.intro @tmd16 <| And.intro @beqlit16 <| And.intro @bnelit16 <| And.intro @tdv32 <| And.intro @tmd32 <| And.intro @beqlit32 <| And.intro @bnelit32 <| And.intro @tdv64 <| And.intro @tmd64 <| And.intro @beqlit64 <| And.intro @bnelit64 <| @drop_getD) := And.intro @stor_nilp <| And.intro @stor_sl <| And.intro @stor_nils <| And.intro @stor_ro <| And.intro @stor_rop <| And.intro @stor_fn <| And.intro @stor_nilf <| And.intro @stor_map <| And.intro @stor_nilm <| And.intro @stor_iface <| And.intro @stor_nili <| And.intro @stor_agg <| And.intro @stx_ptr <| And.intro @stxo_cells <| And.intro @one1_ints <| And.intro @bvs_length <| And.intro @bvs_drop <| And.intro @bvs_take <| And.intro @bvs_append <| And.intro @bvs_set <| And.intro @bvs_getD <| And.intro @bvs_one <| And.intro @bvs_spl <| And.intro @tdv8 <| And.intro @tmd8 <| And.intro @beqlit8 <| And.intro @bnelit8 <| And.intro @tdv16 <| And.intro @tmd16 <| And.intro @beqlit16 <| And.intro @bnelit16 <| And.intro @tdv32 <| And.intro @tmd32 <| And.intro @beqlit32 <| And.intro @bnelit32 <| And.intro @tdv64 <| And.intro @tmd64 <| And.intro @beqlit64 <| And.intro @bnelit64 <| @drop_getD
theorem engS7 : type_of% (And.intro @bv8_lt <| And.intro @bv8_ltn <| And.intro @bvs_rep8 <| And.intro @bvs_rep16 <| And.intro @bvs_rep32 <| And.intro @bvs_rep64 <| And.intro @ofInt_nat_same <| And.intro @ofInt_nat <| And.intro @ofInt_add' <| And.intro @ofInt_sub' <| And.intro @ofInt_mul' <| And.intro @ofInt_neg' <| And.intro @ofInt_cast <| And.intro @bv_eq <| And.intro @bv_ne <| And.intro @bv_nonneg <| And.intro @wrapself8 <| And.intro @ofIntwrap8 <| And.intro @wrapbv8 <| And.intro @bxor8 <| And.intro @band8 <| And.intro @bor8 <| And.intro @bnot8 <| And.intro @bshr8 <| And.intro @bshl8 <| And.intro @wrapself16 <| And.intro @ofIntwrap16 <| And.intro @wrapbv16 <| And.intro @bxor16 <| And.intro @band16 <| And.intro @bor16 <| And.intro @bnot16 <| And.intro @bshr16 <| And.intro @bshl16 <| And.intro @wrapself32 <| And.intro @ofIntwrap32 <| And.intro @wrapbv32 <| And.intro @bxor32 <| And.intro @band32 <| @bor32) := And.intro @bv8_lt <| And.intro @bv8_ltn <| And.intro @bvs_rep8 <| And.intro @bvs_rep16 <| And.intro @bvs_rep32 <| And.intro @bvs_rep64 <| And.intro @ofInt_nat_same <| And.intro @ofInt_nat <| And.intro @ofInt_add' <| And.intro @ofInt_sub' <| And.intro @ofInt_mul' <| And.intro @ofInt_neg' <| And.intro @ofInt_cast <| And.intro @bv_eq <| And.intro @bv_ne <| And.intro @bv_nonneg <| And.intro @wrapself8 <| And.intro @ofIntwrap8 <| And.intro @wrapbv8 <| And.intro @bxor8 <| And.intro @band8 <| And.intro @bor8 <| And.intro @bnot8 <| And.intro @bshr8 <| And.intro @bshl8 <| And.intro @wrapself16 <| And.intro @ofIntwrap16 <| And.intro @wrapbv16 <| And.intro @bxor16 <| And.intro @band16 <| And.intro @bor16 <| And.intro @bnot16 <| And.intro @bshr16 <| And.intro @bshl16 <| And.intro @wrapself32 <| And.intro @ofIntwrap32 <| And.intro @wrapbv32 <| And.intro @bxor32 <| And.intro @band32 <| @bor32
theorem engS8 : type_of% (And.intro @bnot32 <| And.intro @bshr32 <| And.intro @bshl32 <| And.intro @wrapself64 <| And.intro @ofIntwrap64 <| And.intro @wrapbv64 <| And.intro @bxor64 <| And.intro @band64 <| And.intro @bor64 <| And.intro @bnot64 <| And.intro @bshr64 <| And.intro @bshl64 <| And.intro @Rd_app <| And.intro @Asks_some <| And.intro @pickx_true <| And.intro @pickx_false <| And.intro @idxx_sl <| And.intro @idxx_ptr <| And.intro @idxx_ro <| And.intro @idxx_rop <| And.intro @fldx_ptr <| And.intro @fldx_rop <| And.intro @fieldx_agg <| And.intro @indexx_agg <| And.intro @indexx_str <| And.intro @slcx_sl <| And.intro @slcx_nils <| And.intro @slcx_ro <| And.intro @slcx_ptr <| And.intro @slcx_str <| And.intro @convx_int <| And.intro @convx_str <| And.intro @convx_nils <| And.intro @convx_ro <| And.intro @cvbo_cells <| And.intro @convx_sl <| And.intro @lenx_agg <| And.intro @lenx_sl <| And.intro @lenx_nils <| @lenx_ro) := And.intro @bnot32 <| And.intro @bshr32 <| And.intro @bshl32 <| And.intro @wrapself64 <| And.intro @ofIntwrap64 <| And.intro @wrapbv64 <| And.intro @bxor64 <| And.intro @band64 <| And.intro @bor64 <| And.intro @bnot64 <| And.intro @bshr64 <| And.intro @bshl64 <| And.intro @Rd_app <| And.intro @Asks_some <| And.intro @pickx_true <| And.intro @pickx_false <| And.intro @idxx_sl <| And.intro @idxx_ptr <| And.intro @idxx_ro <| And.intro @idxx_rop <| And.intro @fldx_ptr <| And.intro @fldx_rop <| And.intro @fieldx_agg <| And.intro @indexx_agg <| And.intro @indexx_str <| And.intro @slcx_sl <| And.intro @slcx_nils <| And.intro @slcx_ro <| And.intro @slcx_ptr <| And.intro @slcx_str <| And.intro @convx_int <| And.intro @convx_str <| And.intro @convx_nils <| And.intro @convx_ro <| And.intro @cvbo_cells <| And.intro @convx_sl <| And.intro @lenx_agg <| And.intro @lenx_sl <| And.intro @lenx_nils <| @lenx_ro
theorem engS9 : type_of% (And.intro @lenx_str <| And.intro @mmx_int <| And.intro @bldx_s <| And.intro @bldx_n <| And.intro @buildx_eq <| And.intro @allocx_eq <| And.intro @bslx_eq <| And.intro @mkslx_int <| And.intro @appx_two <| And.intro @cpyo_cells <| And.intro @cpyx_two <| @cvs_falseE) := And.intro @lenx_str <| And.intro @mmx_int <| And.intro @bldx_s <| And.intro @bldx_n <| And.intro @buildx_eq <| And.intro @allocx_eq <| And.intro @bslx_eq <| And.intro @mkslx_int <| And.intro @appx_two <| And.intro @cpyo_cells <| And.intro @cpyx_two <| @cvs_falseE
end Go.Eng
end
section
/- The engine, part 26: more equations of a walk, all in one. Printed by a program of our own. -/
set_option maxRecDepth 100000
namespace Go.Eng
open Go
theorem engT0 : type_of% (And.intro @List.getD_cons_zero.{0} <| And.intro @List.getD_cons_succ.{0} <| And.intro @List.set_cons_zero.{0} <| And.intro @List.set_cons_succ.{0} <| And.intro @List.cons_append.{0} <| And.intro @List.flatten_replicate_replicate.{0} <| And.intro @List.nil_append.{0} <| And.intro @List.append_nil.{0} <| And.intro @List.length_cons.{0} <| And.intro @List.length_nil.{0} <| And.intro @List.length_replicate.{0} <| And.intro @List.length_append.{0} <| And.intro @List.length_map.{0,0} <| And.intro @List.length_set.{0} <| And.intro @List.length_range <| And.intro @Option.isSome_some.{0} <| And.intro @Option.map_some.{0,0} <| And.intro @Option.map_none.{0,0} <| And.intro @Option.join_some.{0} <| And.intro @Option.join_none.{0} <| And.intro @Option.bind_some.{0,0} <| And.intro @List.getElem?_toArray.{0} <| And.intro @List.getElem?_cons_succ.{0} <| And.intro @List.getElem?_cons_zero.{0} <| And.intro @List.toList_toArray.{0} <| And.intro @List.all_cons.{0} <| And.intro @List.all_nil.{0} <| And.intro @List.size_toArray.{0} <| And.intro @Nat.succ_ne_self <| And.intro @decide_true <| And.intro @decide_false <| And.intro @decide_eq_true_eq <| And.intro @Bool.not_true <| And.intro @Bool.not_false <| And.intro @Bool.and_true <| And.intro @Bool.true_and <| And.intro @Bool.and_self <| And.intro @Bool.false_and <| And.intro @Bool.and_false <| @true_and) := And.intro @List.getD_cons_zero.{0} <| And.intro @List.getD_cons_succ.{0} <| And.intro @List.set_cons_zero.{0} <| And.intro @List.set_cons_succ.{0} <| And.intro @List.cons_append.{0} <| And.intro @List.flatten_replicate_replicate.{0} <| And.intro @List.nil_append.{0} <| And.intro @List.append_nil.{0} <| And.intro @List.length_cons.{0} <| And.intro @List.length_nil.{0} <| And.intro @List.length_replicate.{0} <| And.intro @List.length_append.{0} <| And.intro @List.length_map.{0,0} <| And.intro @List.length_set.{0} <| And.intro @List.length_range <| And.intro @Option.isSome_some.{0} <| And.intro @Option.map_some.{0,0} <| And.intro @Option.map_none.{0,0} <| And.intro @Option.join_some.{0} <| And.intro @Option.join_none.{0} <| And.intro @Option.bind_some.{0,0} <| And.intro @List.getElem?_toArray.{0} <| And.intro @List.getElem?_cons_succ.{0} <| And.intro @List.getElem?_cons_zero.{0} <| And.intro @List.toList_toArray.{0} <| And.intro @List.all_cons.{0} <| And.intro @List.all_nil.{0} <| And.intro @List.size_toArray.{0} <| And.intro @Nat.succ_ne_self <| And.intro @decide_true <| And.intro @decide_false <| And.intro @decide_eq_true_eq <| And.intro @Bool.not_true <| And.intro @Bool.not_false <| And.intro @Bool.and_true <| And.intro @Bool.true_and <| And.intro @Bool.and_self <| And.intro @Bool.false_and <| And.intro @Bool.and_false <| @true_and
theorem engT1 : type_of% (And.intro @and_true <| And.intro @false_and <| And.intro @and_false <| And.intro @true_implies <| And.intro @false_implies <| And.intro @Option.some.injEq.{0} <| And.intro @Prod.mk.injEq.{0,0} <| And.intro @Nat.add_zero <| And.intro @Nat.zero_add <| And.intro @Nat.mul_one <| And.intro @Nat.one_mul <| And.intro @Nat.mul_zero <| And.intro @Nat.zero_mul <| And.intro @Int.toNat_natCast <| And.intro @Nat.zero_le <| And.intro @Nat.le_refl <| And.intro @Nat.lt_irrefl <| And.intro @Nat.not_lt_zero <| And.intro @not_true_eq_false <| And.intro @not_false_eq_true <| And.intro @Bool.true_eq_false <| And.intro @Bool.false_eq_true <| And.intro @Int.natCast_nonneg <| And.intro @Int.zero_le_ofNat <| And.intro @Int.cast_ofNat_Int <| And.intro @List.drop_zero.{0} <| And.intro @BitVec.ofNat_toNat <| And.intro @BitVec.setWidth_eq <| And.intro @List.take_zero.{0} <| And.intro @List.drop_replicate.{0} <| And.intro @Nat.sub_self <| And.intro @List.replicate_zero.{0} <| And.intro @List.contains_nil.{0} <| And.intro @List.contains_cons.{0} <| And.intro @Option.isNone_some.{0} <| And.intro @Option.isNone_none.{0} <| And.intro @Bool.or_false <| And.intro @Bool.false_or <| And.intro @Bool.or_self <| @Bool.or_true) := And.intro @and_true <| And.intro @false_and <| And.intro @and_false <| And.intro @true_implies <| And.intro @false_implies <| And.intro @Option.some.injEq.{0} <| And.intro @Prod.mk.injEq.{0,0} <| And.intro @Nat.add_zero <| And.intro @Nat.zero_add <| And.intro @Nat.mul_one <| And.intro @Nat.one_mul <| And.intro @Nat.mul_zero <| And.intro @Nat.zero_mul <| And.intro @Int.toNat_natCast <| And.intro @Nat.zero_le <| And.intro @Nat.le_refl <| And.intro @Nat.lt_irrefl <| And.intro @Nat.not_lt_zero <| And.intro @not_true_eq_false <| And.intro @not_false_eq_true <| And.intro @Bool.true_eq_false <| And.intro @Bool.false_eq_true <| And.intro @Int.natCast_nonneg <| And.intro @Int.zero_le_ofNat <| And.intro @Int.cast_ofNat_Int <| And.intro @List.drop_zero.{0} <| And.intro @BitVec.ofNat_toNat <| And.intro @BitVec.setWidth_eq <| And.intro @List.take_zero.{0} <| And.intro @List.drop_replicate.{0} <| And.intro @Nat.sub_self <| And.intro @List.replicate_zero.{0} <| And.intro @List.contains_nil.{0} <| And.intro @List.contains_cons.{0} <| And.intro @Option.isNone_some.{0} <| And.intro @Option.isNone_none.{0} <| And.intro @Bool.or_false <| And.intro @Bool.false_or <| And.intro @Bool.or_self <| @Bool.or_true
theorem engT2 : type_of% (@Bool.true_or) := @Bool.true_or
end Go.Eng
end
section
/- The engine, part 27: contracts whose memory holds what is read only. Own work. -/
set_option linter.unusedVariables false
set_option linter.unusedSimpArgs false
namespace Go.Eng
open Go

mutual
theorem den_fwd {H : RO} {B B' : Names} {f : Nat → Nat} (hb : ∀ n b, B' n = some b → B (f n) = some b) : ∀ (a : AV) {v : Value}, Den H B' a v → Den H B (renA f a) v
  | .ptr n o, v, h => by
    simp only [renA, Den] at h ⊢
    obtain ⟨b, h1, e⟩ := h
    exact ⟨b, hb _ _ h1, e⟩
  | .sl n o l c, v, h => by
    simp only [renA, Den] at h ⊢
    obtain ⟨b, a, h1, e⟩ := h
    exact ⟨b, a, hb _ _ h1, e⟩
  | .map n, v, h => by
    simp only [renA, Den] at h ⊢
    obtain ⟨b, h1, e⟩ := h
    exact ⟨b, hb _ _ h1, e⟩
  | .ro l xs, v, h => by
    simp only [renA, Den] at h ⊢
    obtain ⟨A, c, e, h1, h2⟩ := h
    exact ⟨A, c, e, h1, denAt_fwd hb xs h2⟩
  | .rop xs, v, h => by
    simp only [renA, Den] at h ⊢
    obtain ⟨a, e, h2⟩ := h
    exact ⟨a, e, denAt_fwd hb xs h2⟩
  | .fn g fi ca, v, h => by
    simp only [renA, Den] at h ⊢
    obtain ⟨x, y, e, h1, h2⟩ := h
    exact ⟨x, y, e, denL_fwd hb fi h1, denL_fwd hb ca h2⟩
  | .iface t x, v, h => by
    simp only [renA, Den] at h ⊢
    obtain ⟨y, e, h1⟩ := h
    exact ⟨y, e, den_fwd hb x h1⟩
  | .agg l, v, h => by
    simp only [renA, Den] at h ⊢
    obtain ⟨y, e, h1⟩ := h
    exact ⟨y, e, denL_fwd hb l h1⟩
  | .tup l, v, h => by
    simp only [renA, Den] at h ⊢
    obtain ⟨y, e, h1⟩ := h
    exact ⟨y, e, denL_fwd hb l h1⟩
  | .bool b, v, h => by simpa only [renA, Den] using h
  | .int k n, v, h => by simpa only [renA, Den] using h
  | .str s, v, h => by simpa only [renA, Den] using h
  | .nilp, v, h => by simpa only [renA, Den] using h
  | .nils, v, h => by simpa only [renA, Den] using h
  | .nilf, v, h => by simpa only [renA, Den] using h
  | .nilm, v, h => by simpa only [renA, Den] using h
  | .nili, v, h => by simpa only [renA, Den] using h
  | .val u, v, h => by simpa only [renA, Den] using h
theorem denL_fwd {H : RO} {B B' : Names} {f : Nat → Nat} (hb : ∀ n b, B' n = some b → B (f n) = some b) : ∀ (l : List AV) {vs : List Value}, DenL H B' l vs → DenL H B (renL f l) vs
  | [], vs, h => by simpa only [renL, DenL] using h
  | x :: r, vs, h => by
    simp only [renL, DenL] at h ⊢
    obtain ⟨v, s, e, h1, h2⟩ := h
    exact ⟨v, s, e, den_fwd hb x h1, denL_fwd hb r h2⟩
theorem denAt_fwd {H : RO} {B B' : Names} {f : Nat → Nat} (hb : ∀ n b, B' n = some b → B (f n) = some b) {A : Option Addr} : ∀ (l : List AV) {i : Nat}, DenAt H B' A i l → DenAt H B A i (renL f l)
  | [], i, h => by simp only [renL, DenAt]
  | x :: r, i, h => by
    simp only [renL, DenAt] at h ⊢
    obtain ⟨⟨a, v, e, h0, h1⟩, h2⟩ := h
    exact ⟨⟨a, v, e, h0, den_fwd hb x h1⟩, denAt_fwd hb r h2⟩
end
theorem holds_fwd {H : RO} {B B' : Names} {f : Nat → Nat} (hb : ∀ n b, B' n = some b → B (f n) = some b) {w : World} {b : Nat} : ∀ {o : AObj}, HoldsO H B' w b o → HoldsO H B w b (renO f o)
  | .cells l ty, ⟨cs, h1, h2⟩ => ⟨cs, h1, denL_fwd hb l h2⟩
  | .opq o, h => h
  | .fz l ty, ⟨cs, fr, h1, h2⟩ => ⟨cs, fr, h1, denL_fwd hb l h2⟩
  | .mp k keys vals, ⟨ms, c, h1, h2, h3⟩ => ⟨ms, c, h1, h2, denL_fwd hb vals h3⟩
  | .mx kd keys vals born, ⟨ms, c, h1, h2, h3, h4, h5, h6, h7⟩ => ⟨ms, c, h1, h2, h3, h4, h5, h6, denL_fwd hb vals h7⟩
section
variable {P : Program} {w0 w : World} {FP : Nat → Prop} {wr rd : Nat → Bool} {m : Mem} {nx : Nat} {H : RO} {B : Names} {N : Nat} {t : Slots} {a : Act}
/-- a contract that holds nothing fast, met with just its own arguments: what is read only may stay in it -/
theorem CallG.useE {fz : Bool} {g : FuncId} {args0 : List AV} {wr0 : Nat → Bool} {m0 : Mem} {nx0 : Nat} {R : Kv} (h : CallG false P g args0 wr0 m0 nx0 R) (l : List (Nat × Nat)) {args : List AV} {K : Kv}
    (hk : l.all (fun p => decide (p.1 < nx0)) = true) (hm : callLe (rf l nx nx0) wr wr0 m m0) (hinj : injOn (rf l nx nx0) m0) (hall : (List.range nx0).all (fun n => (look m0 n).isSome) = true) (hwr0 : ∀ n, nx0 ≤ n → wr0 n = true)
    (hkeep0 : ∀ n, wr0 n = false → (look m0 n).isSome = true) (ha : args = renL (rf l nx nx0) args0)
    (hK : ∀ v m' nx', R v m' nx' → nx0 ≤ nx' ∧ K (renA (rf l nx nx0) v) (renM (rf l nx nx0) m' ++ delAll m (m0.map fun p => rf l nx nx0 p.1)) (nx + (nx' - nx0))) : CallG fz P g args wr m nx K := by
  intro w0 FP H B w vs hi hd
  generalize hfd : rf l nx nx0 = f at *
  have hlive : ∀ n, n < nx0 → ∃ o, look m0 n = some o := fun n hn => Option.isSome_iff_exists.1 (List.all_eq_true.1 hall n (List.mem_range.2 hn))
  have hflt : ∀ n, n < nx0 → f n < nx := fun n hn => by
    obtain ⟨o, ho⟩ := hlive n hn
    exact hi.lt_nx (callLe_look hm n o ho).1
  have hfge : ∀ n, nx0 ≤ n → f n = n - nx0 + nx := fun n hn => by
    rw [← hfd]
    have hl : look l n = none := by
      induction l with
      | nil => rfl
      | cons x r ih =>
        obtain ⟨k, y⟩ := x
        simp only [List.all_cons, Bool.and_eq_true, decide_eq_true_eq] at hk
        have hr : ∀ {l : List (Nat × Nat)}, l.all (fun p => decide (p.1 < nx0)) = true → look l n = none := by
          intro l hl
          induction l with
          | nil => rfl
          | cons x r ih =>
            obtain ⟨k, y⟩ := x
            simp only [List.all_cons, Bool.and_eq_true, decide_eq_true_eq] at hl
            simp only [look]
            rw [if_neg (by omega)]
            exact ih hl.2
        simp only [look]
        rw [if_neg (by omega)]
        exact hr hk.2
    unfold rf
    rw [hl]
    simp only
    rw [if_neg (by omega)]
  have hfinj : ∀ a b, f a = f b → a = b := fun a b e => by
    rcases Nat.lt_or_ge a nx0 with ha' | ha' <;> rcases Nat.lt_or_ge b nx0 with hb' | hb'
    · obtain ⟨o1, h1⟩ := hlive a ha'
      obtain ⟨o2, h2⟩ := hlive b hb'
      exact injOn_look hinj a b o1 o2 h1 h2 e
    · have := hflt a ha'; rw [e, hfge b hb'] at this; omega
    · have := hflt b hb'; rw [← e, hfge a ha'] at this; omega
    · rw [hfge a ha', hfge b hb'] at e; omega
  -- the callee's view
  let FP0 : Nat → Prop := fun b => ∃ n o, look m0 n = some o ∧ wr0 n = true ∧ B (f n) = some b
  have hi0 : Inv w FP0 wr0 m0 nx0 H (fun n => B (f n)) w := by
    refine ⟨Nat.le_refl _, rfl, rfl, rfl, fun _ _ _ => rfl, fun ad v e => ⟨(hi.ro ad v e).1, fun n o hn => (hi.ro ad v e).2 _ _ (callLe_look hm n o hn).1⟩, fun n o hn => ?_, fun n n' o o' h1 h2 e => ?_, fun n hn => ?_, hwr0, fun n hn => Option.isSome_iff_exists.1 (hkeep0 n hn)⟩
    · obtain ⟨h1, h2⟩ := callLe_look hm n o hn
      obtain ⟨b, hb, ho, hl, r1, r2⟩ := hi.obj _ _ h1
      refine ⟨b, hb, holds_ren ho, hl, fun e => .inl ⟨n, o, hn, e, hb⟩, fun e => ⟨hl, ?_⟩⟩
      rintro ⟨n', o', hn', hw', hb'⟩
      have := hi.inj _ _ _ _ h1 (callLe_look hm n' o' hn').1 (by rw [hb, hb'])
      have := hfinj _ _ this
      subst this
      rw [hw'] at e; cases e
    · exact hfinj _ _ (hi.inj _ _ _ _ (callLe_look hm n o h1).1 (callLe_look hm n' o' h2).1 e)
    · exact hi.fresh _ (by rw [hfge n hn]; omega)
  have hownr : ∀ k, (m0.map fun p => f p.1).contains k = false → ∀ n o, look m0 n = some o → f n ≠ k := fun k hk n o hn e => by
    have : k ∈ m0.map fun p => f p.1 := by
      rw [← e]
      clear hk hm hinj hall hkeep0 h ha hK hlive hflt hfinj hi0 hwr0
      induction m0 with
      | nil => cases hn
      | cons p r ih =>
        obtain ⟨k', o'⟩ := p
        simp only [look] at hn
        split at hn
        · rename_i e'; subst e'; simp
        · simp only [List.map_cons, List.mem_cons]; exact .inr (ih hn)
    rw [List.contains_iff_mem.2 this] at hk; cases hk
  have hd0 : DenL H (fun n => B (f n)) args0 vs := denL_ren args0 (by rw [← ha]; exact hd)
  refine (h w FP0 H (fun n => B (f n)) w vs hi0 hd0).mono fun e w' he => ?_
  obtain ⟨v, av, m', nx', B', H0', rfl, hz, hi', hx', hdv, hR⟩ := he
  obtain rfl : H0' = H := hz rfl
  obtain ⟨hle, hk2⟩ := hK av m' nx' hR
  let B2 : Names := fun k => if k < nx then B k else B' (k - nx + nx0)
  have hb2 : ∀ n b, B' n = some b → B2 (f n) = some b := fun n b hb => by
    show (if f n < nx then B (f n) else B' (f n - nx + nx0)) = some b
    rcases Nat.lt_or_ge n nx0 with hn | hn
    · rw [if_pos (hflt n hn)]
      obtain ⟨o, ho⟩ := hlive n hn
      obtain ⟨c, hc, _⟩ := hi.obj _ _ (callLe_look hm n o ho).1
      have := hx'.nm n c hc
      rw [hb] at this; cases this
      exact hc
    · rw [hfge n hn, if_neg (by omega), show n - nx0 + nx - nx + nx0 = n by omega]
      exact hb
  have hx2 : Ext H0' B H0' B2 := ⟨fun _ _ e => e, fun k b hb => by
    have : k < nx := by
      rcases Nat.lt_or_ge k nx with h' | h'
      · exact h'
      · rw [hi.fresh k h'] at hb; cases hb
    show (if k < nx then B k else B' (k - nx + nx0)) = some b
    rw [if_pos this]; exact hb⟩
  have hFP0 : ∀ b, FP0 b → FP b ∨ w0.heap.size ≤ b := by
    rintro b ⟨n, o, hn, hw, hb⟩
    obtain ⟨h1, h2⟩ := callLe_look hm n o hn
    obtain ⟨c, hc, _, _, r, _⟩ := hi.obj _ _ h1
    rw [hb] at hc; cases hc
    exact r (h2 hw)
  have hnew : ∀ b, FP0 b ∨ w.heap.size ≤ b → FP b ∨ w0.heap.size ≤ b := fun b h => h.elim (hFP0 b) (fun h => .inr (Nat.le_trans hi.size h))
  -- what a name of the new memory stands for
  have hsplit : ∀ k o, look (renM f m' ++ delAll m (m0.map fun p => f p.1)) k = some o → (∃ n o', k = f n ∧ look m' n = some o' ∧ o = renO f o') ∨ (look m k = some o ∧ k ∉ (m0.map fun p => f p.1)) := fun k o hk => by
    rw [look_append] at hk
    cases h1 : look (renM f m') k with
    | some o1 =>
      rw [h1] at hk; cases hk
      obtain ⟨n, rfl⟩ := look_renM_some h1
      rw [look_renM hfinj] at h1
      obtain ⟨o', ho', e⟩ := Option.map_eq_some_iff.1 h1
      exact .inl ⟨n, o', rfl, ho', e.symm⟩
    | none =>
      rw [h1] at hk
      exact .inr (look_delAll hk)
  have hBf : ∀ n o', look m' n = some o' → ∃ b, B' n = some b ∧ B2 (f n) = some b := fun n o' hn => by
    obtain ⟨b, hb, _⟩ := hi'.obj n o' hn
    exact ⟨b, hb, hb2 n b hb⟩
  have hold : ∀ k o, look m k = some o → B2 k = B k := fun k o hk => by
    show (if k < nx then B k else B' (k - nx + nx0)) = B k
    rw [if_pos (hi.lt_nx hk)]
  -- a block of the caller's that the callee was not handed
  have hapart : ∀ k o b, look m k = some o → k ∉ (m0.map fun p => f p.1) → B k = some b → b < w.heap.size ∧ ¬ FP0 b := fun k o b hk hkn hb => by
    obtain ⟨c, hc, _, hl, _⟩ := hi.obj k o hk
    rw [hb] at hc; cases hc
    refine ⟨hl, ?_⟩
    rintro ⟨n, o', hn, _, hb'⟩
    have := hi.inj _ _ _ _ (callLe_look hm n o' hn).1 hk (by rw [hb', hb])
    have hc : (m0.map fun p => f p.1).contains k = false := by
      cases h : (m0.map fun p => f p.1).contains k with
      | false => rfl
      | true => exact absurd (List.contains_iff_mem.1 h) hkn
    exact hownr k hc n o' hn this
  refine ⟨v, renA f av, _, _, B2, _, rfl, fun _ => rfl, ?_, hx2, den_fwd hb2 av hdv, hk2⟩
  refine ⟨Nat.le_trans hi.size hi'.size, hi'.os.trans hi.os, hi'.tape.trans hi.tape, hi'.out.trans hi.out, fun b hb hf => ?_, fun ad u e => ⟨(hi'.ro ad u e).1, fun k o hk => ?_⟩, fun k o hk => ?_, fun k k' o o' h1 h2 e => ?_, fun k hk => ?_, fun k hk => hi.wrn k (by omega), fun k hk => ?_⟩
  · rw [hi'.frame b (Nat.lt_of_lt_of_le hb hi.size) (fun h => by rcases hFP0 b h with h' | h'; exact hf h'; omega)]
    exact hi.frame b hb hf
  · rcases hsplit k o hk with ⟨n, o', rfl, hn, rfl⟩ | ⟨hk', _⟩
    · obtain ⟨b, hb, hb'⟩ := hBf n o' hn
      rw [hb', ← hb]
      exact (hi'.ro ad u e).2 n o' hn
    · rw [hold k o hk']
      exact (hi.ro ad u e).2 k o hk'
  · rcases hsplit k o hk with ⟨n, o', rfl, hn, rfl⟩ | ⟨hk', hkn⟩
    · obtain ⟨b, hb, ho, hl, r1, r2⟩ := hi'.obj n o' hn
      refine ⟨b, hb2 n b hb, holds_fwd hb2 ho, hl, ?_⟩
      rcases Nat.lt_or_ge n nx0 with hnl | hnl
      · obtain ⟨o1, ho1⟩ := hlive n hnl
        obtain ⟨c, hc, _, _, r3, r4⟩ := hi.obj _ _ (callLe_look hm n o1 ho1).1
        have := hx'.nm n c hc
        rw [hb] at this; cases this
        exact ⟨r3, r4⟩
      · have hw1 : wr (f n) = true := hi.wrn _ (by rw [hfge n hnl]; omega)
        refine ⟨fun _ => hnew b (r1 (hwr0 n hnl)), fun e => ?_⟩
        rw [hw1] at e; cases e
    · obtain ⟨b, hb, ho, hl, r1, r2⟩ := hi.obj k o hk'
      obtain ⟨g1, g2⟩ := hapart k o b hk' hkn hb
      exact ⟨b, by rw [hold k o hk']; exact hb, ho.mono hx2 (hi'.frame b g1 g2), Nat.lt_of_lt_of_le hl hi'.size, r1, r2⟩
  · have hmix : ∀ n o1 k' o2, look m' n = some o1 → look m k' = some o2 → k' ∉ (m0.map fun p => f p.1) → B2 (f n) = B2 k' → False := fun n o1 k' o2 hn hk' hkn e => by
      obtain ⟨b, hb, hb'⟩ := hBf n o1 hn
      rw [hb', hold k' o2 hk'] at e
      obtain ⟨g1, g2⟩ := hapart k' o2 b hk' hkn e.symm
      obtain ⟨c, hc, _, _, r1, r2⟩ := hi'.obj n o1 hn
      rw [hb] at hc; cases hc
      rcases Nat.lt_or_ge n nx0 with hnl | hnl
      · obtain ⟨o3, ho3⟩ := hlive n hnl
        obtain ⟨c, hc, _⟩ := hi.obj _ _ (callLe_look hm n o3 ho3).1
        have := hx'.nm n c hc
        rw [hb] at this; cases this
        have hkk := hi.inj _ _ _ _ (callLe_look hm n o3 ho3).1 hk' (by rw [hc, ← e])
        have hc : (m0.map fun p => f p.1).contains k' = false := by
          cases h : (m0.map fun p => f p.1).contains k' with
          | false => rfl
          | true => exact absurd (List.contains_iff_mem.1 h) hkn
        exact hownr k' hc n o3 ho3 hkk
      · rcases r1 (hwr0 n hnl) with h' | h'
        · exact g2 h'
        · omega
    rcases hsplit k o h1 with ⟨n, o1, rfl, hn, rfl⟩ | ⟨hk1, hkn1⟩ <;> rcases hsplit k' o' h2 with ⟨n', o2, rfl, hn', rfl⟩ | ⟨hk2', hkn2⟩
    · obtain ⟨b, hb, hb'⟩ := hBf n o1 hn
      obtain ⟨c, hc, hc'⟩ := hBf n' o2 hn'
      rw [hb', hc'] at e
      rw [hi'.inj n n' _ _ hn hn' (by rw [hb, hc, e])]
    · exact (hmix n o1 k' o' hn hk2' hkn2 e).elim
    · exact (hmix n' o2 k o hn' hk1 hkn1 e.symm).elim
    · rw [hold k o hk1, hold k' o' hk2'] at e
      exact hi.inj _ _ _ _ hk1 hk2' e
  · show (if k < nx then B k else B' (k - nx + nx0)) = none
    rw [if_neg (by omega)]
    exact hi'.fresh _ (by omega)
  · obtain ⟨o, ho⟩ := hi.keep k hk
    rw [look_append]
    by_cases hkm : k ∈ (m0.map fun p => f p.1)
    · have : ∃ n, k = f n ∧ ∃ o, look m0 n = some o := by
        obtain ⟨p, hp, e⟩ := List.mem_map.1 hkm
        exact ⟨p.1, e.symm, look_of_mem hp⟩
      obtain ⟨n, rfl, o1, ho1⟩ := this
      have hw0 : wr0 n = false := by
        cases hw : wr0 n with
        | false => rfl
        | true => have := (callLe_look hm n o1 ho1).2 hw; rw [hk] at this; cases this
      obtain ⟨o2, ho2⟩ := hi'.keep n hw0
      exact ⟨renO f o2, by rw [look_renM hfinj, ho2]; rfl⟩
    · cases h1 : look (renM f m') k with
      | some o1 => exact ⟨o1, rfl⟩
      | none => exact ⟨o, look_delAll_of ho hkm⟩

end
end Go.Eng
end
section
/- The engine, part 25: rows of numbers that are compared as arrays. Own work. -/
set_option linter.unusedVariables false
namespace Go.Eng
open Go

theorem avVals_bvs (q : IntKind) {w : Nat} (x : List (BitVec w)) : avVals (bvs q x) = some (x.map fun b => Value.int q (b.toNat : Int)) := by
  induction x with
  | nil => rfl
  | cons b r ih => simp only [bvs_cons, avVals, ih, Option.map_some, List.map_cons]
theorem mapM_all {α β : Type} {f : α → Option β} {g : α → β} : ∀ (l : List α), (∀ x ∈ l, f x = some (g x)) → l.mapM f = some (l.map g)
  | [], _ => by simp
  | x :: l, h => by
    rw [List.mapM_cons, h x (by simp), mapM_all l fun y hy => h y (by simp [hy])]
    rfl
theorem flat_range {α β : Type} (f : α → β) (d : α) : ∀ (x : List α), ((List.range x.length).map fun i => [f (x.getD i d)]).flatten = x.map f := by
  intro x
  have : ((List.range x.length).map fun i => [f (x.getD i d)]).flatten = (List.range x.length).map fun i => f (x.getD i d) := by
    generalize List.range x.length = r
    induction r with
    | nil => rfl
    | cons a r ih => simp only [List.map_cons, List.flatten_cons, ih, List.cons_append, List.nil_append]
  rw [this]
  refine List.ext_getElem (by simp) fun i h1 h2 => ?_
  simp only [List.length_map] at h2
  simp only [List.getElem_map, List.getElem_range, List.getD_eq_getElem?_getD, List.getElem?_eq_getElem h2, Option.getD_some]
theorem aggLits_bvs {P : Program} {t e : TypeId} {n w : Nat} {q : IntKind} (hu : P.underlying t = some (.array n e)) (he : P.underlying e = some (.int q)) (hce : P.cellsOf e = 1) (hct : P.cellsOf t = n)
    (hw : ∀ b : BitVec w, (Lit.int q (b.toNat : Int)).wf = true) {x : List (BitVec w)} (hx : x.length = n) : aggLits P t (bvs q x) = some (x.map fun b => Lit.int q (b.toNat : Int)) := by
  have hf : (Value.agg (x.map fun b => Value.int q (b.toNat : Int)).toArray).formed P t = true := by
    simp only [Value.formed, hu, List.size_toArray, List.length_map, hx, hct, beq_self_eq_true]
  simp only [aggLits, avVals_bvs, Option.bind_some, hf, if_true]
  unfold Program.keyLits
  simp only [hu, List.length_map, hx, hct, if_true, hce, Nat.mul_one]
  rw [mapM_all (g := fun i => [Lit.int q ((x.getD i 0).toNat : Int)])]
  · simp only [Option.map_some]
    rw [← hx, flat_range (fun b : BitVec w => Lit.int q (b.toNat : Int))]
  · intro i hi
    rw [List.mem_range, ← hx] at hi
    have e1 : ((x.map fun b => Value.int q (b.toNat : Int)).drop i).take 1 = [Value.int q ((x.getD i 0).toNat : Int)] := by
      rw [← List.map_drop, ← List.map_take, List.drop_eq_getElem_cons hi, List.take_succ_cons, List.take_zero, List.map_cons, List.map_nil, List.getD_eq_getElem?_getD, List.getElem?_eq_getElem hi]
      rfl
    rw [e1]
    unfold Program.keyLits
    simp only [he, hw, and_self, if_true]
theorem wf_bv8 (b : BitVec 8) : (Lit.int .u8 (b.toNat : Int)).wf = true := by
  have := b.isLt
  simp [Lit.wf, IntKind.min, IntKind.max, IntKind.signed, IntKind.bits]
  omega
theorem wf_bv32 (b : BitVec 32) : (Lit.int .u32 (b.toNat : Int)).wf = true := by
  have := b.isLt
  simp [Lit.wf, IntKind.min, IntKind.max, IntKind.signed, IntKind.bits]
  omega
theorem wf_int64 {n : Int} (h1 : -9223372036854775808 ≤ n) (h2 : n < 9223372036854775808) : (Lit.int .i64 n).wf = true := by
  simp [Lit.wf, IntKind.min, IntKind.max, IntKind.signed, IntKind.bits]
  omega
theorem memSame_slf : ∀ {m : Mem}, (m.map fun p => p.1).Nodup → memSame m m := by
  have key : ∀ (m0 m : Mem), (∀ p ∈ m, look m0 p.1 = some p.2) → memSame m0 m := by
    intro m0 m
    induction m with
    | nil => intro _; trivial
    | cons p r ih => intro h; exact ⟨h p (List.mem_cons_self ..), ih fun q hq => h q (List.mem_cons_of_mem _ hq)⟩
  intro m h
  refine key m m ?_
  induction m with
  | nil => intro p hp; cases hp
  | cons q r ih =>
    obtain ⟨k, o⟩ := q
    simp only [List.map_cons, List.nodup_cons] at h
    intro p hp
    rcases List.mem_cons.1 hp with rfl | hp
    · simp [look]
    · have hne : k ≠ p.1 := fun e => h.1 (by rw [e]; exact List.mem_map_of_mem hp)
      simp only [look]
      rw [if_neg hne]
      exact ih h.2 p hp
theorem Le.sameN {t t' : Slots} {m : Mem} {nx : Nat} (hs : slotsSame t t') (hd : (m.map fun p => p.1).Nodup) : ∃ l, Le 0 l (fun _ => true) t m nx t' m nx :=
  Le.sameT (Nat.zero_le _) hs (memSame_slf hd) hd
end Go.Eng
end
section
/- The engine, part 17: what a call left is held fast, and read only from then on. Own work. -/
set_option linter.unusedVariables false
set_option linter.unusedSimpArgs false
namespace Go.Eng
open Go

section
variable {P : Program} {w0 w : World} {FP : Nat → Prop} {wr rd : Nat → Bool} {m : Mem} {nx : Nat} {H : RO} {B : Names} {N : Nat} {t : Slots} {a : Act}
/-- a call whose result is held fast -/
theorem CallOk.ro1 {g : FuncId} {args0 args : List AV} {K R : Kv} (h : CallOk P g args0 (fun _ => true) [] 0 R) (ha : argsx m [] (rf [] nx 0) args args0) {V : AV}
    (hR : ∀ v m' nx', R v m' nx' → noRo v = true ∧ noRoM m' = true ∧ ((m' = [] ∧ nx' = 0 ∧ fzA none (renA (fun n => n + nx) v) = V) ∨
      ∃ l ty, m' = [(0, .cells l ty)] ∧ nx' = 1 ∧ fzA (some (nx, renL (fun n => n + nx) l)) (renA (fun n => n + nx) v) = V)) (hK : K V m (nx + 1)) : CallG true P g args wr m nx K := by
  intro w0 FP H B w vs hi hd
  have h1 : CallG false P g args wr m nx fun v m' nx' => (m' = m ∧ nx' = nx ∧ fzA none v = V) ∨ ∃ l ty, m' = (nx, .cells l ty) :: m ∧ nx' = nx + 1 ∧ fzA (some (nx, l)) v = V := by
    refine h.more ha fun v m' nx' hr => ?_
    obtain ⟨g1, g2, g3⟩ := hR v m' nx' hr
    refine ⟨g1, g2, ?_⟩
    rcases g3 with ⟨rfl, rfl, e⟩ | ⟨l, ty, rfl, rfl, e⟩
    · exact .inl ⟨rfl, rfl, e⟩
    · refine .inr ⟨_, ty, ?_, rfl, e⟩
      simp only [renM, renO, Nat.zero_add, List.cons_append, List.nil_append]
  refine (h1 w0 FP H B w vs hi hd).mono fun e w' he => ?_
  obtain ⟨v, av, m', nx', B', H', rfl, hH, hi', hx', hdv, hr⟩ := he
  rcases hr with ⟨rfl, rfl, e⟩ | ⟨l, ty, rfl, rfl, e⟩
  · refine ⟨v, V, m', nx' + 1, B', H', rfl, (fun h => by cases h), hi'.bump, hx', ?_, hK⟩
    rw [← e]
    exact fz_den (o := none) (Ext.refl _ _) (fun k off len cap u hd => by simpa only [fzA] using hd) av hdv
  · obtain ⟨H2, hx2, hi2, hd2⟩ := freeze hi' (n := nx) (l := l) (ty := ty) (by simp [look]) (hi.wrn nx (Nat.le_refl _))
    refine ⟨v, V, m, nx + 1, B', H2, rfl, (fun h => by cases h), hi2.congr fun k => ?_, hx'.trans hx2, ?_, hK⟩
    · by_cases hk : nx = k
      · subst hk
        rw [look_del_same]
        cases hl : look m nx with
        | none => rfl
        | some o => have := hi.lt_nx hl; omega
      · rw [look_del_other hk]
        simp only [look, if_neg hk]
    · rw [← e]; exact hd2 av v hdv
/-- words that are answered: nil, or a slice at its row's begin -/
def Rets (F : AV → AV) (k : IntKind) {w : Nat} (x : List (BitVec w)) (ty : TypeId) : Kv := fun v m nx =>
  (x = [] ∧ v = F .nils ∧ m = [] ∧ nx = 0) ∨ ∃ (cap : Nat) (sp : List Value), v = F (.sl 0 0 x.length cap) ∧ m = [(0, .cells (bvs k x ++ sp.map AV.val) ty)] ∧ nx = 1
theorem CallOk.bytes {F : AV → AV} {k : IntKind} {w : Nat} {x : List (BitVec w)} {ty : TypeId} {g : FuncId} {args0 args : List AV} {K : Kv} (h : CallOk P g args0 (fun _ => true) [] 0 (Rets F k x ty)) (ha : argsx m [] (rf [] nx 0) args args0)
    (hF1 : ∀ o s, fzA o (F s) = F (fzA o s)) (hF2 : ∀ f s, renA f (F s) = F (renA f s)) (hF3 : ∀ s, noRo (F s) = noRo s)
    (hK : K (F (.ro x.length (bvs k x))) m (nx + 1)) : CallG true P g args wr m nx K := by
  refine h.ro1 ha (V := F (.ro x.length (bvs k x))) ?_ hK
  rintro v m' nx' (⟨rfl, rfl, rfl, rfl⟩ | ⟨cap, sp, rfl, rfl, rfl⟩)
  · exact ⟨by rw [hF3]; rfl, rfl, .inl ⟨rfl, rfl, by rw [hF2, hF1]; rfl⟩⟩
  · refine ⟨by rw [hF3]; rfl, by simp only [noRoM, noRoO, noRoL_vals', Bool.and_self], .inr ⟨_, ty, rfl, rfl, ?_⟩⟩
    rw [hF2, hF1]
    simp only [renA, fzA, Nat.zero_add, if_true, renL_vals', List.drop_zero]
    rw [List.take_append_of_le_length (by rw [bvs_length]; exact Nat.le_refl _), bvs_take, List.take_length]
end
end Go.Eng
end
section
/- The engine, part 18: bytes that are appended to in a loop, nil at first. Own work. -/
set_option linter.unusedVariables false
set_option linter.unusedSimpArgs false
namespace Go.Eng
open Go

theorem look_hd {α : Type} (n : Nat) (x : α) (r : List (Nat × α)) : look ((n, x) :: r) n = some x := by simp [look]
section
variable {P : Program} {wr : Nat → Bool} {k : IntKind} {w : Nat}
mutual
/-- no names in it -/
def flatro : AV → Bool
  | .ptr _ _ => false
  | .sl _ _ _ _ => false
  | .map _ => false
  | .ro _ xs => flatroL xs
  | .rop xs => flatroL xs
  | .fn _ a b => flatroL a && flatroL b
  | .iface _ v => flatro v
  | .agg l => flatroL l
  | .tup l => flatroL l
  | _ => true
def flatroL : List AV → Bool
  | [] => true
  | x :: r => flatro x && flatroL r
end
mutual
theorem flatro_ren {f : Nat → Nat} : ∀ {v : AV}, flatro v = true → renA f v = v
  | .ptr _ _, h => by simp [flatro] at h
  | .sl _ _ _ _, h => by simp [flatro] at h
  | .map _, h => by simp [flatro] at h
  | .ro _ xs, h => by simp only [flatro] at h; simp only [renA, flatroL_ren h]
  | .rop xs, h => by simp only [flatro] at h; simp only [renA, flatroL_ren h]
  | .fn _ a b, h => by simp only [flatro, Bool.and_eq_true] at h; simp only [renA, flatroL_ren h.1, flatroL_ren h.2]
  | .iface _ v, h => by simp only [flatro] at h; simp only [renA, flatro_ren h]
  | .agg l, h => by simp only [flatro] at h; simp only [renA, flatroL_ren h]
  | .tup l, h => by simp only [flatro] at h; simp only [renA, flatroL_ren h]
  | .bool _, _ => rfl
  | .int _ _, _ => rfl
  | .str _, _ => rfl
  | .nilp, _ => rfl
  | .nils, _ => rfl
  | .nilf, _ => rfl
  | .nilm, _ => rfl
  | .nili, _ => rfl
  | .val _, _ => rfl
theorem flatroL_ren {f : Nat → Nat} : ∀ {l : List AV}, flatroL l = true → renL f l = l
  | [], _ => rfl
  | x :: r, h => by
    simp only [flatroL, Bool.and_eq_true] at h
    simp only [renL, flatro_ren h.1, flatroL_ren h.2]
end
theorem flatroL_bvs (k : IntKind) {w : Nat} (l : List (BitVec w)) : flatroL (bvs k l) = true := by
  induction l with
  | nil => rfl
  | cons x r ih => simp only [bvs_cons, flatroL, ih, Bool.and_true]; rfl
theorem flatroL_ints (k : IntKind) (l : List Int) : flatroL (ints k l) = true := by
  induction l with
  | nil => rfl
  | cons x r ih => simp only [ints_cons, flatroL, ih, Bool.and_true]; rfl
/-- a row of words that was appended to, and nothing else: nil, or a slice at its row's begin -/
def ApI (k : IntKind) (ty : TypeId) {w : Nat} (X : List (BitVec w)) (x : AV × Mem × Nat) : Prop :=
  (X = [] ∧ x = (.nils, [], 0)) ∨ ∃ (cap : Nat) (sp : List Value), x = (.sl 0 0 X.length cap, [(0, .cells (bvs k X ++ sp.map AV.val) ty)], 1) ∧ X.length + sp.length = cap ∧ cap ≤ maxI
theorem ApI.nil (k : IntKind) (ty : TypeId) : ApI k ty ([] : List (BitVec w)) (.nils, [], 0) := .inl ⟨rfl, rfl⟩
theorem ApI.some {k : IntKind} {ty : TypeId} {X : List (BitVec w)} {cap : Nat} {sp : List Value} (h1 : X.length + sp.length = cap) (h2 : cap ≤ maxI) : ApI k ty X (.sl 0 0 X.length cap, [(0, .cells (bvs k X ++ sp.map AV.val) ty)], 1) := .inr ⟨cap, sp, rfl, h1, h2⟩
theorem appk_ap {ty bt : Nat} {X y : List (BitVec w)} {x : AV × Mem × Nat} (h : ApI k ty X x) {m : Mem} {nx : Nat} {K : Kv} (hm : ∀ o, look x.2.1 0 = some o → look m 0 = some o) (hw : ∀ n, wr n = true)
    (hy : 0 < y.length) (hb : 0 < bt) (hl : (X.length + y.length) * bt ≤ 140737488355328)
    (hK : ∀ (cap : Nat) (sp : List Value) (m3 : Mem), (X ++ y).length + sp.length = cap → cap ≤ maxI → K (.sl nx 0 (X.length + y.length) cap) ((nx, .cells (bvs k (X ++ y) ++ sp.map AV.val) ty) :: m3) (nx + 1)) :
    appk x.1 m nx wr ty 1 bt (y.length, bvs k y) K := by
  rcases h with ⟨rfl, rfl⟩ | ⟨cap, sp, rfl, h1, h2⟩
  · refine appk_nils hb (by simpa using hl) (fun e => by rw [e] at hy; simp at hy) fun _ cap' sp' c1 c2 => ?_
    have := hK cap' sp' m (by simpa using c1) c2
    simpa using this
  · exact appk_bvs (hm _ (by simp [look])) (hw 0) h1 h2 hb hl fun cap' sp' c1 c2 => by rw [List.length_append]; exact hK cap' sp' _ c1 c2
theorem Fin.ap {ty : TypeId} {X : List (BitVec w)} {x : AV × Mem × Nat} (h : ApI k ty X x) (F : AV → AV) (hF : ∀ f s, renA f (F s) = F (renA f s)) (hw : ∀ n, wr n = true) : Fin 0 wr x.2.1 x.2.2 (Rets F k X ty) (F x.1) := by
  rcases h with ⟨rfl, rfl⟩ | ⟨cap, sp, rfl, h1, h2⟩
  · exact Fin.flatv hw (fun f => by rw [hF]; rfl) (.inl ⟨rfl, rfl, rfl, rfl⟩)
  · refine ⟨[(0, 0)], F (.sl 0 0 X.length cap), [(0, .cells (bvs k X ++ sp.map AV.val) ty)], 1, ⟨rfl, by decide⟩, by rw [hF]; rfl, ⟨by simp only [renO, renL_vals']; rfl, rfl, trivial⟩, by simp [injOn], (fun n e => by rw [hw] at e; cases e), .inr ⟨cap, sp, rfl, rfl, rfl⟩⟩
/-- the end, where the slice has any name -/
theorem Fin.sl {ty : TypeId} {X : List (BitVec w)} {m : Mem} {n nx cap len : Nat} {sp : List Value} (hl : len = X.length) (F : AV → AV) (hF : ∀ f s, renA f (F s) = F (renA f s)) (hw : ∀ n, wr n = true) (hn : look m n = some (.cells (bvs k X ++ sp.map AV.val) ty)) :
    Fin 0 wr m nx (Rets F k X ty) (F (.sl n 0 len cap)) := by
  subst hl
  refine ⟨[(0, n)], F (.sl 0 0 X.length cap), [(0, .cells (bvs k X ++ sp.map AV.val) ty)], 1, ⟨rfl, by decide⟩, by rw [hF]; rfl, ⟨by simp only [renO, renL_vals']; exact hn, by rw [hw, hw], trivial⟩, by simp [injOn], (fun n e => by rw [hw] at e; cases e), .inr ⟨cap, sp, rfl, rfl, rfl⟩⟩
theorem Fin.nilv {ty : TypeId} {m : Mem} {nx : Nat} (F : AV → AV) (hF : ∀ f s, renA f (F s) = F (renA f s)) (hw : ∀ n, wr n = true) : Fin 0 wr m nx (Rets F k ([] : List (BitVec w)) ty) (F .nils) :=
  Fin.flatv hw (fun f => by rw [hF]; rfl) (.inl ⟨rfl, rfl, rfl, rfl⟩)
/-- from what was appended to, to the next round -/
theorem Le.ap {ty : TypeId} {X : List (BitVec w)} {t t' : Slots} {m : Mem} {n nx s cap len : Nat} {sp : List Value} (hl : len = X.length) (hn : look m n = some (.cells (bvs k X ++ sp.map AV.val) ty)) (hs : look t s = some (.sl n 0 len cap))
    (ht : slotsSame t t') (hf : t'.all (fun p => flatro p.2) = true) : ∃ l, Le 0 l (fun _ => true) t m nx ((s, .sl 0 0 X.length cap) :: t') [(0, .cells (bvs k X ++ sp.map AV.val) ty)] 1 := by
  subst hl
  refine Le.one (n' := n) ⟨by rw [hs]; rfl, ?_⟩ (by rw [hn]; simp only [renO, renL_vals'])
  induction t' with
  | nil => trivial
  | cons p r ih =>
    obtain ⟨q, v⟩ := p
    simp only [List.all_cons, Bool.and_eq_true] at hf
    obtain ⟨h1, h2⟩ := ht
    exact ⟨by rw [flatro_ren hf.1]; exact h1, ih h2 hf.2⟩
end
end Go.Eng
end
section
/- The engine, part 28: small laws of calls and ends. Own work. -/
set_option linter.unusedVariables false
set_option linter.unusedSimpArgs false
namespace Go.Eng
open Go
theorem CallG.weak {fz : Bool} {P : Program} {g : FuncId} {args : List AV} {wr : Nat → Bool} {m : Mem} {nx : Nat} {K K' : Kv} (h : CallG fz P g args wr m nx K) (hk : ∀ v m nx, K v m nx → K' v m nx) : CallG fz P g args wr m nx K' := by
  intro w0 FP H B w vs hi hd
  refine (h w0 FP H B w vs hi hd).mono fun e w' he => ?_
  obtain ⟨v, av, m', nx', B', H', h1, h2, h3, h4, h5, h6⟩ := he
  exact ⟨v, av, m', nx', B', H', h1, h2, h3, h4, h5, hk _ _ _ h6⟩
theorem CallG.any {fz : Bool} {P : Program} {g : FuncId} {args : List AV} {wr : Nat → Bool} {m : Mem} {nx : Nat} {K : Kv} (h : CallG false P g args wr m nx K) : CallG fz P g args wr m nx K := by
  intro w0 FP H B w vs hi hd
  refine (h w0 FP H B w vs hi hd).mono fun e w' he => ?_
  obtain ⟨v, av, m', nx', B', H', h1, h2, h3⟩ := he
  exact ⟨v, av, m', nx', B', H', h1, fun _ => h2 rfl, h3⟩
theorem Fin.keep {nf nx : Nat} {m m0 : Mem} {v : AV} {K : Kv} (hle : nf ≤ nx) (hm : memSame m m0) (hd : (m0.map fun p => p.1).Nodup) (h : K v m0 nx) : Fin nf (fun _ => true) m nx K v :=
  ⟨[], v, m0, nx, ⟨rfl, hle⟩, (renA_id (rf_id rfl) v).symm, memSame_le (rf_id rfl) hm, injOn_id (rf_id rfl) hd, (fun n e => by cases e), h⟩
theorem Fin.keepW {nf nx : Nat} {wr : Nat → Bool} {m m0 : Mem} {v : AV} {K : Kv} (hle : nf ≤ nx) (hm : memSame m m0) (hd : (m0.map fun p => p.1).Nodup) (hk : ∀ n, wr n = false → ∃ o, look m0 n = some o) (h : K v m0 nx) : Fin nf wr m nx K v :=
  ⟨[], v, m0, nx, ⟨rfl, hle⟩, (renA_id (rf_id rfl) v).symm, memSame_le (rf_id rfl) hm, injOn_id (rf_id rfl) hd, hk, h⟩
/-- a contract that holds nothing fast, and leaves new objects -/
theorem CallG.newE {fz : Bool} {P : Program} {g : FuncId} {args0 args : List AV} {wr : Nat → Bool} {m : Mem} {nx : Nat} {K R : Kv} (h : CallG false P g args0 (fun _ => true) [] 0 R)
    (ha : args = renL (fun n => n + nx) args0) (hK : ∀ v m' nx', R v m' nx' → K (renA (fun n => n + nx) v) (renM (fun n => n + nx) m' ++ m) (nx + nx')) : CallG fz P g args wr m nx K := by
  refine h.useE [] rfl trivial List.nodup_nil rfl (fun _ _ => rfl) (fun _ e => by cases e) (by rw [rf_zero]; exact ha) ?_
  intro v m' nx' hR
  rw [rf_zero]
  exact ⟨Nat.zero_le _, by simpa only [List.map_nil, delAll, Nat.sub_zero] using hK v m' nx' hR⟩
/-- a call that answers its second argument -/
theorem CallG.retA {fz : Bool} {P : Program} {g : FuncId} {a a0 x : AV} {wr : Nat → Bool} {m : Mem} {nx : Nat} {K : Kv} (h : ∀ u : Value, CallOk P g [a0, .val u] (fun _ => true) [] 0 fun v m nx => v = .val u ∧ m = [] ∧ nx = 0)
    (ha : argx m [] (rf [] nx 0) a a0) (hK : K x m nx) : CallG fz P g [a, x] wr m nx K := by
  intro w0 FP H B w vs hi hd
  have hd' := hd
  simp only [DenL] at hd'
  obtain ⟨v0, s, rfl, h0, u, s', rfl, hu, hs⟩ := hd'
  have hc : CallG false P g [a, .val u] wr m nx (fun v m' nx' => v = .val u ∧ m' = m ∧ nx' = nx) := (h u).flatv ⟨ha, rfl, trivial⟩ (fun _ => rfl) rfl ⟨rfl, rfl, rfl⟩
  refine (hc w0 FP H B w _ hi (by simp only [DenL, Den]; exact ⟨v0, _, rfl, h0, u, _, rfl, rfl, hs⟩)).mono fun e w' he => ?_
  obtain ⟨v, av, m', nx', B', H', rfl, hH, hi', hx', hdv, rfl, rfl, rfl⟩ := he
  have e : v = u := by simpa only [Den] using hdv
  subst e
  exact ⟨v, x, _, _, B', H', rfl, fun _ => hH rfl, hi', hx', hu.mono hx', hK⟩
/-- a contract that tells a value alone, and holds nothing fast -/
theorem CallG.flat0 {fz : Bool} {P : Program} {g : FuncId} {args0 args : List AV} {wr : Nat → Bool} {m : Mem} {nx : Nat} {K : Kv} {V : AV} (h : CallG false P g args0 (fun _ => true) [] 0 fun v m nx => v = V ∧ m = [] ∧ nx = 0)
    (ha : argsx m [] (rf [] nx 0) args args0) (hf : ∀ f, renA f V = V) (hn : noRo V = true) (hK : K V m nx) : CallG fz P g args wr m nx K := CallOk.flatv (CallG.any h) ha hf hn hK
/-- the same memory, told in another order -/
theorem CallG.congr {fz : Bool} {P : Program} {g : FuncId} {args : List AV} {wr : Nat → Bool} {m m0 : Mem} {nx : Nat} {K : Kv} (h : CallG fz P g args wr m0 nx K) (hm : ∀ k, look m0 k = look m k) : CallG fz P g args wr m nx K :=
  fun w0 FP H B w vs hi hd => h w0 FP H B w vs (hi.congr hm) hd
end Go.Eng
end
section
/- The engine, part 29: an object with a slice of bytes that grows. Own work. -/
set_option linter.unusedVariables false
set_option linter.unusedSimpArgs false
namespace Go.Eng
open Go

/-- a kind of object that holds a slice of bytes: what else it holds is told by a state -/
structure SlT where
  σ : Type
  out : σ → List (BitVec 8)
  obj : AV → σ → AObj
  ren : ∀ f o s, renO f (obj o s) = obj (renA f o) s
def rowO (X : List (BitVec 8)) (sp : List Value) : AObj := .cells (bvs .u8 X ++ sp.map AV.val) 5
theorem rowO_ren (f : Nat → Nat) (X : List (BitVec 8)) (sp : List Value) : renO f (rowO X sp) = rowO X sp := by simp only [rowO, renO, renL_vals']
/-- how it lies at a contract's begin: the object is 0, its row, if any, 1 -/
def SlT.Start (T : SlT) (s : T.σ) (x : AV × Mem × Nat) : Prop :=
  (T.out s = [] ∧ x = (.nils, [], 1)) ∨ ∃ (cap : Nat) (sp : List Value), x = (.sl 1 0 (T.out s).length cap, [(1, rowO (T.out s) sp)], 2) ∧ (T.out s).length + sp.length = cap ∧ cap ≤ maxI
/-- how it lies then: its row is as it was, or a new one -/
def SlT.C (T : SlT) (V : AV) (s s' : T.σ) (x : AV × Mem × Nat) : Kv := fun v m nx =>
  v = V ∧ ((T.out s' = T.out s ∧ m = (0, T.obj x.1 s') :: x.2.1 ∧ nx = x.2.2) ∨
    ∃ (cap : Nat) (sp : List Value), (T.out s').length + sp.length = cap ∧ cap ≤ maxI ∧ m = [(0, T.obj (.sl x.2.2 0 (T.out s').length cap) s'), (x.2.2, rowO (T.out s') sp)] ∧ nx = x.2.2 + 1)
def SlT.Ok (T : SlT) (P : Program) (g : FuncId) (args0 : List AV) (V : AV) (s s' : T.σ) : Prop :=
  ∀ x, T.Start s x → CallG false P g (.ptr 0 0 :: args0) (fun _ => true) ((0, T.obj x.1 s) :: x.2.1) x.2.2 (T.C V s s' x)
section
variable {T : SlT} {P : Program} {fz : Bool} {g : FuncId} {args0 : List AV} {V : AV} {s s' : T.σ} {wr : Nat → Bool} {m : Mem} {nx a : Nat} {K : Kv}
theorem SlT.useN (h : T.Ok P g args0 V s s') (hf : ∀ f, renL f args0 = args0) (hV : ∀ f, renA f V = V) (h0 : look m a = some (T.obj .nils s)) (hw : wr a = true) (hx : T.out s = [])
    (hK1 : T.out s' = [] → K V ((a, T.obj .nils s') :: del m a) nx)
    (hK2 : ∀ cap sp, (T.out s').length + sp.length = cap → cap ≤ maxI → K V ((a, T.obj (.sl nx 0 (T.out s').length cap) s') :: (nx, rowO (T.out s') sp) :: del m a) (nx + 1)) : CallG fz P g (.ptr a 0 :: args0) wr m nx K := by
  have r0 : rf [(0, a)] nx 1 0 = a := by simp [rf, look]
  have r1 : rf [(0, a)] nx 1 1 = nx := by simp [rf, look]
  refine (h (.nils, [], 1) (.inl ⟨hx, rfl⟩)).useE [(0, a)] rfl ⟨by rw [r0, h0, T.ren]; rfl, by rw [r0]; exact fun _ => hw, trivial⟩ (by simp [injOn]) rfl (fun _ _ => rfl) (fun _ e => by cases e) (by simp only [renL, renA, r0, hf]) ?_
  rintro v m' nx' ⟨rfl, ⟨e1, rfl, rfl⟩ | ⟨cap, sp, c1, c2, rfl, rfl⟩⟩
  · refine ⟨Nat.le_refl _, ?_⟩
    rw [hV]
    have := hK1 (e1.trans hx)
    simpa only [renM, T.ren, renA, r0, List.map_cons, List.map_nil, delAll, List.cons_append, List.nil_append, Nat.sub_self, Nat.add_zero] using this
  · refine ⟨Nat.le_succ _, ?_⟩
    rw [hV]
    simpa only [renM, T.ren, rowO_ren, renA, r0, r1, List.map_cons, List.map_nil, delAll, List.cons_append, List.nil_append, Nat.add_sub_cancel_left] using hK2 cap sp c1 c2
theorem SlT.useS (h : T.Ok P g args0 V s s') (hf : ∀ f, renL f args0 = args0) (hV : ∀ f, renA f V = V) {n cap : Nat} {sp : List Value} (hna : a ≠ n) (h0 : look m a = some (T.obj (.sl n 0 (T.out s).length cap) s)) (h1 : look m n = some (rowO (T.out s) sp))
    (hc1 : (T.out s).length + sp.length = cap) (hc2 : cap ≤ maxI) (hw : wr a = true) (hwn : wr n = true)
    (hK1 : T.out s' = T.out s → K V ((a, T.obj (.sl n 0 (T.out s).length cap) s') :: (n, rowO (T.out s) sp) :: del (del m a) n) nx)
    (hK2 : ∀ cap sp, (T.out s').length + sp.length = cap → cap ≤ maxI → K V ((a, T.obj (.sl nx 0 (T.out s').length cap) s') :: (nx, rowO (T.out s') sp) :: del (del m a) n) (nx + 1)) : CallG fz P g (.ptr a 0 :: args0) wr m nx K := by
  have r0 : rf [(0, a), (1, n)] nx 2 0 = a := by simp [rf, look]
  have r1 : rf [(0, a), (1, n)] nx 2 1 = n := by simp [rf, look]
  have r2 : rf [(0, a), (1, n)] nx 2 2 = nx := by simp [rf, look]
  refine (h (.sl 1 0 (T.out s).length cap, [(1, rowO (T.out s) sp)], 2) (.inr ⟨cap, sp, rfl, hc1, hc2⟩)).useE [(0, a), (1, n)] rfl ⟨by rw [r0, h0, T.ren]; simp only [renA, r1], by rw [r0]; exact fun _ => hw, by rw [r1, h1, rowO_ren], by rw [r1]; exact fun _ => hwn, trivial⟩
    (by simp [injOn, r0, r1, hna]) rfl (fun _ _ => rfl) (fun _ e => by cases e) (by simp only [renL, renA, r0, hf]) ?_
  rintro v m' nx' ⟨rfl, ⟨e1, rfl, rfl⟩ | ⟨cap', sp', c1, c2, rfl, rfl⟩⟩
  · refine ⟨Nat.le_refl _, ?_⟩
    rw [hV]
    simpa only [renM, T.ren, rowO_ren, renA, r0, r1, List.map_cons, List.map_nil, delAll, List.cons_append, List.nil_append, Nat.sub_self, Nat.add_zero] using hK1 e1
  · refine ⟨Nat.le_succ _, ?_⟩
    rw [hV]
    simpa only [renM, T.ren, rowO_ren, renA, r0, r1, r2, List.map_cons, List.map_nil, delAll, List.cons_append, List.nil_append, Nat.add_sub_cancel_left] using hK2 cap' sp' c1 c2
/-- the end of such a contract: its row is as it was -/
theorem SlT.finU {x : AV × Mem × Nat} (hx : T.Start s x) (hs : T.out s' = T.out s) (h0 : look m 0 = some (T.obj x.1 s')) (h1 : ∀ p ∈ x.2.1, look m p.1 = some p.2) (hn : x.2.2 = nx) : Fin x.2.2 (fun _ => true) m nx (T.C V s s' x) V := by
  subst hn
  refine Fin.keep (m0 := (0, T.obj x.1 s') :: x.2.1) (Nat.le_refl _) ⟨h0, ?_⟩ ?_ ⟨rfl, .inl ⟨hs, rfl, rfl⟩⟩
  · rcases hx with ⟨_, rfl⟩ | ⟨cap, sp, rfl, _, _⟩
    · trivial
    · exact ⟨h1 _ (List.mem_cons_self ..), trivial⟩
  · rcases hx with ⟨_, rfl⟩ | ⟨cap, sp, rfl, _, _⟩ <;> simp
/-- the same, where names were spent -/
theorem SlT.finU' {x : AV × Mem × Nat} (hx : T.Start s x) (hs : T.out s' = T.out s) (hV : ∀ f, renA f V = V) (h0 : look m 0 = some (T.obj x.1 s')) (h1 : ∀ p ∈ x.2.1, look m p.1 = some p.2) : Fin x.2.2 (fun _ => true) m nx (T.C V s s' x) V := by
  have f0 : rf [] nx x.2.2 0 = 0 := by
    rcases hx with ⟨_, rfl⟩ | ⟨cap, sp, rfl, _, _⟩ <;> simp [rf, look]
  refine ⟨[], V, (0, T.obj x.1 s') :: x.2.1, x.2.2, ⟨rfl, Nat.le_refl _⟩, (hV _).symm, ⟨?_, rfl, ?_⟩, ?_, (fun n e => by cases e), ⟨rfl, .inl ⟨hs, rfl, rfl⟩⟩⟩
  · rw [f0, h0, T.ren]
    rcases hx with ⟨_, rfl⟩ | ⟨cap, sp, rfl, _, _⟩
    · rfl
    · simp [renA, rf, look]
  · rcases hx with ⟨_, rfl⟩ | ⟨cap, sp, rfl, _, _⟩
    · trivial
    · have f1 : rf [] nx 2 1 = 1 := by simp [rf, look]
      exact ⟨by rw [f1, h1 _ (List.mem_cons_self ..), rowO_ren], rfl, trivial⟩
  · rcases hx with ⟨_, rfl⟩ | ⟨cap, sp, rfl, _, _⟩ <;> simp [injOn, rf, look]
/-- the end of such a contract: it has a new row, whatever its name is -/
theorem SlT.finC {x : AV × Mem × Nat} (hx : T.Start s x) (hV : ∀ f, renA f V = V) {n cap : Nat} {sp : List Value} (hn : n ≠ 0) (h0 : look m 0 = some (T.obj (.sl n 0 (T.out s').length cap) s')) (h1 : look m n = some (rowO (T.out s') sp)) (c1 : (T.out s').length + sp.length = cap) (c2 : cap ≤ maxI) :
    Fin x.2.2 (fun _ => true) m nx (T.C V s s' x) V := by
  have h2 : 0 < x.2.2 := by rcases hx with ⟨_, rfl⟩ | ⟨cap, sp, rfl, _, _⟩ <;> simp
  have f0 : rf [(x.2.2, n)] nx (x.2.2 + 1) 0 = 0 := by
    have : x.2.2 ≠ 0 := by omega
    simp [rf, look, this]
  have f1 : rf [(x.2.2, n)] nx (x.2.2 + 1) x.2.2 = n := by simp [rf, look]
  refine ⟨[(x.2.2, n)], V, [(0, T.obj (.sl x.2.2 0 (T.out s').length cap) s'), (x.2.2, rowO (T.out s') sp)], x.2.2 + 1, ⟨by simp, Nat.le_succ _⟩, (hV _).symm, ⟨by rw [f0, h0, T.ren]; simp only [renA, f1], rfl, by rw [f1, h1, rowO_ren], rfl, trivial⟩, ?_, (fun n e => by cases e), ⟨rfl, .inr ⟨cap, sp, c1, c2, rfl, rfl⟩⟩⟩
  simp [injOn, f0, f1, Ne.symm hn]
end
end Go.Eng
end
section
/- The engine, part 32: small lemmas on rows of bytes and on memories. Own work. -/
set_option linter.unusedVariables false
set_option linter.unusedSimpArgs false
namespace Go.Eng
open Go
theorem CallG.congrK {fz : Bool} {P : Program} {g : FuncId} {args : List AV} {wr : Nat → Bool} {m : Mem} {nx : Nat} {K : Kv} (h : CallG fz P g args wr m nx fun v m' nx' => ∃ m0, (∀ k, look m0 k = look m' k) ∧ K v m0 nx') : CallG fz P g args wr m nx K := by
  intro w0 FP H B w vs hi hd
  refine (h w0 FP H B w vs hi hd).mono fun e w' he => ?_
  obtain ⟨v, av, m', nx', B', H', h1, h2, h3, h4, h5, m0, h6, h7⟩ := he
  exact ⟨v, av, m0, nx', B', H', h1, h2, h3.congr h6, h4, h5, h7⟩
theorem look_app {α : Type} (a b : List (Nat × α)) (k : Nat) : look (a ++ b) k = (look a k).or (look b k) := by
  induction a with
  | nil => rfl
  | cons p r ih =>
    obtain ⟨n, x⟩ := p
    rw [List.cons_append, look_cons, look_cons, ih]
    split <;> rfl
theorem kp1 {o : AObj} {m : Mem} : ∀ n, decide (1 ≤ n) = false → ∃ o', look ((0, o) :: m) n = some o' := by
  intro n e
  have : n = 0 := by have := of_decide_eq_false e; omega
  subst this
  exact ⟨o, rfl⟩
theorem kp2 {o p : AObj} {m : Mem} : ∀ n, decide (2 ≤ n) = false → ∃ o', look ((0, o) :: (1, p) :: m) n = some o' := by
  intro n e
  have h := of_decide_eq_false e
  rcases n with _ | _ | n
  · exact ⟨o, rfl⟩
  · exact ⟨p, rfl⟩
  · omega
theorem kp3 {o p q : AObj} {m : Mem} : ∀ n, decide (2 ≤ n) = false → ∃ o', look ((0, o) :: (2, q) :: (1, p) :: m) n = some o' := by
  intro n e
  have h := of_decide_eq_false e
  rcases n with _ | _ | n
  · exact ⟨o, rfl⟩
  · exact ⟨p, rfl⟩
  · omega
theorem wge {a k : Nat} (h : a ≤ k) (n : Nat) (hn : k ≤ n) : decide (a ≤ n) = true := decide_eq_true (Nat.le_trans h hn)
theorem takeA' (X : List (BitVec 8)) (y : List AV) : List.take X.length (bvs .u8 X ++ y) = bvs .u8 X := by
  rw [List.take_append_of_le_length (by rw [bvs_length]; exact Nat.le_refl _), bvs_take, List.take_length]
theorem one1_bvs (k : IntKind) (X : List (BitVec 8)) : (bvs k X).all one1 = true := by
  induction X with
  | nil => rfl
  | cons q r ih => rw [bvs_cons, List.all_cons, ih]; rfl
theorem u8T (X : List (BitVec 8)) (S : List AV) : u8s (List.take X.length (bvs .u8 X ++ S)) = some (X.map fun v => UInt8.ofNat v.toNat) := by rw [takeA', u8s_bvs]
end Go.Eng
end
section
/- The engine, part 33: memories that a call reads alone, or adds to. Own work. -/
set_option linter.unusedVariables false
set_option linter.unusedSimpArgs false
namespace Go.Eng
open Go
/-- a memory that a call reads alone -/
structure Rdm (wr : Nat → Bool) (m : Mem) (nx : Nat) : Prop where
  nd : (m.map fun p => p.1).Nodup
  kp : ∀ n, wr n = false → ∃ o, look m n = some o
  wn : ∀ n, nx ≤ n → wr n = true
def Kr (V : AV) (m : Mem) (nx : Nat) : Kv := fun v m' nx' => v = V ∧ m' = m ∧ nx' = nx
theorem Rdm.fin {wr : Nat → Bool} {m : Mem} {nx : Nat} (r : Rdm wr m nx) (V : AV) : Fin nx wr m nx (Kr V m nx) V := Fin.keepW (m0 := m) (Nat.le_refl _) (memSame_slf r.nd) r.nd r.kp ⟨rfl, rfl, rfl⟩
theorem Rdm.le {wr : Nat → Bool} {m : Mem} {nx : Nat} (r : Rdm wr m nx) {t t' : Slots} (hs : slotsSame t t') : ∃ l, Le nx l wr t m nx t' m nx := Le.same (Nat.le_refl _) hs (memSame_slf r.nd) r.nd r.wn r.kp
theorem look_lt {m : Mem} {n : Nat} {o : AObj} (h : look m n = some o) : ∃ p ∈ m, p.1 = n := by
  induction m with
  | nil => cases h
  | cons p r ih =>
    obtain ⟨k, x⟩ := p
    rw [look_cons] at h
    split at h
    · rename_i e; exact ⟨(k, x), .head _, e⟩
    · obtain ⟨q, hq, e⟩ := ih h; exact ⟨q, .tail _ hq, e⟩
theorem look_ren_low (m m0 : Mem) (k n : Nat) (h : n < k) : look (renM (fun n => n + k) m ++ m0) n = look m0 n := by
  rw [look_app]
  cases he : look (renM (fun n => n + k) m) n with
  | none => rfl
  | some o =>
    obtain ⟨j, rfl⟩ := look_renM_some he
    omega
theorem look_ren_hi (m m0 : Mem) (k n : Nat) (h0 : ∀ p ∈ m0, p.1 < k) : look (renM (fun n => n + k) m ++ m0) (n + k) = (look m n).map (renO fun n => n + k) := by
  rw [look_app, look_renM (f := fun n => n + k) (fun a b e => by omega)]
  cases he : look m n with
  | some o => rfl
  | none =>
    show look m0 (n + k) = none
    cases h2 : look m0 (n + k) with
    | none => rfl
    | some o =>
      obtain ⟨p, hp, e⟩ := look_lt h2
      have := h0 p hp
      omega
theorem renM_names (f : Nat → Nat) (m : Mem) : (renM f m).map (fun p => p.1) = (m.map fun p => p.1).map f := by
  induction m with
  | nil => rfl
  | cons p r ih => obtain ⟨k, x⟩ := p; simp only [renM, List.map_cons, ih]
theorem ren_nodup {m m0 : Mem} {k : Nat} (h : (m.map fun p => p.1).Nodup) (h0 : (m0.map fun p => p.1).Nodup) (hk : ∀ p ∈ m0, p.1 < k) : ((renM (fun n => n + k) m ++ m0).map fun p => p.1).Nodup := by
  rw [List.map_append, renM_names]
  refine List.nodup_append.2 ⟨List.Pairwise.map _ (fun a b hab => by show a + k ≠ b + k; omega) h, h0, fun a ha b hb => ?_⟩
  obtain ⟨c, _, rfl⟩ := List.mem_map.1 ha
  obtain ⟨p, hp, rfl⟩ := List.mem_map.1 hb
  have := hk p hp
  show c + k ≠ p.1
  omega
theorem ren_lt {m m0 : Mem} {k nx : Nat} (h : ∀ p ∈ m, p.1 < nx) (hk : ∀ p ∈ m0, p.1 < k) : ∀ p ∈ renM (fun n => n + k) m ++ m0, p.1 < k + nx := fun p hp => by
  rcases List.mem_append.1 hp with hp | hp
  · have : p.1 ∈ (renM (fun n => n + k) m).map (fun p => p.1) := List.mem_map_of_mem hp
    rw [renM_names] at this
    obtain ⟨c, hc, e⟩ := List.mem_map.1 this
    obtain ⟨q, hq, rfl⟩ := List.mem_map.1 hc
    have := h q hq
    have e : q.1 + k = p.1 := e
    omega
  · have := hk p hp; omega
theorem rdmT {m : Mem} {nx : Nat} (h : (m.map fun p => p.1).Nodup) : Rdm (fun _ => true) m nx := ⟨h, (fun n e => by cases e), fun _ _ => rfl⟩
theorem Fin.anyv {m : Mem} {nx : Nat} {V : AV} (hf : ∀ f, renA f V = V) : Fin 0 (fun _ => true) m nx (fun v m nx => v = V ∧ m = [] ∧ nx = 0) V := Fin.flatv (fun _ => rfl) hf ⟨rfl, rfl, rfl⟩
theorem upd_upd (m : Mem) (n : Nat) (o p : AObj) : upd (upd m n o) n p = upd m n p := by
  induction m with
  | nil => rfl
  | cons x r ih =>
    obtain ⟨k, y⟩ := x
    simp only [upd]
    by_cases h : k = n
    · simp [h, upd]
    · simp [h, upd, ih]
theorem upd_names (m : Mem) (n : Nat) (o : AObj) : (upd m n o).map (fun p => p.1) = m.map fun p => p.1 := by
  induction m with
  | nil => rfl
  | cons x r ih =>
    obtain ⟨k, y⟩ := x
    simp only [upd]
    by_cases h : k = n
    · simp [h]
    · simp [h, ih]
theorem look_name {m : Mem} {n : Nat} (h : n ∉ m.map fun p => p.1) : look m n = none := by
  cases e : look m n with
  | none => rfl
  | some o =>
    obtain ⟨p, hp, rfl⟩ := look_lt e
    exact absurd (List.mem_map_of_mem hp) h
theorem Rdm.upd {wr : Nat → Bool} {m : Mem} {nx : Nat} (r : Rdm wr m nx) (a : Nat) (o : AObj) : Rdm wr (Eng.upd m a o) nx :=
  ⟨by rw [upd_names]; exact r.nd, fun n hn => by
    obtain ⟨o', ho'⟩ := r.kp n hn
    by_cases h : a = n
    · subst h; exact ⟨o, look_upd_same o ho'⟩
    · exact ⟨o', by rw [look_upd_other o h]; exact ho'⟩, r.wn⟩
theorem look_mem {m : Mem} (h : (m.map fun p => p.1).Nodup) {p : Nat × AObj} (hp : p ∈ m) : look m p.1 = some p.2 := by
  induction m with
  | nil => cases hp
  | cons q r ih =>
    obtain ⟨k, x⟩ := q
    rw [List.map_cons, List.nodup_cons] at h
    rcases List.mem_cons.1 hp with rfl | hp
    · rw [look_cons, if_pos rfl]
    · have : k ≠ p.1 := fun e => h.1 (by show k ∈ _; rw [e]; exact List.mem_map_of_mem (f := fun p : Nat × AObj => p.1) hp)
      rw [look_cons, if_neg this]
      exact ih h.2 hp
theorem memSame_all {m0 : Mem} : ∀ {m : Mem}, (∀ p ∈ m, look m0 p.1 = some p.2) → memSame m0 m
  | [], _ => trivial
  | (n, o) :: r, h => ⟨h (n, o) (.head _), memSame_all fun p hp => h p (.tail _ hp)⟩
/-- a value, and this memory; names may have been used up -/
def Ku (V : AV) (M : Mem) (nx : Nat) : Kv := fun v m' nx' => v = V ∧ m' = M ∧ nx ≤ nx'
theorem Rdm.finU {wr : Nat → Bool} {M m2 : Mem} {nx nx2 : Nat} (r : Rdm wr M nx) (hx : nx ≤ nx2) (h : ∀ p ∈ M, look m2 p.1 = some p.2) (V : AV) : Fin nx wr m2 nx2 (Ku V M nx) V :=
  Fin.keepW (m0 := M) hx (memSame_all h) r.nd r.kp ⟨rfl, rfl, hx⟩
theorem upd_lt {m : Mem} {nx : Nat} (h : ∀ p ∈ m, p.1 < nx) (a : Nat) (o : AObj) : ∀ p ∈ upd m a o, p.1 < nx := fun p hp => by
  have : p.1 ∈ (upd m a o).map fun p => p.1 := List.mem_map_of_mem hp
  rw [upd_names] at this
  obtain ⟨q, hq, e⟩ := List.mem_map.1 this
  rw [← e]; exact h q hq
theorem Rdm.up {wr : Nat → Bool} {m : Mem} {nx nx' : Nat} (r : Rdm wr m nx) (h : nx ≤ nx') : Rdm wr m nx' := ⟨r.nd, r.kp, fun n hn => r.wn n (by omega)⟩
theorem upd_self : ∀ {m : Mem} {n : Nat} {o : AObj}, look m n = some o → upd m n o = m
  | [], n, o, h => by cases h
  | (k, x) :: r, n, o, h => by
    rw [look_cons] at h
    simp only [upd]
    by_cases e : k = n
    · rw [if_pos e] at h; cases h; rw [if_pos e]
    · rw [if_neg e] at h; rw [if_neg e, upd_self h]
theorem Rdm.cons {wr : Nat → Bool} {m : Mem} {nx : Nat} (r : Rdm wr m nx) (h : ∀ p ∈ m, p.1 < nx) (o : AObj) : Rdm wr ((nx, o) :: m) (nx + 1) :=
  ⟨by
    rw [List.map_cons, List.nodup_cons]
    refine ⟨fun hm => ?_, r.nd⟩
    obtain ⟨p, hp, e⟩ := List.mem_map.1 hm
    have := h p hp
    have e : p.1 = nx := e
    omega, fun n hn => by
    obtain ⟨o', ho'⟩ := r.kp n hn
    by_cases e : nx = n
    · exact ⟨o, by rw [look_cons, if_pos e]⟩
    · exact ⟨o', by rw [look_cons, if_neg e]; exact ho'⟩, fun n hn => r.wn n (by omega)⟩
theorem Rdm.drawn {wr : Nat → Bool} {m : Mem} {nx : Nat} (r : Rdm wr m nx) (mods : List Nat) : Rdm (wrD m nx mods) m nx := by
  refine ⟨r.nd, fun n hn => ?_, fun n hn => by simp [wrD, hn]⟩
  simp only [wrD, Bool.or_eq_false_iff] at hn
  cases h : look m n with
  | none => rw [h] at hn; cases hn.2
  | some o => exact ⟨o, rfl⟩
theorem cons_lt {m : Mem} {nx : Nat} (h : ∀ p ∈ m, p.1 < nx) (o : AObj) : ∀ p ∈ (nx, o) :: m, p.1 < nx + 1 := fun p hp => by
  rcases List.mem_cons.1 hp with rfl | hp
  · exact Nat.lt_succ_self _
  · have := h p hp; omega
theorem look_none {m : Mem} {nx : Nat} (h : ∀ p ∈ m, p.1 < nx) {k : Nat} (hk : nx ≤ k) : look m k = none := by
  cases e : look m k with
  | none => rfl
  | some o =>
    obtain ⟨p, hp, rfl⟩ := look_lt e
    have := h p hp
    omega
theorem appk_cells {wr : Nat → Bool} {m : Mem} {nx : Nat} {K : Kv} {X Y : List AV} {sp : List Value} {n len cap e s bt k : Nat} (hn : look m n = some (.cells (X ++ sp.map AV.val) e)) (hw : wr n = true)
    (hX : X.length = len * s) (hs : sp.length = (cap - len) * s) (hlc : len ≤ cap) (hc : cap ≤ maxI) (hm : (len + k) * bt ≤ 140737488355328) (hb : 0 < bt)
    (hK : ∀ (cap' : Nat) (sp' : List Value), len + k ≤ cap' → cap' ≤ maxI → sp'.length = (cap' - (len + k)) * s → K (.sl nx 0 (len + k) cap') ((nx, .cells (X ++ Y ++ sp'.map AV.val) e) :: del m n) (nx + 1)) :
    appk (.sl n 0 len cap) m nx wr e s bt (k, Y) K := by
  simp only [appk]
  refine .inl ⟨trivial, hw, ?_⟩
  rw [hn]
  have h1 : len + k ≤ (len + k) * bt := Nat.le_mul_of_pos_right _ hb
  refine ⟨rfl, ?_, hc, hm, by omega, fun cap' sp' h1 h2 h3 => ?_⟩
  · rw [List.length_append, List.length_map, hX, hs, ← Nat.add_mul, show len + (cap - len) = cap by omega]
  · have := hK cap' sp' h1 h2 h3
    rwa [List.take_append_of_le_length (by omega), List.take_of_length_le (by omega)]
theorem appk_cells0 {wr : Nat → Bool} {m : Mem} {nx : Nat} {K : Kv} {Y : List AV} {e s bt k : Nat} (hm : k * bt ≤ 140737488355328) (hb : 0 < bt) (hk : 0 < k)
    (hK : ∀ (cap' : Nat) (sp' : List Value), k ≤ cap' → cap' ≤ maxI → sp'.length = (cap' - k) * s → K (.sl nx 0 k cap') ((nx, .cells (Y ++ sp'.map AV.val) e) :: m) (nx + 1)) :
    appk .nils m nx wr e s bt (k, Y) K := by
  simp only [appk]
  have h1 : k ≤ k * bt := Nat.le_mul_of_pos_right _ hb
  exact ⟨hm, by omega, fun h => by omega, fun _ => hK⟩
theorem Rdm.consN {wr : Nat → Bool} {m : Mem} {N n : Nat} (r : Rdm wr m N) (h : ∀ p ∈ m, p.1 ≠ n) (o : AObj) : Rdm wr ((n, o) :: m) N :=
  ⟨by
    rw [List.map_cons, List.nodup_cons]
    refine ⟨fun hm => ?_, r.nd⟩
    obtain ⟨p, hp, e⟩ := List.mem_map.1 hm
    exact h p hp e, fun k hk => by
    obtain ⟨o', ho'⟩ := r.kp k hk
    by_cases e : n = k
    · exact ⟨o, by rw [look_cons, if_pos e]⟩
    · exact ⟨o', by rw [look_cons, if_neg e]; exact ho'⟩, r.wn⟩
theorem del_none : ∀ {m : Mem} {n : Nat}, (∀ p ∈ m, p.1 ≠ n) → del m n = m
  | [], _, _ => rfl
  | (k, o) :: r, n, h => by
    have hk : ¬ k = n := h (k, o) (.head _)
    simp only [del, if_neg hk, del_none fun p hp => h p (.tail _ hp)]
theorem Rdm.le0 {wr : Nat → Bool} {m : Mem} {nx : Nat} (r : Rdm wr m nx) {t t' : Slots} (hs : slotsSame t t') : ∃ l, Le 0 l wr t m nx t' m nx := Le.same (Nat.zero_le _) hs (memSame_slf r.nd) r.nd r.wn r.kp
end Go.Eng
end
