/- The engine, part 30: maps whose entries bear stamps; keys are numbers, or two bytes. Own work. -/
import Derived.Test.YtmdeoikpiiambaaEng16
import Derived.DeepKeys3
set_option linter.unusedVariables false
set_option linter.unusedSimpArgs false
namespace Go.Eng
open Go Go.MapKept Go.RowKit

def noFnT (P : Program) (t : TypeId) : Bool := match P.underlying t with
  | some .bool => true
  | some (.slice _) => true
  | some (.struct fs) => fs.all fun f => !isFuncT P f.type
  | _ => false
/-- a map type: the keys' kind, the elements' type -/
def mxT (P : Program) (t : TypeId) : Option (KD × TypeId) := match P.underlying t with
  | some (.map kt et) => match P.underlying kt with
    | some (.int k) => if noFnT P et = true then some (.i k, et) else none
    | some (.array n e) => if n = 2 ∧ intT P e = some .u8 ∧ P.cellsOf e = 1 ∧ P.cellsOf kt = 2 ∧ eqAggT P kt = true then some (.b, et) else none
    | _ => none
  | _ => none
def KT (P : Program) (kt : TypeId) : KD → Prop
  | .i k => P.underlying kt = some (.int k)
  | .b => ∃ e, P.underlying kt = some (.array 2 e) ∧ P.underlying e = some (.int .u8) ∧ P.cellsOf e = 1 ∧ P.cellsOf kt = 2 ∧ eqAggT P kt = true
theorem mxT_some {P : Program} {t : TypeId} {q : KD × TypeId} (h : mxT P t = some q) : ∃ kt, P.underlying t = some (.map kt q.2) ∧ KT P kt q.1 := by
  unfold mxT at h
  split at h
  · rename_i kt et h1
    split at h
    · rename_i k h2
      split at h
      · cases h; exact ⟨kt, h1, h2⟩
      · cases h
    · rename_i n e h2
      split at h
      · rename_i hc
        obtain ⟨rfl, c1, c2, c3, c4⟩ := hc
        cases h; exact ⟨kt, h1, e, h2, intT_some c1, c2, c3, c4⟩
      · cases h
    · cases h
  · cases h
theorem u8_wf (b : BitVec 8) : (Lit.int .u8 (b.toNat : Int)).wf = true := by
  have := b.isLt
  simp [Lit.wf, IntKind.min, IntKind.max, IntKind.signed, IntKind.bits]
  omega
theorem pair_lits {P : Program} {t e : TypeId} (hu : P.underlying t = some (.array 2 e)) (he : P.underlying e = some (.int .u8)) (hce : P.cellsOf e = 1) (hct : P.cellsOf t = 2) (x y : BitVec 8) :
    (Key.b x y).val.formed P t = true ∧ P.keyLits 4 t (Key.b x y).val.cells.toList = some [Lit.int .u8 (x.toNat : Int), Lit.int .u8 (y.toNat : Int)] := by
  refine ⟨by simp [Key.val, Value.formed, hu, hct], ?_⟩
  unfold Program.keyLits
  simp only [hu, Key.val, Value.cells, List.length_cons, List.length_nil, hct, if_true, hce, Nat.mul_one, show List.range 2 = [0, 1] from rfl, List.mapM_cons, List.mapM_nil]
  have e1 : ∀ b : BitVec 8, P.keyLits 3 e [Value.int .u8 (b.toNat : Int)] = some [Lit.int .u8 (b.toNat : Int)] := fun b => by
    unfold Program.keyLits
    simp only [he, u8_wf, and_self, if_true]
  simp [e1]
section
variable {P : Program} {kt : TypeId} {kd : KD}
theorem eqK (hk : KT P kt kd) {a b : Key} (ha : a.kd = kd) (hb : b.kd = kd) (w : World) : (Op.equal kt a.val b.val).run P w = .ok (decide (a = b)) w := by
  cases kd with
  | i k =>
    cases a with
    | b _ _ => cases ha
    | i k1 z1 =>
      cases b with
      | b _ _ => cases hb
      | i k2 z2 =>
        simp only [Key.kd, KD.i.injEq] at ha hb
        rw [ha, hb]
        have hk : P.underlying kt = some (.int k) := hk
        have : (Op.equal kt (.int k z1) (.int k z2)).run P w = .ok (z1 == z2) w := by
          unfold Op.equal Op.maxDepth
          rw [Op.equalIn, Sem.run_bind, run_underlying hk]
          simp only [Result.andThen_ok, if_true, Sem.run_pure]
        rw [show (Key.i k z1).val = .int k z1 from rfl, show (Key.i k z2).val = .int k z2 from rfl, this]
        congr 1
        by_cases h : z1 = z2 <;> simp [h]
  | b =>
    obtain ⟨e, hu, he, hce, hct, hq⟩ := hk
    cases a with
    | i _ _ => cases ha
    | b x1 y1 =>
      cases b with
      | i _ _ => cases hb
      | b x2 y2 =>
        simp only [eqAggT, Bool.and_eq_true] at hq
        obtain ⟨f1, k1⟩ := pair_lits hu he hce hct x1 y1
        obtain ⟨f2, k2⟩ := pair_lits hu he hce hct x2 y2
        obtain ⟨r, hr, hi⟩ := run_equalIn_deep 9992 8 kt hq.1 w 4 4 _ _ _ _ f1 f2 k1 k2
        have : r = decide (Key.b x1 y1 = Key.b x2 y2) := by
          have h2 : ([Lit.int .u8 (x1.toNat : Int), Lit.int .u8 (y1.toNat : Int)] = [Lit.int .u8 (x2.toNat : Int), Lit.int .u8 (y2.toNat : Int)]) ↔ Key.b x1 y1 = Key.b x2 y2 := by
            simp only [List.cons.injEq, Lit.int.injEq, true_and, and_true, Key.b.injEq]
            constructor
            · rintro ⟨g1, g2⟩
              exact ⟨BitVec.eq_of_toNat_eq (by omega), BitVec.eq_of_toNat_eq (by omega)⟩
            · rintro ⟨rfl, rfl⟩; exact ⟨rfl, rfl⟩
          rw [h2] at hi
          cases r with
          | true => exact (decide_eq_true (hi.1 rfl)).symm
          | false => exact (decide_eq_false fun h => by have := hi.2 h; cases this).symm
        rw [← this]
        simpa only [Op.equal, Op.maxDepth] using hr
theorem checkK (hk : KT P kt kd) {a : Key} (ha : a.kd = kd) (em : Bool) (w : World) : (Instr.checkKey em 10000 kt a.val).run P w = .ok () w := by
  cases kd with
  | i k =>
    cases a with
    | b _ _ => cases ha
    | i k1 z1 =>
      simp only [Key.kd, KD.i.injEq] at ha
      subst ha
      exact run_checkKey (show P.underlying kt = some (.int k1) from hk) (by simp [IsKey, Key.val]) em 9999
  | b =>
    obtain ⟨e, hu, he, hce, hct, hq⟩ := hk
    cases a with
    | i _ _ => cases ha
    | b x1 y1 =>
      simp only [eqAggT, Bool.and_eq_true] at hq
      obtain ⟨f1, k1⟩ := pair_lits hu he hce hct x1 y1
      exact run_checkKey_deep em 9992 8 kt hq.1 w 4 _ _ f1 k1
/-- the place of a key: the first; behind all of them, if there is none -/
def xidx (a : Key) : List Key → Nat
  | [] => 0
  | k :: r => if k = a then 0 else xidx a r + 1
theorem xidx_le (a : Key) : ∀ l : List Key, xidx a l ≤ l.length
  | [] => Nat.le_refl _
  | k :: r => by
    have := xidx_le a r
    unfold xidx
    split
    · exact Nat.zero_le _
    · simp only [List.length_cons]; omega
theorem xidx_get (a : Key) : ∀ l : List Key, xidx a l < l.length → l[xidx a l]? = some a
  | [], h => by cases h
  | k :: r, h => by
    unfold xidx at h ⊢
    split
    · rename_i e; rw [e]; rfl
    · rename_i e
      rw [if_neg e] at h
      simp only [List.length_cons] at h
      rw [List.getElem?_cons_succ]
      exact xidx_get a r (by omega)
theorem asking_run (hk : KT P kt kd) {a : Key} (ha : a.kd = kd) (w : World) : ∀ (ms : List MapEntry) (keys : List Key) (i : Nat), ms.map (·.key) = keys.map Key.val → (∀ k ∈ keys, k.kd = kd) →
    (Instr.findAsking kt a.val ms i).run P w = .ok ((ms[xidx a keys]?).map fun e => (i + xidx a keys, e.val)) w
  | [], keys, i, h, _ => by
    have : keys = [] := by simpa using h.symm
    subst this
    simp [Instr.findAsking]
  | e :: ms, [], i, h, _ => by simp at h
  | e :: ms, k :: keys, i, h, hd => by
    simp only [List.map_cons, List.cons.injEq] at h
    obtain ⟨h1, h2⟩ := h
    have he := eqK hk ha (hd k (.head _)) w
    rw [← h1] at he
    by_cases hkk : k = a
    · subst hkk
      simp only [decide_true] at he
      simp [Instr.findAsking, he, Result.andThen, xidx]
    · have hka : ¬ a = k := fun e => hkk e.symm
      rw [decide_eq_false hka] at he
      have ih := asking_run hk ha w ms keys (i + 1) h2 fun x hx => hd x (.tail _ hx)
      simp only [Instr.findAsking, Sem.run_bind, he, Result.andThen_ok, Bool.false_eq_true, if_false, ih, xidx, if_neg hkk, List.getElem?_cons_succ]
      rw [show i + 1 + xidx a keys = i + (xidx a keys + 1) by omega]
theorem now_spec (k : IntKind) (z : Int) : ∀ (ms : List MapEntry) (keys : List Key) (i : Nat), ms.map (·.key) = keys.map Key.val → (∀ q ∈ keys, q.kd = .i k) →
    Instr.findNow (.int k) (.int k z) ms i = some ((ms[xidx (.i k z) keys]?).map fun e => (i + xidx (.i k z) keys, e.val))
  | [], keys, i, h, _ => by
    have : keys = [] := by simpa using h.symm
    subst this
    simp [Instr.findNow]
  | e :: ms, [], i, h, _ => by simp at h
  | e :: ms, q :: keys, i, h, hd => by
    simp only [List.map_cons, List.cons.injEq] at h
    obtain ⟨h1, h2⟩ := h
    have hq := hd q (.head _)
    cases q with
    | b _ _ => cases hq
    | i k1 y =>
      simp only [Key.kd, KD.i.injEq] at hq
      subst hq
      have hs : Instr.sameNow (.int k1) (.int k1 z) e.key = some (z == y) := by rw [h1]; simp [Instr.sameNow, Key.val]
      by_cases hz : z = y
      · subst hz
        simp [Instr.findNow, hs, xidx]
      · have hb : (z == y) = false := by simpa using hz
        rw [hb] at hs
        have hne : ¬ (Key.i k1 y = Key.i k1 z) := fun e => hz (by injection e with _ e; exact e.symm)
        have ih := now_spec k1 z ms keys (i + 1) h2 fun x hx => hd x (.tail _ hx)
        simp only [Instr.findNow, hs, ih, xidx, if_neg hne, List.getElem?_cons_succ]
        rw [show i + 1 + xidx (.i k1 z) keys = i + (xidx (.i k1 z) keys + 1) by omega]
theorem findK (hk : KT P kt kd) {a : Key} (ha : a.kd = kd) (w : World) {ms : List MapEntry} {keys : List Key} (h : ms.map (·.key) = keys.map Key.val) (hd : ∀ k ∈ keys, k.kd = kd) :
    (Instr.findKey kt a.val ms).run P w = .ok ((ms[xidx a keys]?).map fun e => (xidx a keys, e.val)) w := by
  cases kd with
  | i k =>
    cases a with
    | b _ _ => cases ha
    | i k1 z1 =>
      simp only [Key.kd, KD.i.injEq] at ha
      subst ha
      have := now_spec k1 z1 ms keys 0 h hd
      simp only [Nat.zero_add] at this
      exact run_findKey (show P.underlying kt = some (.int k1) from hk) this
  | b =>
    have hk' := hk
    obtain ⟨e, hu, he, hce, hct, hq⟩ := hk
    rw [run_findKey_eq (P := P) (w := w) (k := kt) (by rw [hu]) a.val ms]
    have := asking_run hk' ha w ms keys 0 h hd
    simpa only [Nat.zero_add] using this
theorem staysK (a : Key) (w : World) : (Instr.keyThatStays a.val a.val).run P w = .ok a.val w := by
  have : Instr.sameBits 10000 a.val a.val = true := by
    cases a <;> simp [Key.val, Instr.sameBits]
  simp only [Instr.keyThatStays, this, if_true, Sem.run_pure]
end
/-- a key in the engine's terms -/
def keyA (kd : KD) (v : AV) : Option Key := match kd, v with
  | .i k, .int k' z => if k' = k then some (.i k z) else none
  | .b, .agg [.int k1 x, .int k2 y] => if k1 = .u8 ∧ k2 = .u8 ∧ ((BitVec.ofInt 8 x).toNat : Int) = x ∧ ((BitVec.ofInt 8 y).toNat : Int) = y then some (.b (BitVec.ofInt 8 x) (BitVec.ofInt 8 y)) else none
  | _, _ => none
theorem keyA_int (k : IntKind) (z : Int) : keyA (.i k) (.int k z) = some (.i k z) := by simp [keyA]
theorem keyA_bb (x y : BitVec 8) : keyA .b (.agg [.int .u8 (x.toNat : Int), .int .u8 (y.toNat : Int)]) = some (.b x y) := by
  have h : ∀ b : BitVec 8, BitVec.ofInt 8 (b.toNat : Int) = b := fun b => by
    refine BitVec.eq_of_toNat_eq ?_
    rw [BitVec.toNat_ofInt]
    have := b.isLt
    omega
  simp only [keyA, h, and_self, if_true]
section
variable {P : Program} {w0 w : World} {FP : Nat → Prop} {wr rd : Nat → Bool} {m : Mem} {nx : Nat} {H : RO} {B : Names} {N : Nat} {t : Slots} {a : Act}
theorem keyA_den {kd : KD} {v : AV} {k : Key} (h : keyA kd v = some k) {u : Value} (hu : Den H B v u) : u = k.val ∧ k.kd = kd := by
  unfold keyA at h
  split at h
  · split at h
    · rename_i e
      cases h
      subst e
      simp only [Den] at hu
      exact ⟨hu, rfl⟩
    · cases h
  · split at h
    · rename_i e
      obtain ⟨rfl, rfl, e1, e2⟩ := e
      cases h
      simp only [Den, DenL] at hu
      obtain ⟨cs, rfl, v1, s1, rfl, rfl, v2, s2, rfl, rfl, rfl⟩ := hu
      refine ⟨?_, rfl⟩
      simp only [Key.val, e1, e2]
    · cases h
  · cases h
def bidx (c : Int) : List Nat → Nat
  | [] => 0
  | b :: r => if (b : Int) = c then 0 else bidx c r + 1
theorem bidx_le (c : Int) : ∀ l : List Nat, bidx c l ≤ l.length
  | [] => Nat.le_refl _
  | k :: r => by
    have := bidx_le c r
    unfold bidx
    split
    · exact Nat.zero_le _
    · simp only [List.length_cons]; omega
theorem bidx_find (c : Int) : ∀ (ms : List MapEntry), bidx c (ms.map (·.born)) < ms.length → ms.findIdx? (fun e => (e.born : Int) == c) = some (bidx c (ms.map (·.born)))
  | [], h => by cases h
  | e :: ms, h => by
    rw [List.findIdx?_cons]
    simp only [List.map_cons, bidx] at h ⊢
    by_cases hc : (e.born : Int) = c
    · simp [hc]
    · rw [if_neg hc] at h ⊢
      have hb : ((e.born : Int) == c) = false := by simpa using hc
      simp only [hb]
      rw [bidx_find c ms (by simpa using h)]
      rfl
theorem bidx_nth : ∀ (l : List Nat), l.Nodup → ∀ (j x : Nat), l[j]? = some x → bidx (x : Int) l = j
  | [], _, j, x, h => by simp at h
  | b :: r, hn, 0, x, h => by simp at h; subst h; simp [bidx]
  | b :: r, hn, j + 1, x, h => by
    rw [List.getElem?_cons_succ] at h
    have hx : x ∈ r := List.mem_of_getElem? h
    have hne : ¬ ((b : Int) = (x : Int)) := fun e => by
      have : b = x := by omega
      subst this
      exact (List.nodup_cons.1 hn).1 hx
    simp only [bidx, if_neg hne]
    rw [bidx_nth r (List.nodup_cons.1 hn).2 j x h]
theorem bidx_new : ∀ (l : List Nat) (c : Nat), (∀ x ∈ l, x < c) → bidx (c : Int) (l ++ [c]) = l.length
  | [], c, _ => by simp [bidx]
  | b :: r, c, h => by
    have hne : ¬ ((b : Int) = (c : Int)) := fun e => by have := h b (.head _); omega
    simp only [List.cons_append, bidx, if_neg hne, List.length_cons]
    rw [bidx_new r c fun x hx => h x (.tail _ hx)]
theorem mods_keys {ms : List MapEntry} {keys : List Key} {j : Nat} {a : Key} (h : ms.map (·.key) = keys.map Key.val) (hj : keys[j]? = some a) (f : MapEntry → MapEntry) (hf : ∀ e, e.key = a.val → (f e).key = a.val) : (ms.modify j f).map (·.key) = keys.map Key.val := by
  rw [← h]
  apply List.ext_getElem?
  intro i
  simp only [List.getElem?_map, List.getElem?_modify]
  by_cases hij : j = i
  · subst hij
    have : (ms.map (·.key))[j]? = some a.val := by rw [h]; simp [hj]
    rw [List.getElem?_map] at this
    obtain ⟨e, he, hk⟩ := Option.map_eq_some_iff.1 this
    rw [he]; simp [hk, hf e hk]
  · simp [hij]
theorem mods_map {α : Type} {ms : List MapEntry} {j : Nat} (g : MapEntry → α) (f : MapEntry → MapEntry) (hf : ∀ e, g (f e) = g e) : (ms.modify j f).map g = ms.map g := by
  apply List.ext_getElem?
  intro i
  simp only [List.getElem?_map, List.getElem?_modify]
  by_cases hij : j = i
  · subst hij; cases ms[j]? <;> simp [hf]
  · simp [hij]
theorem mods_val {ms : List MapEntry} {j : Nat} (f : MapEntry → MapEntry) (v : Value) (hf : ∀ e, (f e).val = v) : (ms.modify j f).map (·.val) = (ms.map (·.val)).set j v := by
  apply List.ext_getElem?
  intro i
  simp only [List.getElem?_map, List.getElem?_modify, List.getElem?_set]
  by_cases hij : j = i
  · subst hij
    by_cases hl : j < ms.length
    · simp [List.getElem?_eq_getElem hl, hf, hl]
    · simp [List.getElem?_eq_none (Nat.le_of_not_lt hl), hl]
  · simp [hij]

def mentk (K : Kv) (m : Mem) (n nx : Nat) (kd : KD) (keys : List Key) (vals : List AV) (born : List Nat) (a : Key) (z : AV) : Prop :=
  (xidx a keys < keys.length → ∀ c : Nat, bidx c born = xidx a keys → born.length = keys.length → K (.tup [vals.getD (xidx a keys) z, .int .i64 c]) (upd m n (.mx kd keys vals born)) nx) ∧
  (keys.length ≤ xidx a keys → ∀ c : Nat, bidx c (born ++ [c]) = keys.length → born.length = keys.length → K (.tup [z, .int .i64 c]) (upd m n (.mx kd (keys ++ [a]) (vals ++ [z]) (born ++ [c]))) nx)
def mentx (P : Program) (wr : Nat → Bool) (ty : TypeId) (x i : AV) (m : Mem) (nx : Nat) (K : Kv) : Prop := match x with
  | .map n => match look m n with
    | some (.mx kd keys vals born) => ∃ q, mxT P ty = some q ∧ q.1 = kd ∧ ∃ k, keyA kd i = some k ∧ ∃ z, zval P q.2 = some z ∧ wr n = true ∧ mentk K m n nx kd keys vals born k z
    | _ => False
  | _ => False
theorem mentx_ok (hi : Inv w0 FP wr m nx H B w) {ty : TypeId} {x i : AV} {K : Kv} (h : mentx P wr ty x i m nx K) {u1 u2 : Value} (h1 : Den H B x u1) (h2 : Den H B i u2) {r : Result Next}
    (hr : r = ((do pure (.value (← Instr.mapEntry ty u1 u2)) : Sem Next)).run P w) : Gives P w0 FP wr H B K r := by
  subst hr
  unfold mentx at h
  split at h
  · rename_i n
    split at h
    · rename_i kd keys vals born hn
      obtain ⟨q, hq, rfl, k, hka, z, hz, hw, hk1, hk2⟩ := h
      simp only [Den] at h1
      obtain ⟨b, hb, rfl⟩ := h1
      obtain ⟨rfl, hkd⟩ := keyA_den hka h2
      obtain ⟨kt, hm, hkt⟩ := mxT_some hq
      obtain ⟨b', hb', ⟨ms, c, hh, hks, hbs, hnd, hlt, hds, hdv⟩, _⟩ := hi.obj n _ hn
      rw [hb] at hb'; cases hb'
      obtain ⟨zv, hzr, hzd⟩ := zval_run hz w H B
      have hfd := findK hkt hkd w hks hds
      have hl1 : ms.length = keys.length := by have := congrArg List.length hks; simpa using this
      have hl2 : born.length = ms.length := by rw [← hbs]; simp
      have hl3 : vals.length = ms.length := by have := hdv.length; simpa using this.symm
      by_cases hlt2 : xidx k keys < keys.length
      · have hjm : xidx k keys < ms.length := by omega
        have hge := List.getElem?_eq_getElem hjm
        have hke : ms[xidx k keys].key = k.val := by
          have : (ms.map (·.key))[xidx k keys]? = some k.val := by rw [hks, List.getElem?_map, xidx_get k keys hlt2]; rfl
          rw [List.getElem?_map, hge] at this
          simpa using this
        have hkt2 : (((ms.toArray)[xidx k keys]?).map (·.key)).getD k.val = k.val := by
          rw [List.getElem?_toArray, hge]; simp [hke]
        have hbn : (((ms.toArray)[xidx k keys]?).map (fun x => (x.born : Int))).getD 0 = (ms[xidx k keys].born : Int) := by
          rw [List.getElem?_toArray, hge]; rfl
        rw [hge] at hfd
        have hbx : born[xidx k keys]? = some ms[xidx k keys].born := by rw [← hbs, List.getElem?_map, hge]; rfl
        refine ⟨.tuple #[ms[xidx k keys].val, goInt ms[xidx k keys].born], _, _, nx, B, { w with heap := w.heap.setIfInBounds b (.map (ms.toArray.modify (xidx k keys) fun e => { e with key := k.val }) c) }, .inl ?_, ?_, Ext.refl _ _, ?_, hk1 hlt2 ms[xidx k keys].born (bidx_nth born hnd _ _ hbx) (by omega)⟩
        · simp only [Instr.mapEntry, Sem.run_bind, run_underlying hm, MapKept.run_getObj_map hh, checkK hkt hkd, hfd, Option.map_some, Result.andThen_ok]
          rw [hkt2, hbn]
          simp only [staysK, Sem.run_bind, run_setObj_map _ hh, Result.andThen_ok, Sem.run_pure]
        · refine hi.write hn hw hb _ (by simp) rfl rfl rfl (fun k hk => (heap_set hh).2 k hk) ⟨ms.modify (xidx k keys) fun e => { e with key := k.val }, c, ?_, mods_keys hks (xidx_get k keys hlt2) _ (fun _ _ => rfl), ?_, hnd, hlt, hds, ?_⟩
          · rw [(heap_set hh).1]; simp
          · exact (show _ = _ from mods_map (·.born) _ (by intro _; rfl)).trans hbs
          · rw [show (List.map (·.val) (ms.modify (xidx k keys) fun e => { e with key := k.val })) = ms.map (·.val) from mods_map (·.val) _ (by intro _; rfl)]; exact hdv
        · have hvg : vals[xidx k keys]? = some (vals.getD (xidx k keys) z) := by
            have : xidx k keys < vals.length := by omega
            rw [List.getD_eq_getElem?_getD, List.getElem?_eq_getElem this]; rfl
          obtain ⟨v, hv, hdd⟩ := hdv.get _ _ hvg
          rw [List.getElem?_map, hge] at hv
          cases hv
          simp only [Den, DenL]
          exact ⟨_, rfl, _, _, rfl, hdd, _, [], rfl, rfl, rfl⟩
      · have hge : ms[xidx k keys]? = none := List.getElem?_eq_none (by omega)
        rw [hge] at hfd
        refine ⟨.tuple #[zv, goInt c], _, _, nx, B, { w with heap := w.heap.setIfInBounds b (.map (ms.toArray.push { key := k.val, val := zv, born := c }) (c + 1)) }, .inl ?_, ?_, Ext.refl _ _, ?_, hk2 (by omega) c (by rw [bidx_new born c hlt]; omega) (by omega)⟩
        · simp only [Instr.mapEntry, Sem.run_bind, run_underlying hm, MapKept.run_getObj_map hh, checkK hkt hkd, hfd, Option.map_none, hzr, run_setObj_map _ hh, Result.andThen_ok, Sem.run_pure]
        · refine hi.write hn hw hb _ (by simp) rfl rfl rfl (fun k hk => (heap_set hh).2 k hk) ⟨ms ++ [{ key := k.val, val := zv, born := c }], c + 1, ?_, by simp [hks], by simp [hbs], ?_, ?_, ?_, ?_⟩
          · rw [(heap_set hh).1]; simp
          · refine List.nodup_append.2 ⟨hnd, by simp, fun x hx y hy => ?_⟩
            simp only [List.mem_singleton] at hy
            subst hy
            exact Nat.ne_of_lt (hlt x hx)
          · intro x hx
            rcases List.mem_append.1 hx with hx | hx
            · exact Nat.lt_succ_of_lt (hlt x hx)
            · simp only [List.mem_singleton] at hx; subst hx; exact Nat.lt_succ_self _
          · intro x hx
            rcases List.mem_append.1 hx with hx | hx
            · exact hds x hx
            · simp only [List.mem_singleton] at hx; subst hx; exact hkd
          · simp only [List.map_append, List.map_cons, List.map_nil]
            exact hdv.append (by simp only [DenL]; exact ⟨_, [], rfl, hzd, rfl⟩)
        · simp only [Den, DenL]
          exact ⟨_, rfl, _, _, rfl, hzd, _, [], rfl, rfl, rfl⟩
    · exact h.elim
  · exact h.elim
def estx (wr : Nat → Bool) (x s y : AV) (m : Mem) (nx : Nat) (K : Kv) : Prop := match x, s with
  | .map n, .int _ c => match look m n with
    | some (.mx kd keys vals born) => bidx c born < born.length ∧ wr n = true ∧ K (.tup []) (upd m n (.mx kd keys (vals.set (bidx c born) y) born)) nx
    | _ => False
  | _, _ => False
theorem estx_ok (hi : Inv w0 FP wr m nx H B w) {ty : TypeId} {x i y : AV} {K : Kv} (h : estx wr x i y m nx K) {u1 u2 u3 : Value} (h1 : Den H B x u1) (h2 : Den H B i u2) (h3 : Den H B y u3) {r : Result Next}
    (hr : r = ((do Instr.entryStore ty u1 u2 u3; pure .skip : Sem Next)).run P w) : Gives P w0 FP wr H B K r := by
  subst hr
  unfold estx at h
  split at h
  · rename_i n q0 s
    split at h
    · rename_i kd keys vals born hn
      obtain ⟨hlt, hw, h⟩ := h
      simp only [Den] at h1 h2
      obtain ⟨b, hb, rfl⟩ := h1; subst h2
      obtain ⟨b', hb', ⟨ms, c, hh, hks, hbs, hnd, hlc, hds, hdv⟩, _⟩ := hi.obj n _ hn
      rw [hb] at hb'; cases hb'
      have hf := bidx_find s ms (by rw [hbs]; have := congrArg List.length hbs; simp only [List.length_map] at this; omega)
      rw [hbs] at hf
      refine ⟨undef, .tup [], _, nx, B, { w with heap := w.heap.setIfInBounds b (.map (ms.toArray.modify (bidx s born) fun e => { e with val := u3 }) c) }, .inr ⟨?_, rfl⟩, ?_, Ext.refl _ _, undef_den0, h⟩
      · have ha : (asInt (.int q0 s)).run P w = .ok s w := by simp [asInt, asIntOf, Result.andThen]
        simp only [Instr.entryStore, Sem.run_bind, MapKept.run_getObj_map hh, ha, List.findIdx?_toArray, hf, run_setObj_map _ hh, Result.andThen_ok, Sem.run_pure]
      · refine hi.write hn hw hb _ (by simp) rfl rfl rfl (fun k hk => (heap_set hh).2 k hk) ⟨ms.modify (bidx s born) fun e => { e with val := u3 }, c, ?_, ?_, ?_, hnd, hlc, hds, ?_⟩
        · rw [(heap_set hh).1]; simp
        · exact (show _ = _ from mods_map (·.key) _ (by intro _; rfl)).trans hks
        · exact (show _ = _ from mods_map (·.born) _ (by intro _; rfl)).trans hbs
        · refine Eq.mpr (congrArg (DenL H B _) (mods_val _ u3 ?_)) (hdv.set _ h3); intro _; rfl
    · exact h.elim
  · exact h.elim
/-- a value put at a key -/
def insk (K : Kv) (m : Mem) (n nx : Nat) (kd : KD) (keys : List Key) (vals : List AV) (born : List Nat) (a : Key) (y : AV) : Prop :=
  (xidx a keys < keys.length → K (.tup []) (upd m n (.mx kd keys (vals.set (xidx a keys) y) born)) nx) ∧
  (keys.length ≤ xidx a keys → ∀ c : Nat, K (.tup []) (upd m n (.mx kd (keys ++ [a]) (vals ++ [y]) (born ++ [c]))) nx)
def insz (P : Program) (wr : Nat → Bool) (ty : TypeId) (n : Nat) (i y : AV) (m : Mem) (nx : Nat) (K : Kv) (kd : KD) (keys : List Key) (vals : List AV) (born : List Nat) : Prop :=
  ∃ q, mxT P ty = some q ∧ q.1 = kd ∧ ∃ k, keyA kd i = some k ∧ wr n = true ∧ insk K m n nx kd keys vals born k y
theorem insz_ok (hi : Inv w0 FP wr m nx H B w) {ty : TypeId} {n : Nat} {i y : AV} {K : Kv} {kd : KD} {keys : List Key} {vals : List AV} {born : List Nat} (hn : look m n = some (.mx kd keys vals born)) (h : insz P wr ty n i y m nx K kd keys vals born) {u1 u2 u3 : Value} (h1 : Den H B (.map n) u1) (h2 : Den H B i u2) (h3 : Den H B y u3) {r : Result Next}
    (hr : r = ((do Instr.mapUpdate ty u1 u2 u3; pure .skip : Sem Next)).run P w) : Gives P w0 FP wr H B K r := by
  subst hr
  obtain ⟨q, hq, rfl, k, hka, hw, hk1, hk2⟩ := h
  simp only [Den] at h1
  obtain ⟨b, hb, rfl⟩ := h1
  obtain ⟨rfl, hkd⟩ := keyA_den hka h2
  obtain ⟨kt, hm, hkt⟩ := mxT_some hq
  obtain ⟨b', hb', ⟨ms, c, hh, hks, hbs, hnd, hlt, hds, hdv⟩, _⟩ := hi.obj n _ hn
  rw [hb] at hb'; cases hb'
  have hfd := findK hkt hkd w hks hds
  have hl1 : ms.length = keys.length := by have := congrArg List.length hks; simpa using this
  by_cases hlt2 : xidx k keys < keys.length
  · have hjm : xidx k keys < ms.length := by omega
    have hge := List.getElem?_eq_getElem hjm
    have hke : ms[xidx k keys].key = k.val := by
      have : (ms.map (·.key))[xidx k keys]? = some k.val := by rw [hks, List.getElem?_map, xidx_get k keys hlt2]; rfl
      rw [List.getElem?_map, hge] at this
      simpa using this
    have hkt2 : (((ms.toArray)[xidx k keys]?).map (·.key)).getD k.val = k.val := by
      rw [List.getElem?_toArray, hge]; simp [hke]
    rw [hge] at hfd
    refine ⟨undef, .tup [], _, nx, B, { w with heap := w.heap.setIfInBounds b (.map (ms.toArray.modify (xidx k keys) fun e => { e with key := k.val, val := u3 }) c) }, .inr ⟨?_, rfl⟩, ?_, Ext.refl _ _, undef_den0, hk1 hlt2⟩
    · simp only [Instr.mapUpdate, Sem.run_bind, run_underlying hm, MapKept.run_getObj_map hh, checkK hkt hkd, hfd, Option.map_some, Result.andThen_ok]
      rw [hkt2]
      simp only [staysK, Sem.run_bind, run_setObj_map _ hh, Result.andThen_ok, Sem.run_pure]
    · refine hi.write hn hw hb _ (by simp) rfl rfl rfl (fun k hk => (heap_set hh).2 k hk) ⟨ms.modify (xidx k keys) fun e => { e with key := k.val, val := u3 }, c, ?_, mods_keys hks (xidx_get k keys hlt2) _ (fun _ _ => rfl), ?_, hnd, hlt, hds, ?_⟩
      · rw [(heap_set hh).1]; simp
      · exact (show _ = _ from mods_map (·.born) _ (by intro _; rfl)).trans hbs
      · refine Eq.mpr (congrArg (DenL H B _) (mods_val _ u3 ?_)) (hdv.set _ h3); intro _; rfl
  · have hge : ms[xidx k keys]? = none := List.getElem?_eq_none (by omega)
    rw [hge] at hfd
    refine ⟨undef, .tup [], _, nx, B, { w with heap := w.heap.setIfInBounds b (.map (ms.toArray.push { key := k.val, val := u3, born := c }) (c + 1)) }, .inr ⟨?_, rfl⟩, ?_, Ext.refl _ _, undef_den0, hk2 (by omega) c⟩
    · simp only [Instr.mapUpdate, Sem.run_bind, run_underlying hm, MapKept.run_getObj_map hh, checkK hkt hkd, hfd, Option.map_none, run_setObj_map _ hh, Result.andThen_ok, Sem.run_pure]
    · refine hi.write hn hw hb _ (by simp) rfl rfl rfl (fun k hk => (heap_set hh).2 k hk) ⟨ms ++ [{ key := k.val, val := u3, born := c }], c + 1, ?_, by simp [hks], by simp [hbs], ?_, ?_, ?_, ?_⟩
      · rw [(heap_set hh).1]; simp
      · refine List.nodup_append.2 ⟨hnd, by simp, fun x hx y hy => ?_⟩
        simp only [List.mem_singleton] at hy
        subst hy
        exact Nat.ne_of_lt (hlt x hx)
      · intro x hx
        rcases List.mem_append.1 hx with hx | hx
        · exact Nat.lt_succ_of_lt (hlt x hx)
        · simp only [List.mem_singleton] at hx; subst hx; exact Nat.lt_succ_self _
      · intro x hx
        rcases List.mem_append.1 hx with hx | hx
        · exact hds x hx
        · simp only [List.mem_singleton] at hx; subst hx; exact hkd
      · simp only [List.map_append, List.map_cons, List.map_nil]
        exact hdv.append (by simp only [DenL]; exact ⟨_, [], rfl, h3, rfl⟩)
/-- what stands at a key -/
def xget (a : Key) (keys : List Key) (vals : List AV) : Option AV := vals[xidx a keys]?
def lookz (P : Program) (ty : TypeId) (i : AV) (ok : Bool) (k : AV → Prop) (kd : KD) (keys : List Key) (vals : List AV) : Prop :=
  ∃ q, mxT P ty = some q ∧ q.1 = kd ∧ ∃ a, keyA kd i = some a ∧ ∃ d, zval P q.2 = some d ∧ lkk ok d k (xget a keys vals)
theorem lookz_ok (hi : Inv w0 FP wr m nx H B w) {ty : TypeId} {n : Nat} {i : AV} {ok : Bool} {k : AV → Prop} {kd : KD} {keys : List Key} {vals : List AV} {born : List Nat} (hn : look m n = some (.mx kd keys vals born)) (h : lookz P ty i ok k kd keys vals) {u1 u2 : Value} (h1 : Den H B (.map n) u1) (h2 : Den H B i u2) :
    ∃ v av, (Instr.lookup ty u1 u2 ok).run P w = .ok v w ∧ Den H B av v ∧ k av := by
  obtain ⟨q, hq, rfl, a, hka, d, hz, h⟩ := h
  simp only [Den] at h1
  obtain ⟨b, hb, rfl⟩ := h1
  obtain ⟨rfl, hkd⟩ := keyA_den hka h2
  obtain ⟨kt, hm, hkt⟩ := mxT_some hq
  obtain ⟨b', hb', ⟨ms, c, hh, hks, hbs, hnd, hlt, hds, hdv⟩, _⟩ := hi.obj n _ hn
  rw [hb] at hb'; cases hb'
  obtain ⟨zv, hzr, hzd⟩ := zval_run hz w H B
  have hfd := findK hkt hkd w hks hds
  have hl1 : ms.length = keys.length := by have := congrArg List.length hks; simpa using this
  have hl3 : vals.length = ms.length := by have := hdv.length; simpa using this.symm
  unfold xget at h
  by_cases hlt2 : xidx a keys < ms.length
  · have hge := List.getElem?_eq_getElem hlt2
    have hvl : xidx a keys < vals.length := by omega
    rw [List.getElem?_eq_getElem hvl] at h
    simp only [lkk] at h
    obtain ⟨v, hv, hdd⟩ := hdv.get _ _ (List.getElem?_eq_getElem hvl)
    rw [List.getElem?_map, hge] at hv
    cases hv
    rw [hge] at hfd
    refine ⟨if ok then .tuple #[ms[xidx a keys].val, .bool true] else ms[xidx a keys].val, _, ?_, ?_, h⟩
    · simp only [Instr.lookup, Sem.run_bind, run_underlying hm, MapKept.run_getObj_map hh, checkK hkt hkd, hfd, Option.map_some, Result.andThen_ok, Sem.run_pure]
    · cases ok
      · exact hdd
      · simp only [if_true, Den, DenL]
        exact ⟨_, rfl, _, _, rfl, hdd, _, [], rfl, rfl, rfl⟩
  · have hge : ms[xidx a keys]? = none := List.getElem?_eq_none (by omega)
    have hvg : vals[xidx a keys]? = none := List.getElem?_eq_none (by omega)
    rw [hge] at hfd
    rw [hvg] at h
    simp only [lkk] at h
    refine ⟨if ok then .tuple #[zv, .bool false] else zv, _, ?_, ?_, h⟩
    · simp only [Instr.lookup, Sem.run_bind, run_underlying hm, MapKept.run_getObj_map hh, checkK hkt hkd, hfd, Option.map_none, hzr, Result.andThen_ok, Sem.run_pure]
    · cases ok
      · exact hzd
      · simp only [if_true, Den, DenL]
        exact ⟨_, rfl, zv, _, rfl, hzd, _, [], rfl, rfl, rfl⟩
/-- delete -/
def delx (P : Program) (wr : Nat → Bool) (ts : Array TypeId) (l : List AV) (m : Mem) (nx : Nat) (K : Kv) : Prop := match ts.toList, l with
  | [ty, _], [.map n, i] => match look m n with
    | some (.mx kd keys vals born) => ∃ q, mxT P ty = some q ∧ q.1 = kd ∧ ∃ a, keyA kd i = some a ∧ wr n = true ∧ K (.tup []) (upd m n (.mx kd (keys.eraseIdx (xidx a keys)) (vals.eraseIdx (xidx a keys)) (born.eraseIdx (xidx a keys)))) nx
    | _ => False
  | _, _ => False
theorem map_eraseIdx' {α β : Type} (f : α → β) : ∀ (l : List α) (i : Nat), (l.eraseIdx i).map f = (l.map f).eraseIdx i
  | [], i => by simp
  | x :: r, 0 => by simp
  | x :: r, i + 1 => by simp [map_eraseIdx' f r i]
theorem denL_erase {l : List AV} {vs : List Value} (h : DenL H B l vs) (i : Nat) : DenL H B (l.eraseIdx i) (vs.eraseIdx i) := by
  rw [List.eraseIdx_eq_take_drop_succ, List.eraseIdx_eq_take_drop_succ]
  exact (h.take i).append (h.drop (i + 1))
theorem delx_ok (hi : Inv w0 FP wr m nx H B w) {ts : Array TypeId} {l : List AV} {K : Kv} (h : delx P wr ts l m nx K) {vs : List Value} (hd : DenL H B l vs) (ty0 : TypeId) (cc : Array Bool) : Gives P w0 FP wr H B K ((builtin .delete ts ty0 cc vs.toArray).run P w) := by
  unfold delx at h
  split at h
  · rename_i ty kt0 n i hts
    split at h
    · rename_i kd keys vals born hn
      obtain ⟨q, hq, rfl, a, hka, hw, h⟩ := h
      simp only [DenL] at hd
      obtain ⟨u1, s1, rfl, h1, u2, s2, rfl, h2, rfl⟩ := hd
      simp only [Den] at h1
      obtain ⟨b, hb, rfl⟩ := h1
      obtain ⟨rfl, hkd⟩ := keyA_den hka h2
      obtain ⟨kt, hm, hkt⟩ := mxT_some hq
      obtain ⟨b', hb', ⟨ms, c, hh, hks, hbs, hnd, hlt, hds, hdv⟩, _⟩ := hi.obj n _ hn
      rw [hb] at hb'; cases hb'
      have hfd := findK hkt hkd w hks hds
      have hts' : ts = #[ty, kt0] := by rw [← Array.toArray_toList (xs := ts), hts]
      subst hts'
      have hl1 : ms.length = keys.length := by have := congrArg List.length hks; simpa using this
      have hrun : (Builtin.delete_ #[ty, kt0] ty0 #[.map (some b), a.val]).run P w = .ok (.tuple #[]) { w with heap := w.heap.setIfInBounds b (.map (ms.eraseIdx (xidx a keys)).toArray c) } := by
        by_cases hlt2 : xidx a keys < ms.length
        · have hge := List.getElem?_eq_getElem hlt2
          rw [hge] at hfd
          have he : ms.toArray.eraseIdxIfInBounds (xidx a keys) = (ms.eraseIdx (xidx a keys)).toArray := by
            unfold Array.eraseIdxIfInBounds
            rw [dif_pos (by simpa using hlt2)]
            simp
          simp [Builtin.delete_, run_underlying hm, MapKept.run_getObj_map hh, checkK hkt hkd, hfd, run_setObj_map _ hh, Result.andThen, he]
        · have hge : ms[xidx a keys]? = none := List.getElem?_eq_none (by omega)
          rw [hge] at hfd
          have he : ms.eraseIdx (xidx a keys) = ms := List.eraseIdx_of_length_le (by omega)
          simp [Builtin.delete_, run_underlying hm, MapKept.run_getObj_map hh, checkK hkt hkd, hfd, run_setObj_map _ hh, Result.andThen, he]
      refine ⟨.tuple #[], .tup [], _, nx, B, { w with heap := w.heap.setIfInBounds b (.map (ms.eraseIdx (xidx a keys)).toArray c) }, .inl ?_, ?_, Ext.refl _ _, undef_den0, h⟩
      · simp only [builtin, Sem.run_bind, hrun, Result.andThen_ok, Sem.run_pure]
      · refine hi.write hn hw hb _ (by simp) rfl rfl rfl (fun k hk => (heap_set hh).2 k hk) ⟨ms.eraseIdx (xidx a keys), c, (heap_set hh).1, ?_, ?_, ?_, ?_, ?_, ?_⟩
        · rw [map_eraseIdx', hks, map_eraseIdx']
        · rw [map_eraseIdx', hbs]
        · exact (List.eraseIdx_sublist _ _).nodup hnd
        · exact fun x hx => hlt x ((List.eraseIdx_sublist _ _).subset hx)
        · exact fun x hx => hds x ((List.eraseIdx_sublist _ _).subset hx)
        · rw [map_eraseIdx']; exact denL_erase hdv _
    · exact h.elim
  · exact h.elim
/-- how many -/
def mapOf : List AV → Option Nat
  | [.map n] => some n
  | _ => none
def lenm (P : Program) (ts : Array TypeId) (n : Nat) (m : Mem) (nx : Nat) (K : Kv) : Prop := match ts.toList, look m n with
  | [ty], some (.mx kd keys vals born) => (∃ q, mxT P ty = some q) ∧ K (.int .i64 keys.length) m nx
  | _, _ => False
theorem lenm_ok (hi : Inv w0 FP wr m nx H B w) {ts : Array TypeId} {n : Nat} {K : Kv} (h : lenm P ts n m nx K) {vs : List Value} (hd : DenL H B [.map n] vs) (ty0 : TypeId) (cc : Array Bool) : Gives P w0 FP wr H B K ((builtin .len ts ty0 cc vs.toArray).run P w) := by
  unfold lenm at h
  split at h
  · rename_i ty kd keys vals born hts hn
    obtain ⟨⟨q, hq⟩, h⟩ := h
    simp only [DenL, Den] at hd
    obtain ⟨u1, s1, rfl, ⟨b, hb, rfl⟩, rfl⟩ := hd
    obtain ⟨kt, hm, hkt⟩ := mxT_some hq
    obtain ⟨b', hb', ⟨ms, c, hh, hks, hbs, hnd, hlt, hds, hdv⟩, _⟩ := hi.obj n _ hn
    rw [hb] at hb'; cases hb'
    have hts' : ts = #[ty] := by rw [← Array.toArray_toList (xs := ts), hts]
    subst hts'
    have hl1 : ms.length = keys.length := by have := congrArg List.length hks; simpa using this
    refine ⟨.int .i64 keys.length, _, _, nx, B, w, .inl ?_, hi, Ext.refl _ _, by simp only [Den], h⟩
    simp [builtin, Builtin.len_, run_underlying hm, MapKept.run_getObj_map hh, Result.andThen, hl1, goInt]
  · exact h.elim
def mkq (P : Program) (ty : TypeId) (m : Mem) (nx : Nat) (K : Kv) : Option (KD × TypeId) → Prop
  | some q => K (.map nx) ((nx, .mx q.1 [] [] []) :: m) (nx + 1)
  | none => mkmx P ty m nx K
def mkmx2 (P : Program) (ty : TypeId) (m : Mem) (nx : Nat) (K : Kv) : Prop := mkq P ty m nx K (mxT P ty)
theorem mkmx2_ok (hi : Inv w0 FP wr m nx H B w) {ty : TypeId} {K : Kv} (h : mkmx2 P ty m nx K) {o : Oper} (ho : o.op = .makeMap ty none) : Gives P w0 FP wr H B K ((execOp a.eval o).run P w) := by
  unfold mkmx2 at h
  cases hq : mxT P ty with
  | none => rw [hq] at h; exact mkmx_ok hi h ho
  | some q =>
    rw [hq] at h
    obtain ⟨g1, g2⟩ := hi.renew (m' := m) (fun _ _ h => h) hi.keep (b := w.heap.size) (.inl rfl) (w' := w.alloc (.map #[] 0)) rfl rfl rfl (by simp)
      (fun k hk _ => heap_alloc_old w _ k hk) (o := .mx q.1 [] [] []) ⟨[], 0, heap_alloc_new _ _, rfl, rfl, List.nodup_nil, (fun _ h => by cases h), (fun _ h => by cases h), by simp [DenL]⟩
    refine ⟨.map (some w.heap.size), .map nx, _, _, _, w.alloc (.map #[] 0), .inl ?_, g1, g2, by simp only [Den]; exact ⟨_, bind1_same _ _ _, rfl⟩, h⟩
    unfold execOp
    simp only [ho, Option.map_none, Sem.run_bind, run_makeMap, Result.andThen_ok, Sem.run_pure]
def lookq (P : Program) (m : Mem) (ty : TypeId) (n : Nat) (v : AV) (ok : Bool) (k : AV → Prop) : Option AObj → Prop
  | some (.mx kd keys vals born) => lookz P ty v ok k kd keys vals
  | _ => lookx P m ty (.map n) v ok k
def lookx2 (P : Program) (m : Mem) (ty : TypeId) (u v : AV) (ok : Bool) (k : AV → Prop) : Prop := match u with
  | .map n => lookq P m ty n v ok k (look m n)
  | _ => False
theorem lookx2_ok (hi : Inv w0 FP wr m nx H B w) {ty : TypeId} {x i : AV} {ok : Bool} {k : AV → Prop} (h : lookx2 P m ty x i ok k) {u1 u2 : Value} (h1 : Den H B x u1) (h2 : Den H B i u2) :
    ∃ v av, (Instr.lookup ty u1 u2 ok).run P w = .ok v w ∧ Den H B av v ∧ k av := by
  unfold lookx2 at h
  split at h
  · rename_i n
    cases hn : look m n with
    | none => rw [hn] at h; exact lookx_ok hi h h1 h2
    | some o =>
      rw [hn] at h
      cases o with
      | mx kd keys vals born => exact lookz_ok hi hn h h1 h2
      | cells l e => exact lookx_ok hi h h1 h2
      | opq o => exact lookx_ok hi h h1 h2
      | fz l e => exact lookx_ok hi h h1 h2
      | mp k a b => exact lookx_ok hi h h1 h2
  · exact h.elim
def insq (P : Program) (wr : Nat → Bool) (ty : TypeId) (n : Nat) (i y : AV) (m : Mem) (nx : Nat) (K : Kv) : Option AObj → Prop
  | some (.mx kd keys vals born) => insz P wr ty n i y m nx K kd keys vals born
  | _ => insx P wr ty (.map n) i y m nx K
def insx2 (P : Program) (wr : Nat → Bool) (ty : TypeId) (x i y : AV) (m : Mem) (nx : Nat) (K : Kv) : Prop := match x with
  | .map n => insq P wr ty n i y m nx K (look m n)
  | _ => False
theorem insx2_ok (hi : Inv w0 FP wr m nx H B w) {ty : TypeId} {x i y : AV} {K : Kv} (h : insx2 P wr ty x i y m nx K) {u1 u2 u3 : Value} (h1 : Den H B x u1) (h2 : Den H B i u2) (h3 : Den H B y u3) {r : Result Next}
    (hr : r = ((do Instr.mapUpdate ty u1 u2 u3; pure .skip : Sem Next)).run P w) : Gives P w0 FP wr H B K r := by
  unfold insx2 at h
  split at h
  · rename_i n
    cases hn : look m n with
    | none => rw [hn] at h; exact insx_ok hi h h1 h2 h3 hr
    | some o =>
      rw [hn] at h
      cases o with
      | mx kd keys vals born => exact insz_ok hi hn h h1 h2 h3 hr
      | cells l e => exact insx_ok hi h h1 h2 h3 hr
      | opq o => exact insx_ok hi h h1 h2 h3 hr
      | fz l e => exact insx_ok hi h h1 h2 h3 hr
      | mp k a b => exact insx_ok hi h h1 h2 h3 hr
  · exact h.elim
def lenq (P : Program) (ts : Array TypeId) (l : List AV) (m : Mem) (nx : Nat) (K : Kv) : Option Nat → Prop
  | some n => lenm P ts n m nx K
  | none => bltx P .len ts l fun v => K v m nx
theorem mapOf_some {l : List AV} {n : Nat} (h : mapOf l = some n) : l = [.map n] := by
  unfold mapOf at h
  split at h
  · cases h; rfl
  · cases h
end
end Go.Eng
