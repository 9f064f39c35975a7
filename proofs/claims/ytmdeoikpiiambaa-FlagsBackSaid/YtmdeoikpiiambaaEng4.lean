/- The engine, part 4: all operations that read and yield a value, as one. Own work. -/
import Derived.Test.YtmdeoikpiiambaaEng3
set_option linter.unusedVariables false
set_option linter.unusedSimpArgs false
namespace Go.Eng
open Go

def byv (b : UInt8) : AV := .int .u8 (b.toNat : Int)
def u8s : List AV → Option (List UInt8)
  | [] => some []
  | .int .u8 n :: r => if 0 ≤ n ∧ n < 256 then (u8s r).map (UInt8.ofNat n.toNat :: ·) else none
  | _ => none
theorem u8s_map (l : List UInt8) : u8s (l.map byv) = some l := by
  induction l with
  | nil => rfl
  | cons b r ih =>
    have h := b.toNat_lt
    show (if (0 : Int) ≤ (b.toNat : Int) ∧ (b.toNat : Int) < 256 then (u8s (r.map byv)).map (UInt8.ofNat (b.toNat : Int).toNat :: ·) else none) = _
    rw [if_pos ⟨by omega, by omega⟩, ih]
    simp
theorem u8s_get : ∀ {l : List AV} {bs : List UInt8}, u8s l = some bs → bs.length = l.length ∧ ∀ (i : Nat) (h : i < bs.length), l[i]? = some (.int .u8 (bs[i].toNat : Int))
  | [], bs, h => by simp [u8s] at h; subst h; exact ⟨rfl, fun i h => by simp at h⟩
  | x :: r, bs, h => by
    unfold u8s at h
    split at h
    · rename_i e; cases e
    · rename_i n r' e
      cases e
      split at h
      · rename_i hn
        obtain ⟨bs', hb, rfl⟩ := Option.map_eq_some_iff.1 h
        obtain ⟨h1, h2⟩ := u8s_get hb
        refine ⟨by simp [h1], fun i hi => ?_⟩
        cases i with
        | zero =>
          simp
          omega
        | succ i => simpa using h2 i (by simpa using hi)
      · cases h
    · cases h

section
variable {P : Program} {w0 w : World} {FP : Nat → Prop} {wr rd : Nat → Bool} {m : Mem} {nx : Nat} {H : RO} {B : Names} {N : Nat} {t : Slots} {a : Act}

def convx (P : Program) (rd : Nat → Bool) (m : Mem) (src dst : TypeId) (x : AV) (k : AV → Prop) : Prop :=
  match x with
  | .int _ n => ∃ q, intT P dst = some q ∧ known P src = true ∧ k (.int q (q.wrap n))
  | .str s => isStrT P dst = true ∧ isStrT P src = true ∧ k (.str s)
  | .sl n off len cap => match look m n with
    | some (.cells l _) => rd n = true ∧ ∃ e, elemT P src = some e ∧ intT P e = some .u8 ∧ isStrT P dst = true ∧ off + len ≤ l.length ∧ ∃ bs, u8s ((l.drop off).take len) = some bs ∧ k (.str ⟨bs.toArray⟩)
    | _ => False
  | .nils => ∃ e, elemT P src = some e ∧ intT P e = some .u8 ∧ isStrT P dst = true ∧ k (.str ⟨#[]⟩)
  | .ro len xs => ∃ e, elemT P src = some e ∧ intT P e = some .u8 ∧ isStrT P dst = true ∧ len ≤ xs.length ∧ ∃ bs, u8s (xs.take len) = some bs ∧ k (.str ⟨bs.toArray⟩)
  | _ => False
theorem convx_ok (hi : Inv w0 FP wr m nx H B w) {src dst : TypeId} {x : AV} {k : AV → Prop} (h : convx P rd m src dst x k) {u : Value} (hu : Den H B x u) :
    ∃ v av, (∀ w', Sees H B m rd w w' → (convert src dst u).run P w' = .ok v w') ∧ Den H B av v ∧ k av := by
  unfold convx at h
  split at h
  · rename_i q0 n
    obtain ⟨q, hq, hk, h⟩ := h
    simp only [Den] at hu
    subst hu
    obtain ⟨d, hd⟩ := Option.isSome_iff_exists.1 hk
    refine ⟨.int q (q.wrap n), _, fun w' _ => ?_, by simp only [Den], h⟩
    simp [convert, run_underlying hd, run_underlying (intT_some hq), Conv.intToInt]
  · rename_i s
    obtain ⟨hd, hs, h⟩ := h
    simp only [Den] at hu
    subst hu
    refine ⟨.string s, _, fun w' _ => ?_, by simp only [Den], h⟩
    simp [convert, run_underlying (isStrT_some hs), run_underlying (isStrT_some hd)]
  · rename_i n off len cap
    split at h
    · rename_i l ty hn
      obtain ⟨hrd, e, he, hq, hd, hle, bs, hbs, h⟩ := h
      obtain ⟨hlen, hget⟩ := u8s_get hbs
      have hlen' : bs.length = len := by rw [hlen]; simp; omega
      simp only [Den] at hu
      obtain ⟨b, ad, hb, rfl, hlc, had⟩ := hu
      obtain ⟨b', cs, hb', hc, hdn⟩ := obj_cells hi hn
      rw [hb] at hb'; injection hb' with hb'; subst hb'
      refine ⟨.string ⟨bs.toArray⟩, _, fun w' hw => ?_, by simp only [Den], h⟩
      subst hlen'
      refine run_convert_bytes_back w' src dst e ad cap bs (elemT_some he) (intT_some hq) (isStrT_some hd) fun j hj => ?_
      have hcz : cap ≠ 0 := by omega
      rw [had hcz, Addr.add_mid, cell_at w' ((hw.obj n _ b hn hrd hb).trans hc)]
      have h1 := hget j hj
      rw [List.getElem?_take, if_pos (by omega), List.getElem?_drop] at h1
      obtain ⟨v, hv, hdv⟩ := hdn.get _ _ h1
      simp only [Den] at hdv
      rw [hv, hdv]
    · exact h.elim
  · obtain ⟨e, he, hq, hd, h⟩ := h
    simp only [Den] at hu
    subst hu
    refine ⟨.string ByteArray.empty, _, fun w' hw => run_convert_bytes_nil w' src e (elemT_some he) (intT_some hq) 0 0 dst (isStrT_some hd), by simp only [Den]; rfl, h⟩
  · rename_i len xs
    obtain ⟨e, he, hq, hd, hle, bs, hbs, h⟩ := h
    obtain ⟨hlen, hget⟩ := u8s_get hbs
    have hlen' : bs.length = len := by rw [hlen]; simp; omega
    simp only [Den] at hu
    obtain ⟨A, cap, rfl, hlc, hda⟩ := hu
    cases A with
    | none =>
      have h0 : bs = [] := by
        cases bs with
        | nil => rfl
        | cons b r =>
          have h1 := hget 0 (by simp)
          rw [List.getElem?_take] at h1
          split at h1
          · obtain ⟨a, v, e, _⟩ := hda.get 0 _ h1; cases e
          · cases h1
      subst h0
      refine ⟨.string ByteArray.empty, _, fun w' hw => run_convert_bytes_nil w' src e (elemT_some he) (intT_some hq) _ _ dst (isStrT_some hd), by simp only [Den]; rfl, h⟩
    | some ad =>
      refine ⟨.string ⟨bs.toArray⟩, _, fun w' hw => ?_, by simp only [Den], h⟩
      subst hlen'
      refine run_convert_bytes_back w' src dst e ad cap bs (elemT_some he) (intT_some hq) (isStrT_some hd) fun j hj => ?_
      have h1 := hget j hj
      rw [List.getElem?_take, if_pos (by omega)] at h1
      obtain ⟨a, v, e, hv, hdv⟩ := hda.get j _ h1
      cases e
      rw [Nat.zero_add] at hv
      simp only [Den] at hdv
      rw [hw.ro _ _ hv, hdv]
  · exact h.elim

def lenx (P : Program) (ty : TypeId) (x : AV) (k : AV → Prop) : Prop :=
  match x with
  | .sl _ _ len _ => (elemT P ty).isSome = true ∧ k (.int .i64 len)
  | .nils => (elemT P ty).isSome = true ∧ k (.int .i64 0)
  | .ro len _ => (elemT P ty).isSome = true ∧ k (.int .i64 len)
  | .str s => isStrT P ty = true ∧ k (.int .i64 s.size)
  | .agg _ => ∃ q, arrT P ty = some q ∧ k (.int .i64 q.1)
  | _ => False
theorem lenx_ok {ty ty' : TypeId} {x : AV} {k : AV → Prop} (h : lenx P ty x k) {u : Value} (hu : Den H B x u) :
    ∃ v av, (∀ w', (Builtin.len_ #[ty] ty' #[u]).run P w' = .ok v w') ∧ Den H B av v ∧ k av := by
  unfold lenx at h
  split at h
  · obtain ⟨he, h⟩ := h
    obtain ⟨e, he⟩ := Option.isSome_iff_exists.1 he
    simp only [Den] at hu
    obtain ⟨b, a, hb, rfl, hl⟩ := hu
    exact give_int h fun w' => by simp [Builtin.len_, run_underlying (elemT_some he), goInt]
  · obtain ⟨he, h⟩ := h
    obtain ⟨e, he⟩ := Option.isSome_iff_exists.1 he
    simp only [Den] at hu
    subst hu
    exact give_int h fun w' => by simp [Builtin.len_, run_underlying (elemT_some he), goInt]
  · obtain ⟨he, h⟩ := h
    obtain ⟨e, he⟩ := Option.isSome_iff_exists.1 he
    simp only [Den] at hu
    obtain ⟨A, c, rfl, hl⟩ := hu
    exact give_int h fun w' => by simp [Builtin.len_, run_underlying (elemT_some he), goInt]
  · obtain ⟨he, h⟩ := h
    simp only [Den] at hu
    subst hu
    exact give_int h fun w' => by simp [Builtin.len_, run_underlying (isStrT_some he), goInt]
  · obtain ⟨q, he, h⟩ := h
    simp only [Den] at hu
    obtain ⟨cs, rfl, hl⟩ := hu
    exact give_int h fun w' => by simp [Builtin.len_, run_underlying (arrT_some he), goInt]
  · exact h.elim
def mmI (mx : Bool) : Int → List AV → Option Int
  | x, [] => some x
  | x, .int _ y :: r => mmI mx (if mx then (if y > x then y else x) else (if y < x then y else x)) r
  | _, _ => none
def mmx (mx : Bool) (l : List AV) (k : AV → Prop) : Prop :=
  match l with
  | .int q x :: r => ∃ y, mmI mx x r = some y ∧ k (.int q y)
  | _ => False
theorem min_ok : ∀ {r : List AV} {vs : List Value} {x y : Int} (q : IntKind), mmI false x r = some y → DenL H B r vs → ∀ w', (vs.foldlM Builtin.min2 (.int q x) : Sem Value).run P w' = .ok (.int q y) w'
  | [], vs, x, y, q, h, hd, w' => by simp only [DenL] at hd; subst hd; simp [mmI] at h; subst h; rfl
  | .int q' z :: r, vs, x, y, q, h, hd, w' => by
    simp only [DenL, Den] at hd
    obtain ⟨v, s, rfl, rfl, hd⟩ := hd
    simp only [List.foldlM_cons, Builtin.min2, Sem.run_bind, Sem.run_pure, Result.andThen_ok]
    exact min_ok q (by simpa [mmI] using h) hd w'
theorem max_ok : ∀ {r : List AV} {vs : List Value} {x y : Int} (q : IntKind), mmI true x r = some y → DenL H B r vs → ∀ w', (vs.foldlM Builtin.max2 (.int q x) : Sem Value).run P w' = .ok (.int q y) w'
  | [], vs, x, y, q, h, hd, w' => by simp only [DenL] at hd; subst hd; simp [mmI] at h; subst h; rfl
  | .int q' z :: r, vs, x, y, q, h, hd, w' => by
    simp only [DenL, Den] at hd
    obtain ⟨v, s, rfl, rfl, hd⟩ := hd
    simp only [List.foldlM_cons, Builtin.max2, Sem.run_bind, Sem.run_pure, Result.andThen_ok]
    exact max_ok q (by simpa [mmI] using h) hd w'
def evs (t : Slots) : List Operand → Option (List AV)
  | [] => some []
  | x :: r => match evx t x, evs t r with
    | some v, some s => some (v :: s)
    | _, _ => none
theorem evs_ok (hs : SlotsOk N H B t a) : ∀ {l : List Operand} {vs : List AV}, evs t l = some vs → DenL H B vs (l.map a.eval)
  | [], vs, h => by simp [evs] at h; subst h; simp [DenL]
  | x :: r, vs, h => by
    unfold evs at h
    split at h
    · rename_i v s h1 h2
      cases h
      simp only [List.map_cons, DenL]
      exact ⟨_, _, rfl, evx_ok hs h1, evs_ok hs h2⟩
    · cases h
def withl (o : Option (List AV)) (k : List AV → Prop) : Prop := match o with | some v => k v | none => False
theorem withl_some (v : List AV) (k : List AV → Prop) : withl (some v) k = k v := rfl
theorem withl_elim {o : Option (List AV)} {k : List AV → Prop} (h : withl o k) : ∃ v, o = some v ∧ k v := by
  cases o with
  | none => exact h.elim
  | some v => exact ⟨v, rfl, h⟩
def bltx (P : Program) (b : Builtin) (ts : Array TypeId) (l : List AV) (k : AV → Prop) : Prop :=
  match b with
  | .len => match ts.toList, l with
    | [ty], [x] => lenx P ty x k
    | _, _ => False
  | .min => mmx false l k
  | .max => mmx true l k
  | _ => False
theorem bltx_ok {b : Builtin} {ts : Array TypeId} {l : List AV} {k : AV → Prop} (h : bltx P b ts l k) {vs : List Value} (hd : DenL H B l vs) (ty : TypeId) (cc : Array Bool) :
    ∃ v av, (∀ w', (builtin b ts ty cc vs.toArray).run P w' = .ok (.value v) w') ∧ Den H B av v ∧ k av := by
  unfold bltx at h
  split at h
  · split at h
    · rename_i ty' x hts
      simp only [DenL] at hd
      obtain ⟨u, s, rfl, hu, rfl⟩ := hd
      obtain ⟨v, av, hr, hdv, hk⟩ := lenx_ok (ty' := ty) h hu
      have hts' : ts = #[ty'] := by rw [← Array.toArray_toList (xs := ts), hts]
      subst hts'
      refine ⟨v, av, fun w' => ?_, hdv, hk⟩
      simp only [builtin, Sem.run_bind, hr, Result.andThen_ok, Sem.run_pure]
    · exact h.elim
  · unfold mmx at h
    split at h
    · rename_i q x r
      obtain ⟨y, hy, h⟩ := h
      simp only [DenL, Den] at hd
      obtain ⟨u, s, rfl, rfl, hd⟩ := hd
      refine ⟨.int q y, _, fun w' => ?_, by simp only [Den], h⟩
      simp only [builtin, Sem.run_bind, Builtin.min_, min_ok q hy hd, Result.andThen_ok, Sem.run_pure]
    · exact h.elim
  · unfold mmx at h
    split at h
    · rename_i q x r
      obtain ⟨y, hy, h⟩ := h
      simp only [DenL, Den] at hd
      obtain ⟨u, s, rfl, rfl, hd⟩ := hd
      refine ⟨.int q y, _, fun w' => ?_, by simp only [Den], h⟩
      simp only [builtin, Sem.run_bind, Builtin.max_, max_ok q hy hd, Result.andThen_ok, Sem.run_pure]
    · exact h.elim
  · exact h.elim

/-! build -/
def setMany (l : List AV) (off : Nat) : List AV → List AV
  | [] => l
  | v :: r => setMany (l.set off v) (off + 1) r
def fillA (place : Nat → Option (Nat × Nat)) (cells : List AV) : List (Nat × AV) → Option (List AV)
  | [] => some cells
  | (i, v) :: rest => match place i with
    | none => none
    | some (off, size) => if isTup v = false ∧ (acells v).length = size ∧ off + (acells v).length ≤ cells.length then fillA place (setMany cells off (acells v)) rest else none
theorem setMany_den : ∀ {vs : List AV} {us : List Value} {l : List AV} {cs : List Value} {off : Nat}, DenL H B vs us → DenL H B l cs → ∀ j, DenL H B (setMany l (off + j) vs) (us.zipIdx j |>.foldl (fun cs (c, i) => cs.set (off + i) c) cs)
  | [], us, l, cs, off, h1, h2, j => by simp only [DenL] at h1; subst h1; simpa [setMany] using h2
  | v :: r, us, l, cs, off, h1, h2, j => by
    simp only [DenL] at h1
    obtain ⟨u, s, rfl, hu, hr⟩ := h1
    simp only [setMany, List.zipIdx_cons, List.foldl_cons]
    exact setMany_den hr (h2.set _ hu) (j + 1)
theorem setMany_length : ∀ (vs l : List AV) (off : Nat), (setMany l off vs).length = l.length
  | [], l, off => rfl
  | v :: r, l, off => by simp [setMany, setMany_length r]
theorem foldl_toArray (us : List Value) : ∀ (j off : Nat) (cs : List Value), (us.zipIdx j).foldl (fun (cs : Array Value) (x : Value × Nat) => cs.setIfInBounds (off + x.2) x.1) cs.toArray = ((us.zipIdx j).foldl (fun (cs : List Value) (x : Value × Nat) => cs.set (off + x.2) x.1) cs).toArray := by
  induction us with
  | nil => intro j off cs; rfl
  | cons u r ih =>
    intro j off cs
    simp only [List.zipIdx_cons, List.foldl_cons, List.setIfInBounds_toArray]
    exact ih (j + 1) off _
theorem fillA_ok {place : Nat → Option (Nat × Nat)} : ∀ {parts : List (Nat × AV)} {vals : List (Nat × Value)} {l l' : List AV} {cs : List Value}, fillA place l parts = some l' → DenL H B l cs →
    vals.length = parts.length → (∀ (j i : Nat) (x : AV) (u : Value) (i' : Nat), parts[j]? = some (i, x) → vals[j]? = some (i', u) → i' = i ∧ Den H B x u) → ∃ cs', Instr.fill place cs.toArray vals = some cs'.toArray ∧ DenL H B l' cs'
  | [], vals, l, l', cs, h, hd, hl, hv => by
    have : vals = [] := List.eq_nil_of_length_eq_zero (by simpa using hl)
    subst this
    simp [fillA] at h
    subst h
    exact ⟨cs, rfl, hd⟩
  | (i, x) :: rest, [], l, l', cs, h, hd, hl, hv => by simp at hl
  | (i, x) :: rest, (i', u) :: vr, l, l', cs, h, hd, hl, hv => by
    obtain ⟨rfl, hu⟩ := hv 0 i x u i' rfl rfl
    unfold fillA at h
    split at h
    · cases h
    · rename_i off size hp
      split at h
      · rename_i hc
        obtain ⟨ht, h1, h2⟩ := hc
        have hcells := den_cells hu ht
        have hsz : u.cells.size = size := by rw [← Array.length_toList, hcells.length]; exact h1
        have hz : Array.zipIdx u.cells = (u.cells.toList.zipIdx).toArray := by
          apply Array.ext'
          simp
        have hstep : (u.cells.zipIdx.foldl (fun cs (x : Value × Nat) => cs.setIfInBounds (off + x.2) x.1) cs.toArray) = ((u.cells.toList.zipIdx).foldl (fun (cs : List Value) (x : Value × Nat) => cs.set (off + x.2) x.1) cs).toArray := by
          rw [hz, List.foldl_toArray']
          exact foldl_toArray _ 0 off cs
          rfl
        have hnew := setMany_den (off := off) hcells hd 0
        obtain ⟨cs', h3, h4⟩ := fillA_ok (vals := vr) h hnew (by simpa using hl) fun j i2 x2 u2 i3 e1 e2 => hv (j + 1) i2 x2 u2 i3 (by simpa using e1) (by simpa using e2)
        refine ⟨cs', ?_, h4⟩
        simp only [Instr.fill, hp]
        rw [if_neg (by
          have hl1 := hd.length
          have hl2 := hcells.length
          simp only [Bool.or_eq_true, decide_eq_true_eq, not_or, List.size_toArray, ne_eq, Decidable.not_not]
          rw [Array.length_toList] at hl2
          refine ⟨by simpa using hsz, by omega⟩)]
        show Instr.fill place (u.cells.zipIdx.foldl (fun cs (x : Value × Nat) => cs.setIfInBounds (off + x.2) x.1) cs.toArray) vr = _
        rw [hstep]
        exact h3
      · cases h
def evp (t : Slots) : List (Nat × Operand) → Option (List (Nat × AV))
  | [] => some []
  | (i, x) :: r => match evx t x, evp t r with
    | some v, some s => some ((i, v) :: s)
    | _, _ => none
theorem evp_ok (hs : SlotsOk N H B t a) : ∀ {l : List (Nat × Operand)} {vs : List (Nat × AV)}, evp t l = some vs → l.length = vs.length ∧ ∀ (j i : Nat) (x : AV) (u : Value) (i' : Nat), vs[j]? = some (i, x) → (l.map fun p => (p.1, a.eval p.2))[j]? = some (i', u) → i' = i ∧ Den H B x u
  | [], vs, h => by simp [evp] at h; subst h; exact ⟨rfl, fun j i x u i' e => by simp at e⟩
  | (i0, x0) :: r, vs, h => by
    unfold evp at h
    split at h
    · rename_i v s h1 h2
      cases h
      obtain ⟨h3, h4⟩ := evp_ok hs h2
      refine ⟨by simp [h3], fun j i x u i' e1 e2 => ?_⟩
      cases j with
      | zero => simp at e1 e2; obtain ⟨rfl, rfl⟩ := e1; obtain ⟨rfl, rfl⟩ := e2; exact ⟨rfl, evx_ok hs h1⟩
      | succ j => exact h4 j i x u i' (by simpa using e1) (by simpa using e2)
    · cases h
/-- where a part of a struct's or an array's value lies -/
def placesT (P : Program) (ty : TypeId) : Option (List (Nat × Nat)) :=
  match P.underlying ty with
  | some (.struct fs) => fs.toList.mapM fun f => (sizeT P f.type).map fun s => (f.offset, s)
  | _ => none
def buildx (P : Program) (ty : TypeId) (parts : List (Nat × AV)) (k : AV → Prop) : Prop :=
  ∃ z, zav P ty = some z ∧
  match placesT P ty, arrT P ty with
  | some ps, _ => ∃ l, fillA (fun i => ps[i]?) z parts = some l ∧ k (.agg l)
  | none, some q => ∃ s, sizeT P q.2 = some s ∧ ∃ l, fillA (fun i => some (i * s, s)) z parts = some l ∧ k (.agg l)
  | none, none => False
theorem mapM_run {f : Field → Sem (Nat × Nat)} {g : Field → Option (Nat × Nat)} (hf : ∀ x y, g x = some y → ∀ w', (f x).run P w' = .ok y w') : ∀ {l : List Field} {ps : List (Nat × Nat)}, l.mapM g = some ps → ∀ w', (l.mapM f).run P w' = .ok ps w'
  | [], ps, h, w' => by simp at h; subst h; rfl
  | x :: r, ps, h, w' => by
    simp only [List.mapM_cons, Option.pure_def, Option.bind_eq_bind, Option.bind_eq_some_iff] at h
    obtain ⟨y, hy, s, hs, e⟩ := h
    cases e
    simp only [List.mapM_cons, Sem.run_bind, hf x y hy, Result.andThen_ok, mapM_run hf hs, Sem.run_pure]
theorem buildx_ok {ty : TypeId} {parts : List (Nat × AV)} {k : AV → Prop} (h : buildx P ty parts k) {vals : List (Nat × Value)} (hl : vals.length = parts.length)
    (hv : ∀ (j i : Nat) (x : AV) (u : Value) (i' : Nat), parts[j]? = some (i, x) → vals[j]? = some (i', u) → i' = i ∧ Den H B x u) :
    ∃ v av, (∀ w', (Instr.build ty vals.toArray).run P w' = .ok v w') ∧ Den H B av v ∧ k av := by
  obtain ⟨z, hz, h⟩ := h
  split at h
  · rename_i ps hps
    obtain ⟨l, hl', h⟩ := h
    unfold placesT at hps
    split at hps
    · rename_i fs hu
      obtain ⟨v0, hv0, hd0⟩ := zav_run hz default H B
      obtain ⟨cs', h1, h2⟩ := fillA_ok hl' hd0 hl hv
      refine ⟨.agg cs'.toArray, _, fun w' => ?_, by simp only [Den]; exact ⟨_, rfl, h2⟩, h⟩
      obtain ⟨v1, hv1, hd1⟩ := zav_run hz w' H B
      have hzz : v1 = v0 := by
        unfold zav at hz
        obtain ⟨vv, hvv, _⟩ := Option.map_eq_some_iff.1 hz
        obtain ⟨i, hi, hzz⟩ := Option.bind_eq_some_iff.1 hvv
        simp [zeroValue, typeInfo, hi, hzz] at hv0 hv1
        rw [← hv0, ← hv1]
      subst hzz
      have hm : (fs.mapM fun f => do pure (f.offset, ← sizeOf f.type) : Sem (Array (Nat × Nat))).run P w' = .ok ps.toArray w' := by
        rw [← Array.toArray_toList (xs := fs), List.mapM_toArray, Sem.run_map]
        rw [mapM_run (g := fun f => (sizeT P f.type).map fun s => (f.offset, s)) (fun x y hy w'' => by
          obtain ⟨s, hs, rfl⟩ := Option.map_eq_some_iff.1 hy
          simp only [Sem.run_bind, sizeT_run hs, Result.andThen_ok, Sem.run_pure]) (by simpa using hps) w']
        rfl
      have h1' : Instr.fill (fun (i : Nat) => ps.toArray[i]?) v1.cells vals = some cs'.toArray := by
        have : (fun (i : Nat) => ps.toArray[i]?) = (fun (i : Nat) => ps[i]?) := by funext i; simp
        rw [this]
        simpa using h1
      simp only [Instr.build, Sem.run_bind, hv1, Result.andThen_ok, run_underlying hu, hm, h1', Sem.run_pure]
    · cases hps
  · rename_i q _ hq
    obtain ⟨s, hs, l, hl', h⟩ := h
    obtain ⟨v0, hv0, hd0⟩ := zav_run hz default H B
    obtain ⟨cs', h1, h2⟩ := fillA_ok hl' hd0 hl hv
    refine ⟨.agg cs'.toArray, _, fun w' => ?_, by simp only [Den]; exact ⟨_, rfl, h2⟩, h⟩
    obtain ⟨v1, hv1, hd1⟩ := zav_run hz w' H B
    have hzz : v1 = v0 := by
      unfold zav at hz
      obtain ⟨vv, hvv, _⟩ := Option.map_eq_some_iff.1 hz
      obtain ⟨i, hi, hzz⟩ := Option.bind_eq_some_iff.1 hvv
      simp [zeroValue, typeInfo, hi, hzz] at hv0 hv1
      rw [← hv0, ← hv1]
    subst hzz
    have h1' : Instr.fill (fun i => some (i * s, s)) v1.cells vals = some cs'.toArray := by simpa using h1
    simp only [Instr.build, Sem.run_bind, hv1, Result.andThen_ok, run_underlying (arrT_some (show arrT P ty = some (q.1, q.2) from hq)), sizeT_run hs, h1', Sem.run_pure]
  · exact h.elim

/-! all of them -/
/-- a slice's begin, taken as an array -/
def s2ax (P : Program) (ty : TypeId) (x : AV) (k : AV → Prop) : Prop := match x with
  | .sl n off len cap => ∃ q, arrT P ty = some q ∧ 0 < q.1 ∧ q.1 ≤ len ∧ k (.ptr n off)
  | .ro len xs => ∃ q, arrT P ty = some q ∧ 0 < q.1 ∧ q.1 ≤ len ∧ 0 < xs.length ∧ k (.rop xs)
  | _ => False
theorem s2ax_ok {ty : TypeId} {x : AV} {k : AV → Prop} (h : s2ax P ty x k) {u : Value} (hu : Den H B x u) : ∃ v av, (∀ w', (Instr.arrayAt ty u).run P w' = .ok v w') ∧ Den H B av v ∧ k av := by
  unfold s2ax at h
  split at h
  · rename_i n off len cap
    obtain ⟨q, hq, h0, hl, h⟩ := h
    simp only [Den] at hu
    obtain ⟨b, a, hb, rfl, hlc, ha⟩ := hu
    have ha := ha (by omega)
    subst ha
    refine ⟨.pointer (some ⟨b, off, none⟩), _, fun w' => ?_, by simp only [Den]; exact ⟨b, hb, rfl⟩, h⟩
    have hn : ¬ len < q.1 := by omega
    simp only [Instr.arrayAt, Sem.run_bind, run_underlying (arrT_some (show arrT P ty = some (q.1, q.2) from hq)), Result.andThen_ok, if_neg hn, Sem.run_pure]
  · rename_i len xs
    obtain ⟨q, hq, h0, hl, hx, h⟩ := h
    simp only [Den] at hu
    obtain ⟨A, cap, rfl, hlc, hd⟩ := hu
    obtain ⟨a, v, rfl, _⟩ := hd.get 0 _ (List.getElem?_eq_getElem hx)
    refine ⟨.pointer (some a), _, fun w' => ?_, by simp only [Den]; exact ⟨a, rfl, hd⟩, h⟩
    have hn : ¬ len < q.1 := by omega
    simp only [Instr.arrayAt, Sem.run_bind, run_underlying (arrT_some (show arrT P ty = some (q.1, q.2) from hq)), Result.andThen_ok, if_neg hn, Sem.run_pure]
  · exact h.elim
def nilx (x : AV) (k : AV → Prop) : Prop :=
  match x with
  | .ptr n o => k (.ptr n o)
  | .rop xs => k (.rop xs)
  | .fn (.func g) fi ca => k (.fn (.func g) fi ca)
  | _ => False
theorem nilx_ok {x : AV} {k : AV → Prop} (h : nilx x k) {u : Value} (hu : Den H B x u) {o : Oper} {y : Operand} (ho : o.op = .nilCheck y) (he : a.eval y = u) :
    ∃ v av, (∀ w', (execOp a.eval o).run P w' = .ok (.value v) w') ∧ Den H B av v ∧ k av := by
  unfold nilx at h
  have hu0 := hu
  split at h
  · simp only [Den] at hu
    obtain ⟨b, hb, rfl⟩ := hu
    exact ⟨_, _, fun w' => by unfold execOp; simp only [ho, he]; rfl, hu0, h⟩
  · simp only [Den] at hu
    obtain ⟨b, rfl, hb⟩ := hu
    exact ⟨_, _, fun w' => by unfold execOp; simp only [ho, he]; rfl, hu0, h⟩
  · simp only [Den] at hu
    obtain ⟨p, q, rfl, h1, h2⟩ := hu
    exact ⟨_, _, fun w' => by unfold execOp; simp only [ho, he]; rfl, hu0, h⟩
  · exact h.elim
def rdx (P : Program) (rd : Nat → Bool) (t : Slots) (m : Mem) (op : Op) (k : AV → Prop) : Prop :=
  match op with
  | .move x => withv (evx t x) k
  | .assign x => withv (evx t x) k
  | .pick c x y => withv (evx t c) fun cv => match cv with
    | .bool q => (q = true → withv (evx t x) k) ∧ (q = false → withv (evx t y) k)
    | _ => False
  | .build ty parts => match evp t parts.toList with
    | some ps => buildx P ty ps k
    | none => False
  | .load ty p => withv (evx t p) fun v => loadx P rd m ty v k
  | .nilCheck x => withv (evx t x) fun v => nilx v k
  | .binOp op ty x y _ => withv (evx t x) fun u => withv (evx t y) fun v => binx P op ty u v k
  | .unOp op _ x => withv (evx t x) fun u => unx op u k
  | .convert s d x => withv (evx t x) fun u => convx P rd m s d u k
  | .sliceToArrayPointer ty x => withv (evx t x) fun u => s2ax P ty u k
  | .makeInterface ty x => withv (evx t x) fun u => known P ty = true ∧ isIfaceT P ty = false ∧ k (.iface ty u)
  | .makeFunc f fi ca => withl (evs t fi.toList) fun p => withl (evs t ca.toList) fun q => k (.fn f p q)
  | .slice ty x lo hi none => withv (evx t x) fun u => match lo.map (evx t), hi.map (evx t) with
    | some none, _ => False
    | _, some none => False
    | l, h => slcx P ty u l.join h.join k
  | .fieldAddr s x f => withv (evx t x) fun u => fldx P s u f k
  | .field s x f => withv (evx t x) fun u => fieldx P s u f k
  | .indexAddr ty x i => withv (evx t x) fun u => withv (evx t i) fun v => idxx P ty u v k
  | .index ty x i => withv (evx t x) fun u => withv (evx t i) fun v => indexx P ty u v k
  | .extract x i => withv (evx t x) fun u => match u with
    | .tup l => withv l[i]? k
    | _ => False
  | .call c => match c.callee with
    | .builtin b => withl (evs t c.args.toList) fun l => bltx P b c.argTypes l k
    | _ => False
  | _ => False
theorem rdx_ok (hi : Inv w0 FP wr m nx H B w) (hs : SlotsOk N H B t a) {o : Oper} {k : AV → Prop} (h : rdx P rd t m o.op k) :
    ∃ v av, (∀ w', Sees H B m rd w w' → (execOp a.eval o).run P w' = .ok (.value v) w') ∧ Den H B av v ∧ k av := by
  have up : ∀ {S : Sem Value} {k : AV → Prop}, (∀ w', Sees H B m rd w w' → (execOp a.eval o).run P w' = (do pure (.value (← S)) : Sem Next).run P w') → (∃ v av, (∀ w', Sees H B m rd w w' → S.run P w' = .ok v w') ∧ Den H B av v ∧ k av) →
      ∃ v av, (∀ w', Sees H B m rd w w' → (execOp a.eval o).run P w' = .ok (.value v) w') ∧ Den H B av v ∧ k av := by
    intro S k h1 ⟨v, av, h2, h3, h4⟩
    exact ⟨v, av, fun w' hw => by rw [h1 w' hw, Sem.run_bind, h2 w' hw]; rfl, h3, h4⟩
  have up' : ∀ {S : Sem Value} {k : AV → Prop}, (∀ w', Sees H B m rd w w' → (execOp a.eval o).run P w' = (do pure (.value (← S)) : Sem Next).run P w') → (∃ v av, (∀ w', S.run P w' = .ok v w') ∧ Den H B av v ∧ k av) →
      ∃ v av, (∀ w', Sees H B m rd w w' → (execOp a.eval o).run P w' = .ok (.value v) w') ∧ Den H B av v ∧ k av :=
    fun h1 ⟨v, av, h2, h3, h4⟩ => up h1 ⟨v, av, fun w' _ => h2 w', h3, h4⟩
  unfold rdx at h
  split at h
  · rename_i x ho
    obtain ⟨v, e, h⟩ := withv_elim h
    exact ⟨_, v, fun w' _ => by unfold execOp; simp only [ho]; rfl, evx_ok hs e, h⟩
  · rename_i x ho
    obtain ⟨v, e, h⟩ := withv_elim h
    exact ⟨_, v, fun w' _ => by unfold execOp; simp only [ho]; rfl, evx_ok hs e, h⟩
  · rename_i c x y ho
    obtain ⟨cv, e, h⟩ := withv_elim h
    split at h
    · rename_i q
      have hc := evx_ok hs e
      simp only [Den] at hc
      cases q with
      | true =>
        obtain ⟨v, e, h⟩ := withv_elim (h.1 rfl)
        exact ⟨_, v, fun w' _ => by unfold execOp; simp only [ho, hc, asBool, Sem.run_bind, Sem.run_pure, Result.andThen_ok, if_true], evx_ok hs e, h⟩
      | false =>
        obtain ⟨v, e, h⟩ := withv_elim (h.2 rfl)
        exact ⟨_, v, fun w' _ => by unfold execOp; simp only [ho, hc, asBool, Sem.run_bind, Sem.run_pure, Result.andThen_ok, Bool.false_eq_true, if_false], evx_ok hs e, h⟩
    · exact h.elim
  · rename_i ty parts ho
    split at h
    · rename_i ps hps
      obtain ⟨h1, h2⟩ := evp_ok hs hps
      refine up' (S := Instr.build ty (parts.toList.map fun p => (p.1, a.eval p.2)).toArray) (fun w' _ => ?_) (buildx_ok h (by simpa using h1) h2)
      unfold execOp; simp only [ho]
      congr 3
      rw [← List.map_toArray, Array.toArray_toList]
    · exact h.elim
  · rename_i ty p ho
    obtain ⟨u, e, h⟩ := withv_elim h
    exact up (fun w' _ => by unfold execOp; simp only [ho]) (loadx_ok hi h (evx_ok hs e))
  · rename_i x ho
    obtain ⟨u, e, h⟩ := withv_elim h
    obtain ⟨v, av, h1, h2, h3⟩ := nilx_ok (P := P) h (evx_ok hs e) ho rfl
    exact ⟨v, av, fun w' _ => h1 w', h2, h3⟩
  · rename_i op ty x y ty2 ho
    obtain ⟨u, e, h⟩ := withv_elim h
    obtain ⟨v, e', h⟩ := withv_elim h
    exact up' (fun w' _ => by unfold execOp; simp only [ho]) (binx_ok h (evx_ok hs e) (evx_ok hs e') x y)
  · rename_i op ty x ho
    obtain ⟨u, e, h⟩ := withv_elim h
    exact up' (fun w' _ => by unfold execOp; simp only [ho]) (unx_ok h (evx_ok hs e))
  · rename_i s d x ho
    obtain ⟨u, e, h⟩ := withv_elim h
    exact up (fun w' _ => by unfold execOp; simp only [ho]) (convx_ok hi h (evx_ok hs e))
  · rename_i ty x ho
    obtain ⟨u, e, h⟩ := withv_elim h
    exact up' (fun w' _ => by unfold execOp; simp only [ho]) (s2ax_ok h (evx_ok hs e))
  · rename_i ty x ho
    obtain ⟨u, e, h⟩ := withv_elim h
    obtain ⟨hk, hn, h⟩ := h
    obtain ⟨d, hd⟩ := Option.isSome_iff_exists.1 hk
    refine ⟨.iface ty (a.eval x), _, fun w' _ => ?_, by simp only [Den]; exact ⟨_, rfl, evx_ok hs e⟩, h⟩
    unfold execOp
    simp only [ho, Instr.makeInterface, Sem.run_bind, run_underlying hd, Result.andThen_ok]
    unfold isIfaceT at hn
    rw [hd] at hn
    cases d <;> first | rfl | (simp at hn)
  · rename_i f fi ca ho
    obtain ⟨p, e, h⟩ := withl_elim h
    obtain ⟨q, e', h⟩ := withl_elim h
    refine ⟨.func f (fi.map a.eval) (ca.map a.eval), _, fun w' _ => by unfold execOp; simp only [ho, Instr.makeFunc, Sem.run_bind, Sem.run_pure, Result.andThen_ok], ?_, h⟩
    simp only [Den]
    exact ⟨_, _, by rw [← List.map_toArray, ← List.map_toArray, Array.toArray_toList, Array.toArray_toList], evs_ok hs e, evs_ok hs e'⟩
  · rename_i ty x lo hi' ho
    obtain ⟨u, e, h⟩ := withv_elim h
    split at h
    · exact h.elim
    · exact h.elim
    · rename_i n1 n2
      refine up' (S := Instr.sliceAt ty (a.eval x) (lo.map a.eval) (hi'.map a.eval) none) (fun w' _ => by unfold execOp; simp only [ho, Option.map_none]) (slcx_ok h (evx_ok hs e) ?_ ?_ ?_ ?_)
      · intro z hz
        cases lo with
        | none => simp at hz
        | some y => simp at hz; exact ⟨_, rfl, evx_ok hs hz⟩
      · intro hz
        cases lo with
        | none => rfl
        | some y => simp at hz; exact absurd (by simp [hz]) n1
      · intro z hz
        cases hi' with
        | none => simp at hz
        | some y => simp at hz; exact ⟨_, rfl, evx_ok hs hz⟩
      · intro hz
        cases hi' with
        | none => rfl
        | some y => simp at hz; exact absurd (by simp [hz]) n2
  · rename_i s x f ho
    obtain ⟨u, e, h⟩ := withv_elim h
    exact up' (fun w' _ => by unfold execOp; simp only [ho]) (fldx_ok h (evx_ok hs e))
  · rename_i s x f ho
    obtain ⟨u, e, h⟩ := withv_elim h
    exact up' (fun w' _ => by unfold execOp; simp only [ho]) (fieldx_ok h (evx_ok hs e))
  · rename_i ty x i ho
    obtain ⟨u, e, h⟩ := withv_elim h
    obtain ⟨v, e', h⟩ := withv_elim h
    exact up' (fun w' _ => by unfold execOp; simp only [ho]) (idxx_ok h (evx_ok hs e) (evx_ok hs e'))
  · rename_i ty x i ho
    obtain ⟨u, e, h⟩ := withv_elim h
    obtain ⟨v, e', h⟩ := withv_elim h
    exact up' (fun w' _ => by unfold execOp; simp only [ho]) (indexx_ok h (evx_ok hs e) (evx_ok hs e'))
  · rename_i x i ho
    obtain ⟨u, e, h⟩ := withv_elim h
    split at h
    · rename_i l
      obtain ⟨v, e', h⟩ := withv_elim h
      have hd := evx_ok hs e
      simp only [Den] at hd
      obtain ⟨cs, hcs, hd⟩ := hd
      obtain ⟨u, hu, hdu⟩ := hd.get i v e'
      have hu' : cs.toArray[i]? = some u := by simpa using hu
      exact ⟨u, v, fun w' _ => by unfold execOp; simp only [ho, hcs, Instr.extract, hu', Sem.run_bind, Sem.run_pure, Result.andThen_ok], hdu, h⟩
    · exact h.elim
  · rename_i c ho
    split at h
    · rename_i b hb
      obtain ⟨l, e, h⟩ := withl_elim h
      obtain ⟨v, av, h1, h2, h3⟩ := bltx_ok h (evs_ok hs e) o.type (c.args.map fun | .const _ => true | _ => false)
      refine ⟨v, av, fun w' _ => ?_, h2, h3⟩
      have h1' := h1 w'
      rw [← List.map_toArray, Array.toArray_toList] at h1'
      unfold execOp
      simp only [ho, resolve, hb, Sem.run_bind, Sem.run_pure, Result.andThen_ok, invoke]
      exact h1'
    · exact h.elim
  · exact h.elim
end
end Go.Eng
