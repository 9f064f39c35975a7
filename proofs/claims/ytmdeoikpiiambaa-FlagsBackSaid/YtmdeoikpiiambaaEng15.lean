/- The engine, part 12b: the equations once more, so that nothing behind an unknown is walked before it is known. Printed by a program of our own. -/
import Derived.Test.YtmdeoikpiiambaaEng11
set_option linter.unusedVariables false
set_option linter.unusedSimpArgs false
namespace Go.Eng
open Go
/-- what is asked of the type's facts, and what follows -/
def Asks {α : Type} (o : Option α) (f : α → Prop) : Prop := ∃ x, o = some x ∧ f x
@[congr] theorem Asks_congr {α : Type} {o o' : Option α} {f : α → Prop} (h : o = o') : Asks o f = Asks o' f := by rw [h]
theorem Asks_some {α : Type} (x : α) (f : α → Prop) : Asks (some x) f = f x := by
  simp only [Asks, Option.some.injEq, exists_eq_left']
theorem binx_aeql (P : Program) (ty : TypeId) (k : AV → Prop) (a b : List AV) : binx P .eql ty (.agg a) (.agg b) k = (eqAggT P ty = true ∧ Asks (aggLits P ty a) fun la => Asks (aggLits P ty b) fun lb => k (.bool (litEq la lb))) := rfl
theorem binx_aneq (P : Program) (ty : TypeId) (k : AV → Prop) (a b : List AV) : binx P .neq ty (.agg a) (.agg b) k = (eqAggT P ty = true ∧ Asks (aggLits P ty a) fun la => Asks (aggLits P ty b) fun lb => k (.bool (!(litEq la lb)))) := rfl
theorem pickx_true (P : Program) (ty : TypeId) (l : List AV) (off : Nat) (k : AV → Prop) : pickx true P ty l off k = (Asks (sizeT P ty) fun s => off + s ≤ l.length ∧ k (.agg ((l.drop off).take s))) := rfl
theorem pickx_false (P : Program) (ty : TypeId) (l : List AV) (off : Nat) (k : AV → Prop) : pickx false P ty l off k = (off < l.length ∧ k (l.getD off (dflt P ty))) := rfl
theorem idxx_sl (P : Program) (t : TypeId) (n off len cap : Nat) (q : IntKind) (i : Int) (k : AV → Prop) : idxx P t (.sl n off len cap) (.int q i) k = (Asks (elemT P t) fun e => Asks (sizeT P e) fun s => (0 ≤ i ∧ i < len) ∧ k (.ptr n (off + i.toNat * s))) := rfl
theorem idxx_ptr (P : Program) (t : TypeId) (n off : Nat) (q : IntKind) (i : Int) (k : AV → Prop) : idxx P t (.ptr n off) (.int q i) k = (Asks (arrT P t) fun q => Asks (sizeT P q.2) fun s => (0 ≤ i ∧ i < q.1) ∧ k (.ptr n (off + i.toNat * s))) := rfl
theorem idxx_ro (P : Program) (t : TypeId) (len : Nat) (xs : List AV) (q : IntKind) (i : Int) (k : AV → Prop) : idxx P t (.ro len xs) (.int q i) k = (Asks (elemT P t) fun e => Asks (sizeT P e) fun s => (0 ≤ i ∧ i < len) ∧ i.toNat * s < xs.length ∧ k (.rop (xs.drop (i.toNat * s)))) := rfl
theorem idxx_rop (P : Program) (t : TypeId) (xs : List AV) (q : IntKind) (i : Int) (k : AV → Prop) : idxx P t (.rop xs) (.int q i) k = (Asks (arrT P t) fun q => Asks (sizeT P q.2) fun s => (0 ≤ i ∧ i < q.1) ∧ k (.rop (xs.drop (i.toNat * s)))) := rfl
theorem fldx_ptr (P : Program) (t : TypeId) (n off f : Nat) (k : AV → Prop) : fldx P t (.ptr n off) f k = (Asks (fieldT P t f) fun q => Asks (sizeT P q.2) fun s => s ≠ 0 ∧ k (.ptr n (off + q.1))) := rfl
theorem fldx_rop (P : Program) (t : TypeId) (xs : List AV) (f : Nat) (k : AV → Prop) : fldx P t (.rop xs) f k = (Asks (fieldT P t f) fun q => Asks (sizeT P q.2) fun s => s ≠ 0 ∧ k (.rop (xs.drop q.1))) := rfl
theorem fieldx_agg (P : Program) (t : TypeId) (l : List AV) (f : Nat) (k : AV → Prop) : fieldx P t (.agg l) f k = (Asks (fieldT P t f) fun q => partx P q.2 l q.1 k) := rfl
theorem indexx_agg (P : Program) (t : TypeId) (l : List AV) (q : IntKind) (i : Int) (k : AV → Prop) : indexx P t (.agg l) (.int q i) k = (Asks (arrT P t) fun q => Asks (sizeT P q.2) fun s => (0 ≤ i ∧ i < q.1) ∧ partx P q.2 l (i.toNat * s) k) := rfl
theorem indexx_str (P : Program) (t : TypeId) (s : ByteArray) (q : IntKind) (i : Int) (k : AV → Prop) : indexx P t (.str s) (.int q i) k = (isStrT P t = true ∧ 0 ≤ i ∧ i.toNat < s.data.toList.length ∧ k (.int .u8 ((s.data.toList.getD i.toNat 0).toNat : Int))) := rfl
theorem slcx_sl (P : Program) (t : TypeId) (n off len cap : Nat) (lo hi : Option AV) (k : AV → Prop) : slcx P t (.sl n off len cap) lo hi k = (Asks (elemT P t) fun e => Asks (sizeT P e) fun s => Asks (loI lo) fun l => Asks (hiI len hi) fun h => (0 ≤ l ∧ l ≤ h ∧ h ≤ cap) ∧ k (.sl n (off + l.toNat * s) (h.toNat - l.toNat) (cap - l.toNat))) := rfl
theorem slcx_nils (P : Program) (t : TypeId) (lo hi : Option AV) (k : AV → Prop) : slcx P t .nils lo hi k = (Asks (elemT P t) fun e => Asks (sizeT P e) fun s => loI lo = some 0 ∧ hiI 0 hi = some 0 ∧ k .nils) := rfl
theorem slcx_ro (P : Program) (t : TypeId) (len : Nat) (xs : List AV) (lo hi : Option AV) (k : AV → Prop) : slcx P t (.ro len xs) lo hi k = (Asks (elemT P t) fun e => Asks (sizeT P e) fun s => Asks (loI lo) fun l => Asks (hiI len hi) fun h => (0 ≤ l ∧ l ≤ h ∧ h ≤ len) ∧ k (.ro (h.toNat - l.toNat) ((xs.drop (l.toNat * s)).take ((h.toNat - l.toNat) * s)))) := rfl
theorem slcx_ptr (P : Program) (t : TypeId) (n off : Nat) (lo hi : Option AV) (k : AV → Prop) : slcx P t (.ptr n off) lo hi k = (Asks (arrT P t) fun q => Asks (sizeT P q.2) fun s => Asks (loI lo) fun l => Asks (hiI q.1 hi) fun h => (0 ≤ l ∧ l ≤ h ∧ h ≤ q.1) ∧ k (.sl n (off + l.toNat * s) (h.toNat - l.toNat) (q.1 - l.toNat))) := rfl
theorem slcx_str (P : Program) (t : TypeId) (s : ByteArray) (lo hi : Option AV) (k : AV → Prop) : slcx P t (.str s) lo hi k = (isStrT P t = true ∧ Asks (loI lo) fun l => Asks (hiI s.size hi) fun h => (0 ≤ l ∧ l ≤ h ∧ h ≤ s.size) ∧ k (.str (s.extract l.toNat h.toNat))) := rfl
theorem convx_int (P : Program) (rd : Nat → Bool) (m : Mem) (src dst : TypeId) (q0 : IntKind) (n : Int) (k : AV → Prop) : convx P rd m src dst (.int q0 n) k = (Asks (intT P dst) fun q => known P src = true ∧ k (.int q (q.wrap n))) := rfl
theorem convx_str (P : Program) (rd : Nat → Bool) (m : Mem) (src dst : TypeId) (s : ByteArray) (k : AV → Prop) : convx P rd m src dst (.str s) k = (isStrT P dst = true ∧ isStrT P src = true ∧ k (.str s)) := rfl
theorem convx_nils (P : Program) (rd : Nat → Bool) (m : Mem) (src dst : TypeId) (k : AV → Prop) : convx P rd m src dst .nils k = (Asks (elemT P src) fun e => intT P e = some .u8 ∧ isStrT P dst = true ∧ k (.str ⟨#[]⟩)) := rfl
theorem convx_ro (P : Program) (rd : Nat → Bool) (m : Mem) (src dst : TypeId) (len : Nat) (xs : List AV) (k : AV → Prop) : convx P rd m src dst (.ro len xs) k = (Asks (elemT P src) fun e => intT P e = some .u8 ∧ isStrT P dst = true ∧ len ≤ xs.length ∧ Asks (u8s (xs.take len)) fun bs => k (.str ⟨bs.toArray⟩)) := rfl
def cvbo (P : Program) (rd : Bool) (src dst : TypeId) (off len : Nat) (k : AV → Prop) : Option AObj → Prop
  | some (.cells l _) => rd = true ∧ Asks (elemT P src) fun e => intT P e = some .u8 ∧ isStrT P dst = true ∧ off + len ≤ l.length ∧ Asks (u8s ((l.drop off).take len)) fun bs => k (.str ⟨bs.toArray⟩)
  | _ => False
theorem cvbo_cells (P : Program) (rd : Bool) (src dst : TypeId) (off len : Nat) (k : AV → Prop) (l : List AV) (ty : TypeId) : cvbo P rd src dst off len k (some (.cells l ty)) = (rd = true ∧ Asks (elemT P src) fun e => intT P e = some .u8 ∧ isStrT P dst = true ∧ off + len ≤ l.length ∧ Asks (u8s ((l.drop off).take len)) fun bs => k (.str ⟨bs.toArray⟩)) := rfl
theorem convx_sl (P : Program) (rd : Nat → Bool) (m : Mem) (src dst : TypeId) (n off len cap : Nat) (k : AV → Prop) : convx P rd m src dst (.sl n off len cap) k = (cvbo P (rd n) src dst off len k (look m n)) := by
  simp only [convx]
  generalize look m n = o
  match o with
  | none => rfl
  | some (.cells l e) => rfl
  | some (.opq o) => rfl
  | some (.fz l e) => rfl
  | some (.mp k a b) => rfl
  | some (.mx k a b c) => rfl
theorem lenx_agg (P : Program) (ty : TypeId) (l : List AV) (k : AV → Prop) : lenx P ty (.agg l) k = (Asks (arrT P ty) fun q => k (.int .i64 q.1)) := rfl
theorem lenx_sl (P : Program) (ty : TypeId) (n off len cap : Nat) (k : AV → Prop) : lenx P ty (.sl n off len cap) k = ((elemT P ty).isSome = true ∧ k (.int .i64 len)) := rfl
theorem lenx_nils (P : Program) (ty : TypeId) (k : AV → Prop) : lenx P ty .nils k = ((elemT P ty).isSome = true ∧ k (.int .i64 0)) := rfl
theorem lenx_ro (P : Program) (ty : TypeId) (len : Nat) (xs : List AV) (k : AV → Prop) : lenx P ty (.ro len xs) k = ((elemT P ty).isSome = true ∧ k (.int .i64 len)) := rfl
theorem lenx_str (P : Program) (ty : TypeId) (s : ByteArray) (k : AV → Prop) : lenx P ty (.str s) k = (isStrT P ty = true ∧ k (.int .i64 s.size)) := rfl
theorem mmx_int (mx : Bool) (q : IntKind) (x : Int) (r : List AV) (k : AV → Prop) : mmx mx (.int q x :: r) k = (Asks (mmI mx x r) fun y => k (.int q y)) := rfl
def bldx (P : Program) (z : List AV) (parts : List (Nat × AV)) (k : AV → Prop) : Option (List (Nat × Nat)) → Option (Nat × TypeId) → Prop
  | some ps, _ => Asks (fillA (fun i => ps[i]?) z parts) fun l => k (.agg l)
  | none, some q => Asks (sizeT P q.2) fun s => Asks (fillA (fun i => some (i * s, s)) z parts) fun l => k (.agg l)
  | none, none => False
theorem bldx_s (P : Program) (z : List AV) (parts : List (Nat × AV)) (k : AV → Prop) (ps : List (Nat × Nat)) (q : Option (Nat × TypeId)) : bldx P z parts k (some ps) q = Asks (fillA (fun i => ps[i]?) z parts) fun l => k (.agg l) := rfl
theorem bldx_n (P : Program) (z : List AV) (parts : List (Nat × AV)) (k : AV → Prop) (q : Nat × TypeId) : bldx P z parts k none (some q) = Asks (sizeT P q.2) fun s => Asks (fillA (fun i => some (i * s, s)) z parts) fun l => k (.agg l) := rfl
theorem buildx_eq (P : Program) (ty : TypeId) (parts : List (Nat × AV)) (k : AV → Prop) : buildx P ty parts k = (Asks (zav P ty) fun z => bldx P z parts k (placesT P ty) (arrT P ty)) := by
  simp only [buildx, Asks]
  cases placesT P ty <;> cases arrT P ty <;> rfl
theorem allocx_eq (P : Program) (ty : TypeId) (m : Mem) (nx : Nat) (K : Kv) : allocx P ty m nx K = (Asks (zav P ty) fun z => K (.ptr nx 0) ((nx, .cells z ty) :: m) (nx + 1)) := rfl
theorem bslx_eq (P : Program) (ty : TypeId) (len : Nat) (parts : List (Nat × AV)) (m : Mem) (nx : Nat) (K : Kv) : bslx P ty len parts m nx K = (Asks (elemT P ty) fun e => Asks (sizeT P e) fun s => len * s ≤ 16777216 ∧ Asks (zav P e) fun z => (len * s = 0 ∨ 0 < z.length) ∧ Asks (fillA (fun i => some (i * s, s)) (zfill z (len * s)) parts) fun l => K (.sl nx 0 len len) ((nx, .cells l e) :: m) (nx + 1)) := rfl
theorem mkslx_int (P : Program) (ty : TypeId) (q1 q2 : IntKind) (x y : Int) (m : Mem) (nx : Nat) (K : Kv) : mkslx P ty (.int q1 x) (.int q2 y) m nx K = (Asks (elemT P ty) fun e => Asks (sizeT P e) fun s => Asks (bytesT P e) fun bt => (0 ≤ x ∧ x ≤ y ∧ y ≤ 9223372036854775807 ∧ bt * y.toNat ≤ 281474976710656) ∧ Asks (zav P e) fun z => z.length = s ∧ 0 < s ∧ K (.sl nx 0 x.toNat y.toNat) ((nx, .cells (zfill z (y.toNat * s)) e) :: m) (nx + 1)) := rfl
theorem appx_two (P : Program) (wr : Nat → Bool) (ty ty2 : TypeId) (dst src : AV) (m : Mem) (nx : Nat) (K : Kv) : appx P wr #[ty, ty2] [dst, src] m nx K = (ty2 = ty ∧ Asks (elemT P ty) fun e => Asks (sizeT P e) fun s => 0 < s ∧ Asks (bytesT P e) fun bt => Asks (zav P e) fun z => z.length = s ∧ Asks (srcx m s src) fun q => q.2.length = q.1 * s ∧ q.2.all one1 = true ∧ appk dst m nx wr e s bt q K) := rfl
def cpyo (n off len s : Nat) (m : Mem) (nx : Nat) (q : Nat × List AV) (K : Kv) : Option AObj → Prop
  | some (.cells l e') => off + len * s ≤ l.length ∧ K (.int .i64 (min (q.1 : Int) (len : Int))) (upd m n (.cells (spl l off (q.2.take (min q.1 len * s))) e')) nx
  | _ => False
theorem cpyo_cells (n off len s : Nat) (m : Mem) (nx : Nat) (q : Nat × List AV) (K : Kv) (l : List AV) (e' : TypeId) : cpyo n off len s m nx q K (some (.cells l e')) = (off + len * s ≤ l.length ∧ K (.int .i64 (min (q.1 : Int) (len : Int))) (upd m n (.cells (spl l off (q.2.take (min q.1 len * s))) e')) nx) := rfl
theorem cpyx_two (P : Program) (wr : Nat → Bool) (ty ty2 : TypeId) (n off len cap : Nat) (src : AV) (m : Mem) (nx : Nat) (K : Kv) : cpyx P wr #[ty, ty2] [.sl n off len cap, src] m nx K = (Asks (elemT P ty) fun e => Asks (sizeT P e) fun s => Asks (srcx m s src) fun q => q.2.length = q.1 * s ∧ q.2.all one1 = true ∧ wr n = true ∧ cpyo n off len s m nx q K (look m n)) := by
  simp only [cpyx, Asks]
  generalize look m n = o
  match o with
  | none => rfl
  | some (.cells l e) => rfl
  | some (.opq o) => rfl
  | some (.fz l e) => rfl
  | some (.mp k a b) => rfl
  | some (.mx k a b c) => rfl
theorem cvs_falseE (P : Program) (wr : Nat → Bool) (s d : TypeId) (n off len cap : Nat) (m : Mem) (nx : Nat) (K : Kv) : cvs false P wr s d n off len cap m nx K = (s = d ∧ 0 < cap ∧ Asks (elemT P d) fun e => intT P e = some .u8 ∧ wr n = true ∧ cvo n off len cap m nx K (look m n)) := by
  rw [Eng.cvs_false]; rfl
theorem mkmx_eq (P : Program) (ty : TypeId) (m : Mem) (nx : Nat) (K : Kv) : mkmx P ty m nx K = Asks (mapT P ty) fun q => K (.map nx) ((nx, .mp q.1 [] []) :: m) (nx + 1) := rfl
def insxo (P : Program) (w : Bool) (ty : TypeId) (n : Nat) (q0 : IntKind) (z : Int) (y : AV) (m : Mem) (nx : Nat) (K : Kv) : Option AObj → Prop
  | some (.mp q1 keys vals) => Asks (mapT P ty) fun q => q0 = q.1 ∧ q1 = q.1 ∧ w = true ∧ K (.tup []) (upd m n (.mp q.1 (mputk z keys) (mputv z y keys vals))) nx
  | _ => False
theorem insx_map (P : Program) (wr : Nat → Bool) (ty : TypeId) (n : Nat) (q0 : IntKind) (z : Int) (y : AV) (m : Mem) (nx : Nat) (K : Kv) : insx P wr ty (.map n) (.int q0 z) y m nx K = insxo P (wr n) ty n q0 z y m nx K (look m n) := by
  simp only [insx]
  generalize look m n = o
  match o with
  | none => rfl
  | some (.cells l e) => rfl
  | some (.opq o) => rfl
  | some (.fz l e) => rfl
  | some (.mp k a b) => rfl
  | some (.mx k a b c) => rfl
theorem insxo_mp (P : Program) (w : Bool) (ty : TypeId) (n : Nat) (q0 : IntKind) (z : Int) (y : AV) (m : Mem) (nx : Nat) (K : Kv) (q1 : IntKind) (keys : List Int) (vals : List AV) :
    insxo P w ty n q0 z y m nx K (some (.mp q1 keys vals)) = Asks (mapT P ty) fun q => q0 = q.1 ∧ q1 = q.1 ∧ w = true ∧ K (.tup []) (upd m n (.mp q.1 (mputk z keys) (mputv z y keys vals))) nx := rfl
def lookxo (P : Program) (ty : TypeId) (q0 : IntKind) (z : Int) (ok : Bool) (k : AV → Prop) : Option AObj → Prop
  | some (.mp q1 keys vals) => Asks (mapT P ty) fun q => q0 = q.1 ∧ q1 = q.1 ∧ Asks (zval P q.2) fun d => lkk ok d k (mfind z keys vals)
  | _ => False
theorem lookx_map (P : Program) (m : Mem) (ty : TypeId) (n : Nat) (q0 : IntKind) (z : Int) (ok : Bool) (k : AV → Prop) : lookx P m ty (.map n) (.int q0 z) ok k = lookxo P ty q0 z ok k (look m n) := by
  simp only [lookx]
  generalize look m n = o
  match o with
  | none => rfl
  | some (.cells l e) => rfl
  | some (.opq o) => rfl
  | some (.fz l e) => rfl
  | some (.mp k a b) => rfl
  | some (.mx k a b c) => rfl
theorem lookxo_mp (P : Program) (ty : TypeId) (q0 : IntKind) (z : Int) (ok : Bool) (k : AV → Prop) (q1 : IntKind) (keys : List Int) (vals : List AV) :
    lookxo P ty q0 z ok k (some (.mp q1 keys vals)) = Asks (mapT P ty) fun q => q0 = q.1 ∧ q1 = q.1 ∧ Asks (zval P q.2) fun d => lkk ok d k (mfind z keys vals) := rfl
theorem lkk_some (ok : Bool) (d v : AV) (k : AV → Prop) : lkk ok d k (some v) = k (if ok then .tup [v, .bool true] else v) := rfl
theorem lkk_none (ok : Bool) (d : AV) (k : AV → Prop) : lkk ok d k none = k (if ok then .tup [d, .bool false] else d) := rfl
theorem mkmx2_eq (P : Program) (ty : TypeId) (m : Mem) (nx : Nat) (K : Kv) : mkmx2 P ty m nx K = mkq P ty m nx K (mxT P ty) := rfl
theorem mkq_some (P : Program) (ty : TypeId) (m : Mem) (nx : Nat) (K : Kv) (q : KD × TypeId) : mkq P ty m nx K (some q) = K (.map nx) ((nx, .mx q.1 [] [] []) :: m) (nx + 1) := rfl
theorem mkq_none (P : Program) (ty : TypeId) (m : Mem) (nx : Nat) (K : Kv) : mkq P ty m nx K none = mkmx P ty m nx K := rfl
theorem lookx2_map (P : Program) (m : Mem) (ty : TypeId) (n : Nat) (v : AV) (ok : Bool) (k : AV → Prop) : lookx2 P m ty (.map n) v ok k = lookq P m ty n v ok k (look m n) := rfl
theorem lookq_mx (P : Program) (m : Mem) (ty : TypeId) (n : Nat) (v : AV) (ok : Bool) (k : AV → Prop) (kd : KD) (keys : List Key) (vals : List AV) (born : List Nat) : lookq P m ty n v ok k (some (.mx kd keys vals born)) = (Asks (mxT P ty) fun q => q.1 = kd ∧ Asks (keyA kd v) fun a => Asks (zval P q.2) fun d => lkk ok d k (xget a keys vals)) := rfl
theorem lookq_mp (P : Program) (m : Mem) (ty : TypeId) (n : Nat) (v : AV) (ok : Bool) (k : AV → Prop) (q : IntKind) (keys : List Int) (vals : List AV) : lookq P m ty n v ok k (some (.mp q keys vals)) = lookx P m ty (.map n) v ok k := rfl
theorem insx2_map (P : Program) (wr : Nat → Bool) (ty : TypeId) (n : Nat) (i y : AV) (m : Mem) (nx : Nat) (K : Kv) : insx2 P wr ty (.map n) i y m nx K = insq P wr ty n i y m nx K (look m n) := rfl
theorem insq_mx (P : Program) (wr : Nat → Bool) (ty : TypeId) (n : Nat) (i y : AV) (m : Mem) (nx : Nat) (K : Kv) (kd : KD) (keys : List Key) (vals : List AV) (born : List Nat) : insq P wr ty n i y m nx K (some (.mx kd keys vals born)) = (Asks (mxT P ty) fun q => q.1 = kd ∧ Asks (keyA kd i) fun k => wr n = true ∧ insk K m n nx kd keys vals born k y) := rfl
theorem insq_mp (P : Program) (wr : Nat → Bool) (ty : TypeId) (n : Nat) (i y : AV) (m : Mem) (nx : Nat) (K : Kv) (q : IntKind) (keys : List Int) (vals : List AV) : insq P wr ty n i y m nx K (some (.mp q keys vals)) = insx P wr ty (.map n) i y m nx K := rfl
def mentq (P : Program) (wr : Nat → Bool) (ty : TypeId) (n : Nat) (i : AV) (m : Mem) (nx : Nat) (K : Kv) : Option AObj → Prop
  | some (.mx kd keys vals born) => Asks (mxT P ty) fun q => q.1 = kd ∧ Asks (keyA kd i) fun k => Asks (zval P q.2) fun z => wr n = true ∧ mentk K m n nx kd keys vals born k z
  | _ => False
theorem mentx_map (P : Program) (wr : Nat → Bool) (ty : TypeId) (n : Nat) (i : AV) (m : Mem) (nx : Nat) (K : Kv) : mentx P wr ty (.map n) i m nx K = mentq P wr ty n i m nx K (look m n) := by
  simp only [mentx]
  generalize look m n = o
  match o with
  | none => rfl
  | some (.cells l e) => rfl
  | some (.opq o) => rfl
  | some (.fz l e) => rfl
  | some (.mp k a b) => rfl
  | some (.mx k a b c) => rfl
theorem mentq_mx (P : Program) (wr : Nat → Bool) (ty : TypeId) (n : Nat) (i : AV) (m : Mem) (nx : Nat) (K : Kv) (kd : KD) (keys : List Key) (vals : List AV) (born : List Nat) : mentq P wr ty n i m nx K (some (.mx kd keys vals born)) = (Asks (mxT P ty) fun q => q.1 = kd ∧ Asks (keyA kd i) fun k => Asks (zval P q.2) fun z => wr n = true ∧ mentk K m n nx kd keys vals born k z) := rfl
def estq (w : Bool) (n : Nat) (c : Int) (y : AV) (m : Mem) (nx : Nat) (K : Kv) : Option AObj → Prop
  | some (.mx kd keys vals born) => bidx c born < born.length ∧ w = true ∧ K (.tup []) (upd m n (.mx kd keys (vals.set (bidx c born) y) born)) nx
  | _ => False
theorem estx_map (wr : Nat → Bool) (n : Nat) (q : IntKind) (c : Int) (y : AV) (m : Mem) (nx : Nat) (K : Kv) : estx wr (.map n) (.int q c) y m nx K = estq (wr n) n c y m nx K (look m n) := by
  simp only [estx]
  generalize look m n = o
  match o with
  | none => rfl
  | some (.cells l e) => rfl
  | some (.opq o) => rfl
  | some (.fz l e) => rfl
  | some (.mp k a b) => rfl
  | some (.mx k a b c) => rfl
theorem estq_mx (w : Bool) (n : Nat) (c : Int) (y : AV) (m : Mem) (nx : Nat) (K : Kv) (kd : KD) (keys : List Key) (vals : List AV) (born : List Nat) : estq w n c y m nx K (some (.mx kd keys vals born)) = (bidx c born < born.length ∧ w = true ∧ K (.tup []) (upd m n (.mx kd keys (vals.set (bidx c born) y) born)) nx) := rfl
def delq (P : Program) (w : Bool) (ty : TypeId) (n : Nat) (i : AV) (m : Mem) (nx : Nat) (K : Kv) : Option AObj → Prop
  | some (.mx kd keys vals born) => Asks (mxT P ty) fun q => q.1 = kd ∧ Asks (keyA kd i) fun a => w = true ∧ K (.tup []) (upd m n (.mx kd (keys.eraseIdx (xidx a keys)) (vals.eraseIdx (xidx a keys)) (born.eraseIdx (xidx a keys)))) nx
  | _ => False
theorem delx_two (P : Program) (wr : Nat → Bool) (ty kt : TypeId) (n : Nat) (i : AV) (m : Mem) (nx : Nat) (K : Kv) : delx P wr #[ty, kt] [.map n, i] m nx K = delq P (wr n) ty n i m nx K (look m n) := by
  simp only [delx]
  generalize look m n = o
  match o with
  | none => rfl
  | some (.cells l e) => rfl
  | some (.opq o) => rfl
  | some (.fz l e) => rfl
  | some (.mp k a b) => rfl
  | some (.mx k a b c) => rfl
theorem delq_mx (P : Program) (w : Bool) (ty : TypeId) (n : Nat) (i : AV) (m : Mem) (nx : Nat) (K : Kv) (kd : KD) (keys : List Key) (vals : List AV) (born : List Nat) : delq P w ty n i m nx K (some (.mx kd keys vals born)) = (Asks (mxT P ty) fun q => q.1 = kd ∧ Asks (keyA kd i) fun a => w = true ∧ K (.tup []) (upd m n (.mx kd (keys.eraseIdx (xidx a keys)) (vals.eraseIdx (xidx a keys)) (born.eraseIdx (xidx a keys)))) nx) := rfl
def lenmq (P : Program) (ty : TypeId) (m : Mem) (nx : Nat) (K : Kv) : Option AObj → Prop
  | some (.mx kd keys vals born) => (Asks (mxT P ty) fun _ => True) ∧ K (.int .i64 keys.length) m nx
  | _ => False
theorem lenm_one (P : Program) (ty : TypeId) (n : Nat) (m : Mem) (nx : Nat) (K : Kv) : lenm P #[ty] n m nx K = lenmq P ty m nx K (look m n) := by
  simp only [lenm]
  generalize look m n = o
  match o with
  | none => rfl
  | some (.cells l e) => rfl
  | some (.opq o) => rfl
  | some (.fz l e) => rfl
  | some (.mp k a b) => rfl
  | some (.mx k a b c) =>
    simp only [lenmq, Asks, and_true]
theorem lenmq_mx (P : Program) (ty : TypeId) (m : Mem) (nx : Nat) (K : Kv) (kd : KD) (keys : List Key) (vals : List AV) (born : List Nat) : lenmq P ty m nx K (some (.mx kd keys vals born)) = ((Asks (mxT P ty) fun _ => True) ∧ K (.int .i64 keys.length) m nx) := rfl
theorem binx_sneql (P : Program) (ty : TypeId) (k : AV → Prop) (n o l c : Nat) : binx P .eql ty (.sl n o l c) .nils k = ((elemT P ty).isSome = true ∧ k (.bool false)) := rfl
theorem binx_snneq (P : Program) (ty : TypeId) (k : AV → Prop) (n o l c : Nat) : binx P .neq ty (.sl n o l c) .nils k = ((elemT P ty).isSome = true ∧ k (.bool true)) := rfl
theorem binx_nneql (P : Program) (ty : TypeId) (k : AV → Prop) : binx P .eql ty .nils .nils k = ((elemT P ty).isSome = true ∧ k (.bool true)) := rfl
theorem binx_nnneq (P : Program) (ty : TypeId) (k : AV → Prop) : binx P .neq ty .nils .nils k = ((elemT P ty).isSome = true ∧ k (.bool false)) := rfl
theorem s2ax_sl (P : Program) (ty : TypeId) (n off len cap : Nat) (k : AV → Prop) : s2ax P ty (.sl n off len cap) k = (Asks (arrT P ty) fun q => 0 < q.1 ∧ q.1 ≤ len ∧ k (.ptr n off)) := rfl
theorem s2ax_ro (P : Program) (ty : TypeId) (len : Nat) (xs : List AV) (k : AV → Prop) : s2ax P ty (.ro len xs) k = (Asks (arrT P ty) fun q => 0 < q.1 ∧ q.1 ≤ len ∧ 0 < xs.length ∧ k (.rop xs)) := rfl
end Go.Eng
