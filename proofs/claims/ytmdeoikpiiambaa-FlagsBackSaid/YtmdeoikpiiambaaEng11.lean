/- The engine, part 11: the equations by which a walk is simplified. Printed by a program of our own. -/
import Derived.Test.YtmdeoikpiiambaaEng10
set_option linter.unusedVariables false
namespace Go.Eng
open Go
theorem rdx_move (P : Program) (rd : Nat → Bool) (t : Slots) (m : Mem) (k : AV → Prop) (x : Operand) : rdx P rd t m (.move x) k = withv (evx t x) k := rfl
theorem rdx_assign (P : Program) (rd : Nat → Bool) (t : Slots) (m : Mem) (k : AV → Prop) (x : Operand) : rdx P rd t m (.assign x) k = withv (evx t x) k := rfl
theorem rdx_load (P : Program) (rd : Nat → Bool) (t : Slots) (m : Mem) (k : AV → Prop) (ty : TypeId) (p : Operand) : rdx P rd t m (.load ty p) k = withv (evx t p) fun v => loadx P rd m ty v k := rfl
theorem rdx_nilCheck (P : Program) (rd : Nat → Bool) (t : Slots) (m : Mem) (k : AV → Prop) (x : Operand) : rdx P rd t m (.nilCheck x) k = withv (evx t x) fun v => nilx v k := rfl
theorem rdx_binOp (P : Program) (rd : Nat → Bool) (t : Slots) (m : Mem) (k : AV → Prop) (op : BinOp) (ty : TypeId) (x y : Operand) (ty2 : TypeId) : rdx P rd t m (.binOp op ty x y ty2) k = withv (evx t x) fun u => withv (evx t y) fun v => binx P op ty u v k := rfl
theorem rdx_unOp (P : Program) (rd : Nat → Bool) (t : Slots) (m : Mem) (k : AV → Prop) (op : UnOp) (ty : TypeId) (x : Operand) : rdx P rd t m (.unOp op ty x) k = withv (evx t x) fun u => unx op u k := rfl
theorem rdx_convert (P : Program) (rd : Nat → Bool) (t : Slots) (m : Mem) (k : AV → Prop) (s d : TypeId) (x : Operand) : rdx P rd t m (.convert s d x) k = withv (evx t x) fun u => convx P rd m s d u k := rfl
theorem rdx_makeInterface (P : Program) (rd : Nat → Bool) (t : Slots) (m : Mem) (k : AV → Prop) (ty : TypeId) (x : Operand) : rdx P rd t m (.makeInterface ty x) k = withv (evx t x) fun u => known P ty = true ∧ isIfaceT P ty = false ∧ k (.iface ty u) := rfl
theorem rdx_makeFunc (P : Program) (rd : Nat → Bool) (t : Slots) (m : Mem) (k : AV → Prop) (f : Fn) (fi ca : Array Operand) : rdx P rd t m (.makeFunc f fi ca) k = withl (evs t fi.toList) fun p => withl (evs t ca.toList) fun q => k (.fn f p q) := rfl
theorem rdx_fieldAddr (P : Program) (rd : Nat → Bool) (t : Slots) (m : Mem) (k : AV → Prop) (s : TypeId) (x : Operand) (f : Nat) : rdx P rd t m (.fieldAddr s x f) k = withv (evx t x) fun u => fldx P s u f k := rfl
theorem rdx_field (P : Program) (rd : Nat → Bool) (t : Slots) (m : Mem) (k : AV → Prop) (s : TypeId) (x : Operand) (f : Nat) : rdx P rd t m (.field s x f) k = withv (evx t x) fun u => fieldx P s u f k := rfl
theorem rdx_indexAddr (P : Program) (rd : Nat → Bool) (t : Slots) (m : Mem) (k : AV → Prop) (ty : TypeId) (x i : Operand) : rdx P rd t m (.indexAddr ty x i) k = withv (evx t x) fun u => withv (evx t i) fun v => idxx P ty u v k := rfl
theorem rdx_index (P : Program) (rd : Nat → Bool) (t : Slots) (m : Mem) (k : AV → Prop) (ty : TypeId) (x i : Operand) : rdx P rd t m (.index ty x i) k = withv (evx t x) fun u => withv (evx t i) fun v => indexx P ty u v k := rfl
theorem opx_move (P : Program) (fz : Bool) (wr : Nat → Bool) (t : Slots) (m : Mem) (nx : Nat) (K : Kv) (x : Operand) : opx P fz wr t m nx (.move x) K = rdx P (fun _ => true) t m (.move x) (KvAt K m nx) := rfl
theorem opx_assign (P : Program) (fz : Bool) (wr : Nat → Bool) (t : Slots) (m : Mem) (nx : Nat) (K : Kv) (x : Operand) : opx P fz wr t m nx (.assign x) K = rdx P (fun _ => true) t m (.assign x) (KvAt K m nx) := rfl
theorem opx_pick (P : Program) (fz : Bool) (wr : Nat → Bool) (t : Slots) (m : Mem) (nx : Nat) (K : Kv) (c x y : Operand) : opx P fz wr t m nx (.pick c x y) K = rdx P (fun _ => true) t m (.pick c x y) (KvAt K m nx) := rfl
theorem opx_build (P : Program) (fz : Bool) (wr : Nat → Bool) (t : Slots) (m : Mem) (nx : Nat) (K : Kv) (ty : TypeId) (ps : Array (Nat × Operand)) : opx P fz wr t m nx (.build ty ps) K = rdx P (fun _ => true) t m (.build ty ps) (KvAt K m nx) := rfl
theorem opx_load (P : Program) (fz : Bool) (wr : Nat → Bool) (t : Slots) (m : Mem) (nx : Nat) (K : Kv) (ty : TypeId) (p : Operand) : opx P fz wr t m nx (.load ty p) K = rdx P (fun _ => true) t m (.load ty p) (KvAt K m nx) := rfl
theorem opx_nilCheck (P : Program) (fz : Bool) (wr : Nat → Bool) (t : Slots) (m : Mem) (nx : Nat) (K : Kv) (x : Operand) : opx P fz wr t m nx (.nilCheck x) K = rdx P (fun _ => true) t m (.nilCheck x) (KvAt K m nx) := rfl
theorem opx_binOp (P : Program) (fz : Bool) (wr : Nat → Bool) (t : Slots) (m : Mem) (nx : Nat) (K : Kv) (op : BinOp) (ty : TypeId) (x y : Operand) (ty2 : TypeId) : opx P fz wr t m nx (.binOp op ty x y ty2) K = rdx P (fun _ => true) t m (.binOp op ty x y ty2) (KvAt K m nx) := rfl
theorem opx_unOp (P : Program) (fz : Bool) (wr : Nat → Bool) (t : Slots) (m : Mem) (nx : Nat) (K : Kv) (op : UnOp) (ty : TypeId) (x : Operand) : opx P fz wr t m nx (.unOp op ty x) K = rdx P (fun _ => true) t m (.unOp op ty x) (KvAt K m nx) := rfl
theorem opx_convert (P : Program) (fz : Bool) (wr : Nat → Bool) (t : Slots) (m : Mem) (nx : Nat) (K : Kv) (s d : TypeId) (x : Operand) : opx P fz wr t m nx (.convert s d x) K = withv (evx t x) fun u => cvx P wr s d u m nx K := rfl
theorem cvx_int (P : Program) (wr : Nat → Bool) (s d : TypeId) (k : IntKind) (x : Int) (m : Mem) (nx : Nat) (K : Kv) : cvx P wr s d (.int k x) m nx K = convx P (fun _ => true) m s d (.int k x) (KvAt K m nx) := rfl
theorem cvx_str (P : Program) (wr : Nat → Bool) (s d : TypeId) (x : ByteArray) (m : Mem) (nx : Nat) (K : Kv) : cvx P wr s d (.str x) m nx K = convx P (fun _ => true) m s d (.str x) (KvAt K m nx) := rfl
theorem cvx_nils (P : Program) (wr : Nat → Bool) (s d : TypeId) (m : Mem) (nx : Nat) (K : Kv) : cvx P wr s d .nils m nx K = convx P (fun _ => true) m s d .nils (KvAt K m nx) := rfl
theorem cvx_ro (P : Program) (wr : Nat → Bool) (s d : TypeId) (n : Nat) (l : List AV) (m : Mem) (nx : Nat) (K : Kv) : cvx P wr s d (.ro n l) m nx K = convx P (fun _ => true) m s d (.ro n l) (KvAt K m nx) := rfl
theorem cvx_sl (P : Program) (wr : Nat → Bool) (s d : TypeId) (n off len cap : Nat) (m : Mem) (nx : Nat) (K : Kv) : cvx P wr s d (.sl n off len cap) m nx K = cvs (isStrT P d) P wr s d n off len cap m nx K := rfl
theorem cvs_true (P : Program) (wr : Nat → Bool) (s d : TypeId) (n off len cap : Nat) (m : Mem) (nx : Nat) (K : Kv) : cvs true P wr s d n off len cap m nx K = convx P (fun _ => true) m s d (.sl n off len cap) (KvAt K m nx) := rfl
def cvo (n off len cap : Nat) (m : Mem) (nx : Nat) (K : Kv) : Option AObj → Prop
  | some (.cells l ty) => K (.sl n off len cap) (upd m n (.fz l ty)) nx
  | _ => False
theorem cvo_cells (n off len cap : Nat) (m : Mem) (nx : Nat) (K : Kv) (l : List AV) (ty : TypeId) : cvo n off len cap m nx K (some (.cells l ty)) = K (.sl n off len cap) (upd m n (.fz l ty)) nx := rfl
theorem cvs_false (P : Program) (wr : Nat → Bool) (s d : TypeId) (n off len cap : Nat) (m : Mem) (nx : Nat) (K : Kv) : cvs false P wr s d n off len cap m nx K = (s = d ∧ 0 < cap ∧ ∃ e, elemT P d = some e ∧ intT P e = some .u8 ∧ wr n = true ∧ cvo n off len cap m nx K (look m n)) := by
  simp only [cvs]
  generalize look m n = o
  match o with
  | none => rfl
  | some (.cells l e) => rfl
  | some (.opq o) => rfl
  | some (.fz l e) => rfl
  | some (.mp k a b) => rfl
  | some (.mx k a b c) => rfl
theorem opx_makeInterface (P : Program) (fz : Bool) (wr : Nat → Bool) (t : Slots) (m : Mem) (nx : Nat) (K : Kv) (ty : TypeId) (x : Operand) : opx P fz wr t m nx (.makeInterface ty x) K = rdx P (fun _ => true) t m (.makeInterface ty x) (KvAt K m nx) := rfl
theorem opx_makeFunc (P : Program) (fz : Bool) (wr : Nat → Bool) (t : Slots) (m : Mem) (nx : Nat) (K : Kv) (f : Fn) (fi ca : Array Operand) : opx P fz wr t m nx (.makeFunc f fi ca) K = rdx P (fun _ => true) t m (.makeFunc f fi ca) (KvAt K m nx) := rfl
theorem opx_slice (P : Program) (fz : Bool) (wr : Nat → Bool) (t : Slots) (m : Mem) (nx : Nat) (K : Kv) (ty : TypeId) (x : Operand) (lo hi mx : Option Operand) : opx P fz wr t m nx (.slice ty x lo hi mx) K = rdx P (fun _ => true) t m (.slice ty x lo hi mx) (KvAt K m nx) := rfl
theorem opx_fieldAddr (P : Program) (fz : Bool) (wr : Nat → Bool) (t : Slots) (m : Mem) (nx : Nat) (K : Kv) (s : TypeId) (x : Operand) (f : Nat) : opx P fz wr t m nx (.fieldAddr s x f) K = rdx P (fun _ => true) t m (.fieldAddr s x f) (KvAt K m nx) := rfl
theorem opx_field (P : Program) (fz : Bool) (wr : Nat → Bool) (t : Slots) (m : Mem) (nx : Nat) (K : Kv) (s : TypeId) (x : Operand) (f : Nat) : opx P fz wr t m nx (.field s x f) K = rdx P (fun _ => true) t m (.field s x f) (KvAt K m nx) := rfl
theorem opx_indexAddr (P : Program) (fz : Bool) (wr : Nat → Bool) (t : Slots) (m : Mem) (nx : Nat) (K : Kv) (ty : TypeId) (x i : Operand) : opx P fz wr t m nx (.indexAddr ty x i) K = rdx P (fun _ => true) t m (.indexAddr ty x i) (KvAt K m nx) := rfl
theorem opx_index (P : Program) (fz : Bool) (wr : Nat → Bool) (t : Slots) (m : Mem) (nx : Nat) (K : Kv) (ty : TypeId) (x i : Operand) : opx P fz wr t m nx (.index ty x i) K = rdx P (fun _ => true) t m (.index ty x i) (KvAt K m nx) := rfl
theorem opx_extract (P : Program) (fz : Bool) (wr : Nat → Bool) (t : Slots) (m : Mem) (nx : Nat) (K : Kv) (x : Operand) (i : Nat) : opx P fz wr t m nx (.extract x i) K = rdx P (fun _ => true) t m (.extract x i) (KvAt K m nx) := rfl
theorem opx_alloc (P : Program) (fz : Bool) (wr : Nat → Bool) (t : Slots) (m : Mem) (nx : Nat) (K : Kv) (ty : TypeId) : opx P fz wr t m nx (.alloc ty) K = allocx P ty m nx K := rfl
theorem opx_box (P : Program) (fz : Bool) (wr : Nat → Bool) (t : Slots) (m : Mem) (nx : Nat) (K : Kv) (ty : TypeId) (x : Operand) : opx P fz wr t m nx (.box ty x) K = withv (evx t x) fun v => boxx ty v m nx K := rfl
theorem opx_makeSlice (P : Program) (fz : Bool) (wr : Nat → Bool) (t : Slots) (m : Mem) (nx : Nat) (K : Kv) (ty : TypeId) (l c : Operand) : opx P fz wr t m nx (.makeSlice ty l c) K = withv (evx t l) fun x => withv (evx t c) fun y => mkslx P ty x y m nx K := rfl
theorem opx_store (P : Program) (fz : Bool) (wr : Nat → Bool) (t : Slots) (m : Mem) (nx : Nat) (K : Kv) (ty : TypeId) (p x : Operand) : opx P fz wr t m nx (.store ty p x) K = withv (evx t p) fun u => withv (evx t x) fun v => stx P wr ty u v m nx K := rfl
theorem opx_append (P : Program) (fz : Bool) (wr : Nat → Bool) (t : Slots) (m : Mem) (nx : Nat) (K : Kv) (as : Array Operand) (ts : Array TypeId) : opx P fz wr t m nx (.call { callee := .builtin .append, args := as, argTypes := ts }) K = withl (evs t as.toList) fun l => appx P wr ts l m nx K := rfl
theorem opx_copy (P : Program) (fz : Bool) (wr : Nat → Bool) (t : Slots) (m : Mem) (nx : Nat) (K : Kv) (as : Array Operand) (ts : Array TypeId) : opx P fz wr t m nx (.call { callee := .builtin .copy, args := as, argTypes := ts }) K = withl (evs t as.toList) fun l => cpyx P wr ts l m nx K := rfl
theorem opx_len (P : Program) (fz : Bool) (wr : Nat → Bool) (t : Slots) (m : Mem) (nx : Nat) (K : Kv) (as : Array Operand) (ts : Array TypeId) : opx P fz wr t m nx (.call { callee := .builtin .len, args := as, argTypes := ts }) K = withl (evs t as.toList) fun l => lenq P ts l m nx K (mapOf l) := rfl
theorem opx_min (P : Program) (fz : Bool) (wr : Nat → Bool) (t : Slots) (m : Mem) (nx : Nat) (K : Kv) (as : Array Operand) (ts : Array TypeId) : opx P fz wr t m nx (.call { callee := .builtin .min, args := as, argTypes := ts }) K = withl (evs t as.toList) fun l => bltx P .min ts l (KvAt K m nx) := rfl
theorem opx_max (P : Program) (fz : Bool) (wr : Nat → Bool) (t : Slots) (m : Mem) (nx : Nat) (K : Kv) (as : Array Operand) (ts : Array TypeId) : opx P fz wr t m nx (.call { callee := .builtin .max, args := as, argTypes := ts }) K = withl (evs t as.toList) fun l => bltx P .max ts l (KvAt K m nx) := rfl
theorem opx_call (P : Program) (fz : Bool) (wr : Nat → Bool) (t : Slots) (m : Mem) (nx : Nat) (K : Kv) (f : Operand) (as : Array Operand) (ts : Array TypeId) : opx P fz wr t m nx (.call { callee := .value f, args := as, argTypes := ts }) K = withv (evx t f) fun u => withl (evs t as.toList) fun l => calx P fz wr u l m nx K := rfl
theorem opx_makeMap (P : Program) (fz : Bool) (wr : Nat → Bool) (t : Slots) (m : Mem) (nx : Nat) (K : Kv) (ty : TypeId) : opx P fz wr t m nx (.makeMap ty none) K = mkmx2 P ty m nx K := rfl
theorem opx_insert (P : Program) (fz : Bool) (wr : Nat → Bool) (t : Slots) (m : Mem) (nx : Nat) (K : Kv) (ty : TypeId) (x i y : Operand) : opx P fz wr t m nx (.insert ty x i y) K = withv (evx t x) fun u => withv (evx t i) fun v => withv (evx t y) fun z => insx2 P wr ty u v z m nx K := rfl
theorem opx_mapUpdate (P : Program) (fz : Bool) (wr : Nat → Bool) (t : Slots) (m : Mem) (nx : Nat) (K : Kv) (ty : TypeId) (x i y : Operand) : opx P fz wr t m nx (.mapUpdate ty x i y) K = withv (evx t x) fun u => withv (evx t i) fun v => withv (evx t y) fun z => insx2 P wr ty u v z m nx K := rfl
theorem opx_lookup (P : Program) (fz : Bool) (wr : Nat → Bool) (t : Slots) (m : Mem) (nx : Nat) (K : Kv) (ty : TypeId) (x i : Operand) (ok : Bool) : opx P fz wr t m nx (.lookup ty x i ok) K = withv (evx t x) fun u => withv (evx t i) fun v => lookx2 P m ty u v ok (KvAt K m nx) := rfl
theorem KeepK_one (m0 : Mem) (k : Nat) (K : Kv) (v : AV) (m : Mem) (nx : Nat) : KeepK m0 [k] K v m nx = (look m k = look m0 k ∧ K v m nx) := by
  unfold KeepK
  simp only [List.mem_singleton, forall_eq]
def dyw (w : Bool) (P : Program) (wr : Nat → Bool) (m0 : Mem) (mods : List Nat) (op : Op) (d : Option Tmp) (E : Se) (t : Slots) (m : Mem) (nx : Nat) : Prop := match w with
  | true => opx P false wr t m nx op (After E t d)
  | false => opx P false (wrD m nx []) t m nx op (After E t d)
theorem dyw_true (P : Program) (wr : Nat → Bool) (m0 : Mem) (mods : List Nat) (op : Op) (d : Option Tmp) (E : Se) (t : Slots) (m : Mem) (nx : Nat) : dyw true P wr m0 mods op d E t m nx = opx P false wr t m nx op (After E t d) := rfl
theorem dyw_false (P : Program) (wr : Nat → Bool) (m0 : Mem) (mods : List Nat) (op : Op) (d : Option Tmp) (E : Se) (t : Slots) (m : Mem) (nx : Nat) : dyw false P wr m0 mods op d E t m nx = opx P false (wrD m nx []) t m nx op (After E t d) := rfl
theorem DyE_true (P : Program) (wr : Nat → Bool) (m0 : Mem) (mods Wr Er : List Nat) (i : Nat) (op : Op) (d : Option Tmp) (E : Se) (t : Slots) (m : Mem) (nx : Nat) : DyE P wr m0 mods Wr Er i true op d E t m nx = dyw (Wr.contains i) P wr m0 mods op d E t m nx := by
  unfold DyE dyw
  cases Wr.contains i <;> rfl
def Rdy (e : Bool) (wr : Nat → Bool) (mods : List Nat) (n : Nat) : Bool := !wr n || (e && mods.contains n)
theorem Rdy_app (e : Bool) (wr : Nat → Bool) (mods : List Nat) (n : Nat) : Rdy e wr mods n = (!wr n || (e && mods.contains n)) := rfl
theorem DyE_false (P : Program) (wr : Nat → Bool) (m0 : Mem) (mods Wr Er : List Nat) (i : Nat) (op : Op) (d : Option Tmp) (E : Se) (t : Slots) (m : Mem) (nx : Nat) : DyE P wr m0 mods Wr Er i false op d E t m nx = rdx P (Rdy (Er.contains i) wr mods) t m op (KvAt (After E t d) m nx) := by
  unfold DyE
  cases Wr.contains i <;> rfl
theorem DyO_some (P : Program) (N : Nat) (wr : Nat → Bool) (m0 : Mem) (mods Wr Er : List Nat) (ops : Array Oper) (i : Nat) (single : Bool) (o : Oper) (E : Se) (t : Slots) (m : Mem) (nx : Nat) :
    DyO P N wr m0 mods Wr Er ops i single (some o) E t m nx = (dstOk N o.dst = true ∧ grdx ops o.guard (DyE P wr m0 mods Wr Er i single o.op o.dst E) (SkE o.dst E) t m nx) := rfl
theorem drawy_nil (P : Program) (N : Nat) (wr : Nat → Bool) (m0 : Mem) (mods Wr Er : List Nat) (ops : Array Oper) (K : Se) (t : Slots) (m : Mem) (nx : Nat) : drawy P N wr m0 mods Wr Er ops K [] t m nx = K t m nx := rfl
theorem drawy_cons (P : Program) (N : Nat) (wr : Nat → Bool) (m0 : Mem) (mods Wr Er : List Nat) (ops : Array Oper) (K : Se) (i : Nat) (single : Bool) (r : List (Nat × Bool)) (t : Slots) (m : Mem) (nx : Nat) :
    drawy P N wr m0 mods Wr Er ops K ((i, single) :: r) t m nx = DyO P N wr m0 mods Wr Er ops i single ops[i]? (drawy P N wr m0 mods Wr Er ops K r) t m nx := rfl
theorem rdx_len (P : Program) (rd : Nat → Bool) (t : Slots) (m : Mem) (k : AV → Prop) (as : Array Operand) (ts : Array TypeId) : rdx P rd t m (.call { callee := .builtin .len, args := as, argTypes := ts }) k = withl (evs t as.toList) fun l => bltx P .len ts l k := rfl
theorem rdx_min (P : Program) (rd : Nat → Bool) (t : Slots) (m : Mem) (k : AV → Prop) (as : Array Operand) (ts : Array TypeId) : rdx P rd t m (.call { callee := .builtin .min, args := as, argTypes := ts }) k = withl (evs t as.toList) fun l => bltx P .min ts l k := rfl
theorem rdx_max (P : Program) (rd : Nat → Bool) (t : Slots) (m : Mem) (k : AV → Prop) (as : Array Operand) (ts : Array TypeId) : rdx P rd t m (.call { callee := .builtin .max, args := as, argTypes := ts }) k = withl (evs t as.toList) fun l => bltx P .max ts l k := rfl
def pickv (c : AV) (x y : Option AV) (k : AV → Prop) : Prop := match c with
  | .bool q => (q = true → withv x k) ∧ (q = false → withv y k)
  | _ => False
theorem rdx_pick (P : Program) (rd : Nat → Bool) (t : Slots) (m : Mem) (k : AV → Prop) (c x y : Operand) : rdx P rd t m (.pick c x y) k = withv (evx t c) fun cv => pickv cv (evx t x) (evx t y) k := rfl
theorem pickv_true (x y : Option AV) (k : AV → Prop) : pickv (.bool true) x y k = withv x k := by simp [pickv]
theorem pickv_false (x y : Option AV) (k : AV → Prop) : pickv (.bool false) x y k = withv y k := by simp [pickv]
theorem pickv_bool (q : Bool) (x y : Option AV) (k : AV → Prop) : pickv (.bool q) x y k = ((q = true → withv x k) ∧ (q = false → withv y k)) := rfl
def bldv (P : Program) (ty : TypeId) (o : Option (List (Nat × AV))) (k : AV → Prop) : Prop := match o with
  | some ps => buildx P ty ps k
  | none => False
theorem rdx_build (P : Program) (rd : Nat → Bool) (t : Slots) (m : Mem) (k : AV → Prop) (ty : TypeId) (ps : Array (Nat × Operand)) : rdx P rd t m (.build ty ps) k = bldv P ty (evp t ps.toList) k := rfl
theorem bldv_some (P : Program) (ty : TypeId) (ps : List (Nat × AV)) (k : AV → Prop) : bldv P ty (some ps) k = buildx P ty ps k := rfl
def bslv (P : Program) (ty : TypeId) (len : Nat) (o : Option (List (Nat × AV))) (m : Mem) (nx : Nat) (K : Kv) : Prop := match o with
  | some ps => bslx P ty len ps m nx K
  | none => False
theorem opx_buildSlice (P : Program) (fz : Bool) (wr : Nat → Bool) (t : Slots) (m : Mem) (nx : Nat) (K : Kv) (ty : TypeId) (len : Nat) (ps : Array (Nat × Operand)) : opx P fz wr t m nx (.buildSlice ty len ps) K = bslv P ty len (evp t ps.toList) m nx K := rfl
theorem bslv_some (P : Program) (ty : TypeId) (len : Nat) (ps : List (Nat × AV)) (m : Mem) (nx : Nat) (K : Kv) : bslv P ty len (some ps) m nx K = bslx P ty len ps m nx K := rfl
def slcv (P : Program) (ty : TypeId) (u : AV) (lo hi : Option (Option AV)) (k : AV → Prop) : Prop := match lo, hi with
  | some none, _ => False
  | _, some none => False
  | l, h => slcx P ty u l.join h.join k
theorem rdx_slice (P : Program) (rd : Nat → Bool) (t : Slots) (m : Mem) (k : AV → Prop) (ty : TypeId) (x : Operand) (lo hi : Option Operand) : rdx P rd t m (.slice ty x lo hi none) k = withv (evx t x) fun u => slcv P ty u (lo.map (evx t)) (hi.map (evx t)) k := rfl
theorem slcv_nn (P : Program) (ty : TypeId) (u : AV) (k : AV → Prop) : slcv P ty u none none k = slcx P ty u none none k := rfl
theorem slcv_sn (P : Program) (ty : TypeId) (u a : AV) (k : AV → Prop) : slcv P ty u (some (some a)) none k = slcx P ty u (some a) none k := rfl
theorem slcv_ns (P : Program) (ty : TypeId) (u a : AV) (k : AV → Prop) : slcv P ty u none (some (some a)) k = slcx P ty u none (some a) k := rfl
theorem slcv_ss (P : Program) (ty : TypeId) (u a b : AV) (k : AV → Prop) : slcv P ty u (some (some a)) (some (some b)) k = slcx P ty u (some a) (some b) k := rfl
def extv (u : AV) (i : Nat) (k : AV → Prop) : Prop := match u with
  | .tup l => withv l[i]? k
  | _ => False
theorem rdx_extract (P : Program) (rd : Nat → Bool) (t : Slots) (m : Mem) (k : AV → Prop) (x : Operand) (i : Nat) : rdx P rd t m (.extract x i) k = withv (evx t x) fun u => extv u i k := rfl
theorem extv_tup (l : List AV) (i : Nat) (k : AV → Prop) : extv (.tup l) i k = withv l[i]? k := rfl
theorem binx_add (P : Program) (ty : TypeId) (k : AV → Prop) (q : IntKind) (a b : Int) : binx P .add ty (.int q a) (.int q b) k = k (.int q (q.wrap (a + b))) := by simp [binx]
theorem binx_sub (P : Program) (ty : TypeId) (k : AV → Prop) (q : IntKind) (a b : Int) : binx P .sub ty (.int q a) (.int q b) k = k (.int q (q.wrap (a - b))) := by simp [binx]
theorem binx_mul (P : Program) (ty : TypeId) (k : AV → Prop) (q : IntKind) (a b : Int) : binx P .mul ty (.int q a) (.int q b) k = k (.int q (q.wrap (a * b))) := by simp [binx]
theorem binx_and (P : Program) (ty : TypeId) (k : AV → Prop) (q : IntKind) (a b : Int) : binx P .and ty (.int q a) (.int q b) k = k (.int q (bitsI .and q a b)) := by simp [binx]
theorem binx_or (P : Program) (ty : TypeId) (k : AV → Prop) (q : IntKind) (a b : Int) : binx P .or ty (.int q a) (.int q b) k = k (.int q (bitsI .or q a b)) := by simp [binx]
theorem binx_xor (P : Program) (ty : TypeId) (k : AV → Prop) (q : IntKind) (a b : Int) : binx P .xor ty (.int q a) (.int q b) k = k (.int q (bitsI .xor q a b)) := by simp [binx]
theorem binx_andNot (P : Program) (ty : TypeId) (k : AV → Prop) (q : IntKind) (a b : Int) : binx P .andNot ty (.int q a) (.int q b) k = k (.int q (bitsI .andNot q a b)) := by simp [binx]
theorem binx_eql (P : Program) (ty : TypeId) (k : AV → Prop) (q : IntKind) (a b : Int) : binx P .eql ty (.int q a) (.int q b) k = k (.bool (a == b)) := by simp [binx]
theorem binx_neq (P : Program) (ty : TypeId) (k : AV → Prop) (q : IntKind) (a b : Int) : binx P .neq ty (.int q a) (.int q b) k = k (.bool (a != b)) := by simp [binx]
theorem binx_lss (P : Program) (ty : TypeId) (k : AV → Prop) (q : IntKind) (a b : Int) : binx P .lss ty (.int q a) (.int q b) k = k (.bool (decide (a < b))) := by simp [binx]
theorem binx_leq (P : Program) (ty : TypeId) (k : AV → Prop) (q : IntKind) (a b : Int) : binx P .leq ty (.int q a) (.int q b) k = k (.bool (decide (a ≤ b))) := by simp [binx]
theorem binx_gtr (P : Program) (ty : TypeId) (k : AV → Prop) (q : IntKind) (a b : Int) : binx P .gtr ty (.int q a) (.int q b) k = k (.bool (decide (a > b))) := by simp [binx]
theorem binx_geq (P : Program) (ty : TypeId) (k : AV → Prop) (q : IntKind) (a b : Int) : binx P .geq ty (.int q a) (.int q b) k = k (.bool (decide (a ≥ b))) := by simp [binx]
theorem binx_quo (P : Program) (ty : TypeId) (k : AV → Prop) (q : IntKind) (a b : Int) : binx P .quo ty (.int q a) (.int q b) k = (b ≠ 0 ∧ k (.int q (q.wrap (a.tdiv b)))) := by simp [binx]
theorem binx_rem (P : Program) (ty : TypeId) (k : AV → Prop) (q : IntKind) (a b : Int) : binx P .rem ty (.int q a) (.int q b) k = (b ≠ 0 ∧ k (.int q (a.tmod b))) := by simp [binx]
theorem binx_shl (P : Program) (ty : TypeId) (k : AV → Prop) (q q2 : IntKind) (a b : Int) : binx P .shl ty (.int q a) (.int q2 b) k = (0 ≤ b ∧ k (.int q (shlI q a b))) := by simp [binx]
theorem binx_shr (P : Program) (ty : TypeId) (k : AV → Prop) (q q2 : IntKind) (a b : Int) : binx P .shr ty (.int q a) (.int q2 b) k = (0 ≤ b ∧ k (.int q (shrI q a b))) := by simp [binx]
theorem binx_seql (P : Program) (ty : TypeId) (k : AV → Prop) (a b : ByteArray) : binx P .eql ty (.str a) (.str b) k = k (.bool (a.toList == b.toList)) := rfl
theorem binx_sneq (P : Program) (ty : TypeId) (k : AV → Prop) (a b : ByteArray) : binx P .neq ty (.str a) (.str b) k = k (.bool (!(a.toList == b.toList))) := rfl
theorem binx_beql (P : Program) (ty : TypeId) (k : AV → Prop) (a b : Bool) : binx P .eql ty (.bool a) (.bool b) k = (isBoolT P ty = true ∧ k (.bool (a == b))) := rfl
theorem binx_bneq (P : Program) (ty : TypeId) (k : AV → Prop) (a b : Bool) : binx P .neq ty (.bool a) (.bool b) k = (isBoolT P ty = true ∧ k (.bool (!(a == b)))) := rfl
theorem binx_peql (P : Program) (ty : TypeId) (k : AV → Prop) : binx P .eql ty .nilp .nilp k = (isPtrT P ty = true ∧ k (.bool true)) := rfl
theorem binx_ppeql (P : Program) (ty : TypeId) (k : AV → Prop) (n c : Nat) : binx P .eql ty (.ptr n c) .nilp k = (isPtrT P ty = true ∧ k (.bool false)) := rfl
theorem binx_pqeql (P : Program) (ty : TypeId) (k : AV → Prop) (n c : Nat) : binx P .eql ty .nilp (.ptr n c) k = (isPtrT P ty = true ∧ k (.bool false)) := rfl
theorem binx_feql (P : Program) (ty : TypeId) (k : AV → Prop) (f : Fn) (x y : List AV) : binx P .eql ty (.fn f x y) .nilf k = (isFuncT P ty = true ∧ k (.bool false)) := rfl
theorem binx_neql (P : Program) (ty : TypeId) (k : AV → Prop) : binx P .eql ty .nilf .nilf k = (isFuncT P ty = true ∧ k (.bool true)) := rfl
theorem binx_pneq (P : Program) (ty : TypeId) (k : AV → Prop) : binx P .neq ty .nilp .nilp k = (isPtrT P ty = true ∧ k (.bool false)) := rfl
theorem binx_ppneq (P : Program) (ty : TypeId) (k : AV → Prop) (n c : Nat) : binx P .neq ty (.ptr n c) .nilp k = (isPtrT P ty = true ∧ k (.bool true)) := rfl
theorem binx_pqneq (P : Program) (ty : TypeId) (k : AV → Prop) (n c : Nat) : binx P .neq ty .nilp (.ptr n c) k = (isPtrT P ty = true ∧ k (.bool true)) := rfl
theorem binx_fneq (P : Program) (ty : TypeId) (k : AV → Prop) (f : Fn) (x y : List AV) : binx P .neq ty (.fn f x y) .nilf k = (isFuncT P ty = true ∧ k (.bool true)) := rfl
theorem binx_nneq (P : Program) (ty : TypeId) (k : AV → Prop) : binx P .neq ty .nilf .nilf k = (isFuncT P ty = true ∧ k (.bool false)) := rfl
theorem unx_neg (q : IntKind) (n : Int) (k : AV → Prop) : unx .neg (.int q n) k = k (.int q (q.wrap (0 - n))) := rfl
theorem unx_xor (q : IntKind) (n : Int) (k : AV → Prop) : unx .xor (.int q n) k = k (.int q (notI q n)) := rfl
theorem unx_not (b : Bool) (k : AV → Prop) : unx .not (.bool b) k = k (.bool !b) := rfl
theorem exec_skip (P : Program) (fz : Bool) (N nf : Nat) (wr : Nat → Bool) (t : Slots) (m : Mem) (nx : Nat) (K : Kx) : exec P fz N nf wr .skip t m nx K = K .normal t m nx := rfl
theorem exec_region (P : Program) (fz : Bool) (N nf : Nat) (wr : Nat → Bool) (t : Slots) (m : Mem) (nx : Nat) (K : Kx) (id : Nat) (ops : Array Oper) : exec P fz N nf wr (.region id ops false) t m nx K = opsx P fz N wr ops (Nrm K) ops.toList t m nx := rfl
theorem exec_draw (P : Program) (fz : Bool) (N nf : Nat) (wr : Nat → Bool) (t : Slots) (m : Mem) (nx : Nat) (K : Kx) (id : Nat) (ops : Array Oper) : exec P fz N nf wr (.region id ops true) t m nx K = DrawOk P N wr ops t m nx K := rfl
theorem exec_seq (P : Program) (fz : Bool) (N nf : Nat) (wr : Nat → Bool) (t : Slots) (m : Mem) (nx : Nat) (K : Kx) (x y : Code) : exec P fz N nf wr (.seq x y) t m nx K = exec P fz N nf wr x t m nx (Sq (exec P fz N nf wr y) K) := rfl
def cndv (P : Program) (fz : Bool) (N nf : Nat) (wr : Nat → Bool) (v : AV) (x y : Code) (t : Slots) (m : Mem) (nx : Nat) (K : Kx) : Prop := match v with
  | .bool q => (q = true → exec P fz N nf wr x t m nx K) ∧ (q = false → exec P fz N nf wr y t m nx K)
  | _ => False
theorem exec_cond (P : Program) (fz : Bool) (N nf : Nat) (wr : Nat → Bool) (t : Slots) (m : Mem) (nx : Nat) (K : Kx) (c : Operand) (x y : Code) : exec P fz N nf wr (.cond c x y) t m nx K = withv (evx t c) fun v => cndv P fz N nf wr v x y t m nx K := rfl
theorem cndv_true (P : Program) (fz : Bool) (N nf : Nat) (wr : Nat → Bool) (t : Slots) (m : Mem) (nx : Nat) (K : Kx) (x y : Code) : cndv P fz N nf wr (.bool true) x y t m nx K = exec P fz N nf wr x t m nx K := by simp [cndv]
theorem cndv_false (P : Program) (fz : Bool) (N nf : Nat) (wr : Nat → Bool) (t : Slots) (m : Mem) (nx : Nat) (K : Kx) (x y : Code) : cndv P fz N nf wr (.bool false) x y t m nx K = exec P fz N nf wr y t m nx K := by simp [cndv]
theorem cndv_bool (P : Program) (fz : Bool) (N nf : Nat) (wr : Nat → Bool) (t : Slots) (m : Mem) (nx : Nat) (K : Kx) (q : Bool) (x y : Code) : cndv P fz N nf wr (.bool q) x y t m nx K = ((q = true → exec P fz N nf wr x t m nx K) ∧ (q = false → exec P fz N nf wr y t m nx K)) := rfl
theorem exec_block (P : Program) (fz : Bool) (N nf : Nat) (wr : Nat → Bool) (t : Slots) (m : Mem) (nx : Nat) (K : Kx) (id : Nat) (c : Code) : exec P fz N nf wr (.block id c) t m nx K = exec P fz N nf wr c t m nx (Blk id K) := rfl
theorem exec_loop (P : Program) (fz : Bool) (N nf : Nat) (wr : Nat → Bool) (t : Slots) (m : Mem) (nx : Nat) (K : Kx) (c : Code) : exec P fz N nf wr (.loop c) t m nx K = LoopOk fz nf (exec P fz N nf wr c) wr t m nx K := rfl
theorem exec_exit (P : Program) (fz : Bool) (N nf : Nat) (wr : Nat → Bool) (t : Slots) (m : Mem) (nx : Nat) (K : Kx) (id : Nat) : exec P fz N nf wr (.exit id) t m nx K = K (.exit id) t m nx := rfl
theorem exec_ret (P : Program) (fz : Bool) (N nf : Nat) (wr : Nat → Bool) (t : Slots) (m : Mem) (nx : Nat) (K : Kx) : exec P fz N nf wr .ret t m nx K = K .ret t m nx := rfl
theorem RetK_ret (P : Program) (rs : List ResultVar) (nx0 : Nat) (wr : Nat → Bool) (K : Kv) (t : Slots) (m : Mem) (nx : Nat) : RetK P rs nx0 wr K .ret t m nx = resx P t m rs (FinK nx0 wr m nx K) := rfl
theorem RetK_normal (P : Program) (rs : List ResultVar) (nx0 : Nat) (wr : Nat → Bool) (K : Kv) (t : Slots) (m : Mem) (nx : Nat) : RetK P rs nx0 wr K .normal t m nx = resx P t m rs (FinK nx0 wr m nx K) := rfl
theorem FinK_app (nx0 : Nat) (wr : Nat → Bool) (m : Mem) (nx : Nat) (K : Kv) (l : List AV) : FinK nx0 wr m nx K l = Fin nx0 wr m nx K (resv l) := rfl
theorem resx_nil (P : Program) (t : Slots) (m : Mem) (k : List AV → Prop) : resx P t m [] k = k [] := rfl
def ConsK (v : AV) (k : List AV → Prop) : List AV → Prop := fun l => k (v :: l)
theorem ConsK_app (v : AV) (k : List AV → Prop) (l : List AV) : ConsK v k l = k (v :: l) := rfl
theorem resx_tmp (P : Program) (t : Slots) (m : Mem) (k : List AV → Prop) (s : Tmp) (r : List ResultVar) : resx P t m (.tmp s :: r) k = withv (look t s) fun v => resx P t m r (ConsK v k) := rfl
theorem resx_cell (P : Program) (t : Slots) (m : Mem) (k : List AV → Prop) (s : Tmp) (ty : TypeId) (r : List ResultVar) : resx P t m (.cell s ty :: r) k = withv (look t s) fun p => loadx P (fun _ => true) m ty p fun v => resx P t m r (ConsK v k) := rfl
theorem LoopK_normal {ι : Type} (nf : Nat) (wr : Nat → Bool) (S : ι → Slots × Mem × Nat) (μ : ι → Nat) (i : ι) (K : Kx) (t : Slots) (m : Mem) (nx : Nat) : LoopK nf wr S μ i K .normal t m nx = (∃ j, μ j < μ i ∧ ∃ l, Le nf l wr t m nx (S j).1 (S j).2.1 (S j).2.2) := rfl
theorem LoopK_ret {ι : Type} (nf : Nat) (wr : Nat → Bool) (S : ι → Slots × Mem × Nat) (μ : ι → Nat) (i : ι) (K : Kx) (t : Slots) (m : Mem) (nx : Nat) : LoopK nf wr S μ i K .ret t m nx = K .ret t m nx := rfl
theorem LoopK_exit {ι : Type} (nf : Nat) (wr : Nat → Bool) (S : ι → Slots × Mem × Nat) (μ : ι → Nat) (i : ι) (K : Kx) (t : Slots) (m : Mem) (nx : Nat) (e : Nat) : LoopK nf wr S μ i K (.exit e) t m nx = K (.exit e) t m nx := rfl
theorem opx_mapEntry (P : Program) (fz : Bool) (wr : Nat → Bool) (t : Slots) (m : Mem) (nx : Nat) (K : Kv) (ty : TypeId) (x i : Operand) : opx P fz wr t m nx (.mapEntry ty x i) K = withv (evx t x) fun u => withv (evx t i) fun v => mentx P wr ty u v m nx K := rfl
theorem opx_entryStore (P : Program) (fz : Bool) (wr : Nat → Bool) (t : Slots) (m : Mem) (nx : Nat) (K : Kv) (ty : TypeId) (x i y : Operand) : opx P fz wr t m nx (.entryStore ty x i y) K = withv (evx t x) fun u => withv (evx t i) fun v => withv (evx t y) fun z => estx wr u v z m nx K := rfl
theorem opx_delete (P : Program) (fz : Bool) (wr : Nat → Bool) (t : Slots) (m : Mem) (nx : Nat) (K : Kv) (as : Array Operand) (ts : Array TypeId) : opx P fz wr t m nx (.call { callee := .builtin .delete, args := as, argTypes := ts }) K = withl (evs t as.toList) fun l => delx P wr ts l m nx K := rfl
theorem opx_s2a (P : Program) (fz : Bool) (wr : Nat → Bool) (t : Slots) (m : Mem) (nx : Nat) (K : Kv) (ty : TypeId) (x : Operand) : opx P fz wr t m nx (.sliceToArrayPointer ty x) K = rdx P (fun _ => true) t m (.sliceToArrayPointer ty x) (KvAt K m nx) := rfl
theorem rdx_s2a (P : Program) (rd : Nat → Bool) (t : Slots) (m : Mem) (k : AV → Prop) (ty : TypeId) (x : Operand) : rdx P rd t m (.sliceToArrayPointer ty x) k = withv (evx t x) fun u => s2ax P ty u k := rfl
theorem mapOf_map (n : Nat) : mapOf [.map n] = some n := rfl
theorem mapOf_sl (n o l c : Nat) : mapOf [.sl n o l c] = none := rfl
theorem mapOf_nils : mapOf [.nils] = none := rfl
theorem mapOf_ro (n : Nat) (l : List AV) : mapOf [.ro n l] = none := rfl
theorem mapOf_str (x : ByteArray) : mapOf [.str x] = none := rfl
theorem mapOf_agg (l : List AV) : mapOf [.agg l] = none := rfl
theorem mapOf_ptr (n o : Nat) : mapOf [.ptr n o] = none := rfl
theorem mapOf_rop (l : List AV) : mapOf [.rop l] = none := rfl
theorem mapOf_val (v : Value) : mapOf [.val v] = none := rfl
theorem lenq_none (P : Program) (ts : Array TypeId) (l : List AV) (m : Mem) (nx : Nat) (K : Kv) : lenq P ts l m nx K none = bltx P .len ts l (KvAt K m nx) := rfl
theorem lenq_some (P : Program) (ts : Array TypeId) (l : List AV) (m : Mem) (nx : Nat) (K : Kv) (n : Nat) : lenq P ts l m nx K (some n) = lenm P ts n m nx K := rfl
end Go.Eng
