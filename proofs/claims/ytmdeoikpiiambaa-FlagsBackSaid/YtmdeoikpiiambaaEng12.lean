/- The engine, part 12: counted loops, branches, and ends in their usual forms. Own work. -/
import Derived.Test.YtmdeoikpiiambaaEng31
set_option linter.unusedVariables false
namespace Go.Eng
open Go

theorem wrap_u (k : IntKind) (hk : k.signed = false) (x : Int) : k.wrap x = x % 2 ^ k.bits := by simp [IntKind.wrap, hk]
theorem wrap_u8 (x : Int) : IntKind.u8.wrap x = x % 256 := wrap_u .u8 rfl x
theorem wrap_u16 (x : Int) : IntKind.u16.wrap x = x % 65536 := wrap_u .u16 rfl x
theorem wrap_u32 (x : Int) : IntKind.u32.wrap x = x % 4294967296 := wrap_u .u32 rfl x
theorem wrap_u64 (x : Int) : IntKind.u64.wrap x = x % 18446744073709551616 := wrap_u .u64 rfl x
theorem wrap_i64' (x : Int) : IntKind.i64.wrap x = if x % 18446744073709551616 ≥ 9223372036854775808 then x % 18446744073709551616 - 18446744073709551616 else x % 18446744073709551616 := by
  have h : IntKind.i64.wrap x = if decide (x % 18446744073709551616 ≥ 9223372036854775808) = true then x % 18446744073709551616 - 18446744073709551616 else x % 18446744073709551616 := rfl
  rw [h]; simp only [decide_eq_true_eq]
theorem wrap_i64 {x : Int} (h1 : -9223372036854775808 ≤ x) (h2 : x < 9223372036854775808) : IntKind.i64.wrap x = x := by
  rw [wrap_i64']; split <;> omega

/-! sameness of names -/
def slotsSame (t : Slots) : Slots → Prop
  | [] => True
  | (s, v) :: r => look t s = some v ∧ slotsSame t r
def memSame (m : Mem) : Mem → Prop
  | [] => True
  | (n, o) :: r => look m n = some o ∧ memSame m r
theorem rf_id {nx nx' : Nat} (h : nx = nx') (n : Nat) : rf [] nx nx' n = n := by
  unfold rf; simp only [look]; split <;> omega
mutual
theorem renA_id {f : Nat → Nat} (hf : ∀ n, f n = n) : ∀ v : AV, renA f v = v
  | .bool _ => rfl
  | .int _ _ => rfl
  | .str _ => rfl
  | .ptr n o => by simp only [renA, hf]
  | .nilp => rfl
  | .sl n o l c => by simp only [renA, hf]
  | .nils => rfl
  | .ro l xs => by simp only [renA, renL_id hf xs]
  | .rop xs => by simp only [renA, renL_id hf xs]
  | .fn g x y => by simp only [renA, renL_id hf x, renL_id hf y]
  | .nilf => rfl
  | .map n => by simp only [renA, hf]
  | .nilm => rfl
  | .iface t x => by simp only [renA, renA_id hf x]
  | .nili => rfl
  | .agg l => by simp only [renA, renL_id hf l]
  | .tup l => by simp only [renA, renL_id hf l]
  | .val _ => rfl
theorem renL_id {f : Nat → Nat} (hf : ∀ n, f n = n) : ∀ l : List AV, renL f l = l
  | [] => rfl
  | v :: r => by simp only [renL, renA_id hf v, renL_id hf r]
end
theorem renO_id {f : Nat → Nat} (hf : ∀ n, f n = n) (o : AObj) : renO f o = o := by
  cases o with
  | cells l ty => simp only [renO, renL_id hf]
  | opq o => rfl
  | fz l ty => simp only [renO, renL_id hf]
  | mp k keys vals => simp only [renO, renL_id hf]
  | mx kd keys vals born => simp only [renO, renL_id hf]

theorem slotsSame_le {f : Nat → Nat} (hf : ∀ n, f n = n) {t : Slots} : ∀ {t' : Slots}, slotsSame t t' → slotsLe f t t'
  | [], _ => trivial
  | (s, v) :: r, h => ⟨by rw [renA_id hf]; exact h.1, slotsSame_le hf h.2⟩
theorem memSame_le {f : Nat → Nat} (hf : ∀ n, f n = n) {wr : Nat → Bool} {m : Mem} : ∀ {m' : Mem}, memSame m m' → memLe f wr wr m m'
  | [], _ => trivial
  | (n, o) :: r, h => ⟨by rw [renO_id hf, hf]; exact h.1, by rw [hf], memSame_le hf h.2⟩
theorem injOn_id {f : Nat → Nat} (hf : ∀ n, f n = n) {m : Mem} (h : (m.map fun p => p.1).Nodup) : injOn f m := by
  unfold injOn; simpa only [hf] using h
theorem Le.same {nf : Nat} {wr : Nat → Bool} {t t' : Slots} {m m' : Mem} {nx : Nat} (hn : nf ≤ nx) (hs : slotsSame t t') (hm : memSame m m') (hd : (m'.map fun p => p.1).Nodup)
    (hw : ∀ n, nx ≤ n → wr n = true) (hk : ∀ n, wr n = false → ∃ o, look m' n = some o) : ∃ l, Le nf l wr t m nx t' m' nx :=
  ⟨[], ⟨by rfl, hn, slotsSame_le (rf_id rfl) hs, memSame_le (rf_id rfl) hm, injOn_id (rf_id rfl) hd, hk, hw⟩⟩
theorem Le.sameT {nf : Nat} {t t' : Slots} {m m' : Mem} {nx : Nat} (hn : nf ≤ nx) (hs : slotsSame t t') (hm : memSame m m') (hd : (m'.map fun p => p.1).Nodup) : ∃ l, Le nf l (fun _ => true) t m nx t' m' nx :=
  Le.same hn hs hm hd (fun _ _ => rfl) (fun _ e => by cases e)

/-! a loop that counts up -/
def UpK (nf : Nat) (wr : Nat → Bool) (S : Nat → Slots × Mem × Nat) (n i : Nat) (hi : i ≤ n) (K : Kx) : Kx := LoopK (ι := { i : Nat // i ≤ n }) nf wr (fun i => S i.1) (fun i => n - i.1) ⟨i, hi⟩ K
theorem UpK_normal {nf : Nat} {wr : Nat → Bool} {S : Nat → Slots × Mem × Nat} {n i : Nat} {hi : i ≤ n} {K : Kx} {t : Slots} {m : Mem} {nx : Nat} (h1 : i < n) (h2 : ∃ l, Le nf l wr t m nx (S (i + 1)).1 (S (i + 1)).2.1 (S (i + 1)).2.2) : UpK nf wr S n i hi K .normal t m nx :=
  ⟨⟨i + 1, h1⟩, by show n - (i + 1) < n - i; omega, h2⟩
theorem UpK_ret (nf : Nat) (wr : Nat → Bool) (S : Nat → Slots × Mem × Nat) (n i : Nat) (hi : i ≤ n) (K : Kx) (t : Slots) (m : Mem) (nx : Nat) : UpK nf wr S n i hi K .ret t m nx = K .ret t m nx := rfl
theorem UpK_exit (nf : Nat) (wr : Nat → Bool) (S : Nat → Slots × Mem × Nat) (n i : Nat) (hi : i ≤ n) (K : Kx) (t : Slots) (m : Mem) (nx : Nat) (e : Nat) : UpK nf wr S n i hi K (.exit e) t m nx = K (.exit e) t m nx := rfl
theorem LoopOk.up {fz : Bool} {nf : Nat} {E : Ex} {wr : Nat → Bool} {t : Slots} {m : Mem} {nx : Nat} {K : Kx} (n : Nat) (S : Nat → Slots × Mem × Nat)
    (h0 : ∃ l, Le nf l wr t m nx (S 0).1 (S 0).2.1 (S 0).2.2) (hr : ∀ i (hi : i ≤ n), E (S i).1 (S i).2.1 (S i).2.2 (UpK nf wr S n i hi K)) : LoopOk fz nf E wr t m nx K :=
  ⟨{ i : Nat // i ≤ n }, fun i => S i.1, fun i => n - i.1, ⟨⟨0, Nat.zero_le _⟩, .inl h0⟩, fun i => hr i.1 i.2⟩
theorem LoopOk.upF {nf : Nat} {E : Ex} {wr : Nat → Bool} {t : Slots} {m : Mem} {nx : Nat} {K : Kx} (n : Nat) (S : Nat → Slots × Mem × Nat)
    (h0 : LeF nf wr t m nx (S 0).1 (S 0).2.1 (S 0).2.2) (hr : ∀ i (hi : i ≤ n), E (S i).1 (S i).2.1 (S i).2.2 (UpK nf wr S n i hi K)) : LoopOk true nf E wr t m nx K :=
  ⟨{ i : Nat // i ≤ n }, fun i => S i.1, fun i => n - i.1, ⟨⟨0, Nat.zero_le _⟩, .inr ⟨rfl, h0⟩⟩, fun i => hr i.1 i.2⟩
/-! branches and ends -/
theorem cndv_split {P : Program} {fz : Bool} {N nf : Nat} {wr : Nat → Bool} {b : Bool} {x y : Code} {t : Slots} {m : Mem} {nx : Nat} {K : Kx} (h1 : b = true → exec P fz N nf wr x t m nx K) (h2 : b = false → exec P fz N nf wr y t m nx K) : cndv P fz N nf wr (.bool b) x y t m nx K := ⟨h1, h2⟩
theorem grdv_split {b : Bool} {s : Tmp} {want : Bool} {yes no : Se} {t : Slots} {m : Mem} {nx : Nat} (h1 : b = want → yes ((s, .bool want) :: t) m nx) (h2 : b = !want → no ((s, .bool (!want)) :: t) m nx) : grdv (some (.bool b)) s want yes no t m nx := ⟨h1, h2⟩
theorem pickv_split {b : Bool} {x y : Option AV} {k : AV → Prop} (h1 : b = true → withv x k) (h2 : b = false → withv y k) : pickv (.bool b) x y k := ⟨h1, h2⟩
theorem renL_flat {f : Nat → Nat} {l : List AV} (h : l.all flat = true) : renL f l = l := flatL_ren h f
theorem flat_ints (k : IntKind) (l : List Int) : (l.map (AV.int k)).all flat = true := by
  induction l with
  | nil => rfl
  | cons x r ih => simp only [List.map_cons, List.all_cons, ih, Bool.and_true]; rfl
theorem Fin.flatv {wr : Nat → Bool} {m : Mem} {nx : Nat} {K : Kv} {v : AV} (hw : ∀ n, wr n = true) (hf : ∀ f, renA f v = v) (h : K v [] 0) : Fin 0 wr m nx K v :=
  ⟨[], v, [], 0, ⟨rfl, Nat.le_refl _⟩, (hf _).symm, trivial, List.nodup_nil, fun n e => (by rw [hw] at e; cases e), h⟩

/-! one cell each -/
def stxo (P : Program) (wr : Nat → Bool) (ty : TypeId) (n off : Nat) (x : AV) (m : Mem) (nx : Nat) (K : Kv) : Option AObj → Prop
  | some (.cells l e) => wr n = true ∧ isTup x = false ∧ sizeT P ty = some (acells x).length ∧ off + (acells x).length ≤ l.length ∧ (acells x).all one1 = true ∧ K (.tup []) (upd m n (.cells (stor l off x) e)) nx
  | _ => False
theorem stx_ptr (P : Program) (wr : Nat → Bool) (ty : TypeId) (n off : Nat) (x : AV) (m : Mem) (nx : Nat) (K : Kv) : stx P wr ty (.ptr n off) x m nx K = stxo P wr ty n off x m nx K (look m n) := by
  simp only [stx]
  generalize look m n = o
  match o with
  | none => rfl
  | some (.cells l e) => rfl
  | some (.opq o) => rfl
  | some (.fz l e) => rfl
  | some (.mp k a b) => rfl
  | some (.mx k a b c) => rfl
theorem stxo_cells (P : Program) (wr : Nat → Bool) (ty : TypeId) (n off : Nat) (x : AV) (m : Mem) (nx : Nat) (K : Kv) (l : List AV) (e : TypeId) : stxo P wr ty n off x m nx K (some (.cells l e)) = (wr n = true ∧ isTup x = false ∧ sizeT P ty = some (acells x).length ∧ off + (acells x).length ≤ l.length ∧ (acells x).all one1 = true ∧ K (.tup []) (upd m n (.cells (stor l off x) e)) nx) := rfl
theorem one1_bool (b : Bool) : one1 (.bool b) = true := rfl
theorem isTup_bool (b : Bool) : isTup (.bool b) = false := rfl
theorem acells_bool (b : Bool) : acells (.bool b) = [(.bool b)] := rfl
theorem one1_int (k : IntKind) (n : Int) : one1 (.int k n) = true := rfl
theorem isTup_int (k : IntKind) (n : Int) : isTup (.int k n) = false := rfl
theorem acells_int (k : IntKind) (n : Int) : acells (.int k n) = [(.int k n)] := rfl
theorem one1_str (s : ByteArray) : one1 (.str s) = true := rfl
theorem isTup_str (s : ByteArray) : isTup (.str s) = false := rfl
theorem acells_str (s : ByteArray) : acells (.str s) = [(.str s)] := rfl
theorem one1_ptr (n o : Nat) : one1 (.ptr n o) = true := rfl
theorem isTup_ptr (n o : Nat) : isTup (.ptr n o) = false := rfl
theorem acells_ptr (n o : Nat) : acells (.ptr n o) = [(.ptr n o)] := rfl
theorem one1_nilp : one1 .nilp = true := rfl
theorem isTup_nilp : isTup .nilp = false := rfl
theorem acells_nilp : acells .nilp = [.nilp] := rfl
theorem one1_sl (n o l c : Nat) : one1 (.sl n o l c) = true := rfl
theorem isTup_sl (n o l c : Nat) : isTup (.sl n o l c) = false := rfl
theorem acells_sl (n o l c : Nat) : acells (.sl n o l c) = [(.sl n o l c)] := rfl
theorem one1_nils : one1 .nils = true := rfl
theorem isTup_nils : isTup .nils = false := rfl
theorem acells_nils : acells .nils = [.nils] := rfl
theorem one1_ro (l : Nat) (x : List AV) : one1 (.ro l x) = true := rfl
theorem isTup_ro (l : Nat) (x : List AV) : isTup (.ro l x) = false := rfl
theorem acells_ro (l : Nat) (x : List AV) : acells (.ro l x) = [(.ro l x)] := rfl
theorem one1_rop (x : List AV) : one1 (.rop x) = true := rfl
theorem isTup_rop (x : List AV) : isTup (.rop x) = false := rfl
theorem acells_rop (x : List AV) : acells (.rop x) = [(.rop x)] := rfl
theorem one1_fn (f : Fn) (x y : List AV) : one1 (.fn f x y) = true := rfl
theorem isTup_fn (f : Fn) (x y : List AV) : isTup (.fn f x y) = false := rfl
theorem acells_fn (f : Fn) (x y : List AV) : acells (.fn f x y) = [(.fn f x y)] := rfl
theorem one1_nilf : one1 .nilf = true := rfl
theorem isTup_nilf : isTup .nilf = false := rfl
theorem acells_nilf : acells .nilf = [.nilf] := rfl
theorem one1_map (n : Nat) : one1 (.map n) = true := rfl
theorem isTup_map (n : Nat) : isTup (.map n) = false := rfl
theorem acells_map (n : Nat) : acells (.map n) = [(.map n)] := rfl
theorem one1_nilm : one1 .nilm = true := rfl
theorem isTup_nilm : isTup .nilm = false := rfl
theorem acells_nilm : acells .nilm = [.nilm] := rfl
theorem one1_iface (t : TypeId) (x : AV) : one1 (.iface t x) = true := rfl
theorem isTup_iface (t : TypeId) (x : AV) : isTup (.iface t x) = false := rfl
theorem acells_iface (t : TypeId) (x : AV) : acells (.iface t x) = [(.iface t x)] := rfl
theorem one1_nili : one1 .nili = true := rfl
theorem isTup_nili : isTup .nili = false := rfl
theorem acells_nili : acells .nili = [.nili] := rfl
theorem isTup_agg (l : List AV) : isTup (.agg l) = false := rfl
theorem acells_agg (l : List AV) : acells (.agg l) = l := rfl
theorem stor_bool (b : Bool) (l : List AV) (off : Nat) : stor l off (.bool b) = l.set off (.bool b) := rfl
theorem stor_int (k : IntKind) (n : Int) (l : List AV) (off : Nat) : stor l off (.int k n) = l.set off (.int k n) := rfl
theorem stor_str (s : ByteArray) (l : List AV) (off : Nat) : stor l off (.str s) = l.set off (.str s) := rfl
theorem stor_ptr (n o : Nat) (l : List AV) (off : Nat) : stor l off (.ptr n o) = l.set off (.ptr n o) := rfl
theorem stor_nilp (l : List AV) (off : Nat) : stor l off .nilp = l.set off .nilp := rfl
theorem stor_sl (n o l2 c : Nat) (l : List AV) (off : Nat) : stor l off (.sl n o l2 c) = l.set off (.sl n o l2 c) := rfl
theorem stor_nils (l : List AV) (off : Nat) : stor l off .nils = l.set off .nils := rfl
theorem stor_ro (l2 : Nat) (x : List AV) (l : List AV) (off : Nat) : stor l off (.ro l2 x) = l.set off (.ro l2 x) := rfl
theorem stor_rop (x : List AV) (l : List AV) (off : Nat) : stor l off (.rop x) = l.set off (.rop x) := rfl
theorem stor_fn (f : Fn) (x y : List AV) (l : List AV) (off : Nat) : stor l off (.fn f x y) = l.set off (.fn f x y) := rfl
theorem stor_nilf (l : List AV) (off : Nat) : stor l off .nilf = l.set off .nilf := rfl
theorem stor_map (n : Nat) (l : List AV) (off : Nat) : stor l off (.map n) = l.set off (.map n) := rfl
theorem stor_nilm (l : List AV) (off : Nat) : stor l off .nilm = l.set off .nilm := rfl
theorem stor_iface (t : TypeId) (x : AV) (l : List AV) (off : Nat) : stor l off (.iface t x) = l.set off (.iface t x) := rfl
theorem stor_nili (l : List AV) (off : Nat) : stor l off .nili = l.set off .nili := rfl
theorem stor_agg (x l : List AV) (off : Nat) : stor l off (.agg x) = spl l off x := rfl
theorem one1_ints (k : IntKind) (l : List Int) : (l.map (AV.int k)).all one1 = true := by
  induction l with
  | nil => rfl
  | cons x r ih => simp only [List.map_cons, List.all_cons, ih, Bool.and_true]; rfl
theorem all_replicate_one {v : AV} (h : one1 v = true) (n : Nat) : (List.replicate n v).all one1 = true := by simp [h]
end Go.Eng
