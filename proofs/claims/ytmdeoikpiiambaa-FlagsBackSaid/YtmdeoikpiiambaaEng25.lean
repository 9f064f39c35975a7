/- The engine, part 25: rows of numbers that are compared as arrays. Own work. -/
import Derived.Test.YtmdeoikpiiambaaEng13
set_option linter.unusedVariables false
namespace Go.Eng
open Go

theorem avVals_bvs (q : IntKind) {w : Nat} (x : List (BitVec w)) : avVals (bvs q x) = some (x.map fun b => Value.int q (b.toNat : Int)) := by
  induction x with
  | nil => rfl
  | cons b r ih => simp only [bvs_cons, avVals, ih, Option.map_some, List.map_cons]
theorem mapM_all {α β : Type} {f : α → Option β} {g : α → β} : ∀ (l : List α), (∀ x ∈ l, f x = some (g x)) → l.mapM f = some (l.map g)
  | [], _ => by simp
  | x :: l, h => by
    rw [List.mapM_cons, h x (by simp), mapM_all l fun y hy => h y (by simp [hy])]
    rfl
theorem flat_range {α β : Type} (f : α → β) (d : α) : ∀ (x : List α), ((List.range x.length).map fun i => [f (x.getD i d)]).flatten = x.map f := by
  intro x
  have : ((List.range x.length).map fun i => [f (x.getD i d)]).flatten = (List.range x.length).map fun i => f (x.getD i d) := by
    generalize List.range x.length = r
    induction r with
    | nil => rfl
    | cons a r ih => simp only [List.map_cons, List.flatten_cons, ih, List.cons_append, List.nil_append]
  rw [this]
  refine List.ext_getElem (by simp) fun i h1 h2 => ?_
  simp only [List.length_map] at h2
  simp only [List.getElem_map, List.getElem_range, List.getD_eq_getElem?_getD, List.getElem?_eq_getElem h2, Option.getD_some]
theorem aggLits_bvs {P : Program} {t e : TypeId} {n w : Nat} {q : IntKind} (hu : P.underlying t = some (.array n e)) (he : P.underlying e = some (.int q)) (hce : P.cellsOf e = 1) (hct : P.cellsOf t = n)
    (hw : ∀ b : BitVec w, (Lit.int q (b.toNat : Int)).wf = true) {x : List (BitVec w)} (hx : x.length = n) : aggLits P t (bvs q x) = some (x.map fun b => Lit.int q (b.toNat : Int)) := by
  have hf : (Value.agg (x.map fun b => Value.int q (b.toNat : Int)).toArray).formed P t = true := by
    simp only [Value.formed, hu, List.size_toArray, List.length_map, hx, hct, beq_self_eq_true]
  simp only [aggLits, avVals_bvs, Option.bind_some, hf, if_true]
  unfold Program.keyLits
  simp only [hu, List.length_map, hx, hct, if_true, hce, Nat.mul_one]
  rw [mapM_all (g := fun i => [Lit.int q ((x.getD i 0).toNat : Int)])]
  · simp only [Option.map_some]
    rw [← hx, flat_range (fun b : BitVec w => Lit.int q (b.toNat : Int))]
  · intro i hi
    rw [List.mem_range, ← hx] at hi
    have e1 : ((x.map fun b => Value.int q (b.toNat : Int)).drop i).take 1 = [Value.int q ((x.getD i 0).toNat : Int)] := by
      rw [← List.map_drop, ← List.map_take, List.drop_eq_getElem_cons hi, List.take_succ_cons, List.take_zero, List.map_cons, List.map_nil, List.getD_eq_getElem?_getD, List.getElem?_eq_getElem hi]
      rfl
    rw [e1]
    unfold Program.keyLits
    simp only [he, hw, and_self, if_true]
theorem wf_bv8 (b : BitVec 8) : (Lit.int .u8 (b.toNat : Int)).wf = true := by
  have := b.isLt
  simp [Lit.wf, IntKind.min, IntKind.max, IntKind.signed, IntKind.bits]
  omega
theorem wf_bv32 (b : BitVec 32) : (Lit.int .u32 (b.toNat : Int)).wf = true := by
  have := b.isLt
  simp [Lit.wf, IntKind.min, IntKind.max, IntKind.signed, IntKind.bits]
  omega
theorem wf_int64 {n : Int} (h1 : -9223372036854775808 ≤ n) (h2 : n < 9223372036854775808) : (Lit.int .i64 n).wf = true := by
  simp [Lit.wf, IntKind.min, IntKind.max, IntKind.signed, IntKind.bits]
  omega
theorem memSame_slf : ∀ {m : Mem}, (m.map fun p => p.1).Nodup → memSame m m := by
  have key : ∀ (m0 m : Mem), (∀ p ∈ m, look m0 p.1 = some p.2) → memSame m0 m := by
    intro m0 m
    induction m with
    | nil => intro _; trivial
    | cons p r ih => intro h; exact ⟨h p (List.mem_cons_self ..), ih fun q hq => h q (List.mem_cons_of_mem _ hq)⟩
  intro m h
  refine key m m ?_
  induction m with
  | nil => intro p hp; cases hp
  | cons q r ih =>
    obtain ⟨k, o⟩ := q
    simp only [List.map_cons, List.nodup_cons] at h
    intro p hp
    rcases List.mem_cons.1 hp with rfl | hp
    · simp [look]
    · have hne : k ≠ p.1 := fun e => h.1 (by rw [e]; exact List.mem_map_of_mem hp)
      simp only [look]
      rw [if_neg hne]
      exact ih h.2 p hp
theorem Le.sameN {t t' : Slots} {m : Mem} {nx : Nat} (hs : slotsSame t t') (hd : (m.map fun p => p.1).Nodup) : ∃ l, Le 0 l (fun _ => true) t m nx t' m nx :=
  Le.sameT (Nat.zero_le _) hs (memSame_slf hd) hd
end Go.Eng
