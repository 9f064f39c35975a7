/- Numbers of a variable length: Put. -/
import Derived.Test.YtmnbbpckglppjaaVlb
set_option linter.unusedVariables false
set_option maxRecDepth 100000
namespace Go.Proofs.Ytmnbbpckglppjaa
open Go Go.RowKit Go.Shelf

attribute [local go_sem] Oper.semAt_some
/-- a digit's byte -/
def byD (x : BitVec 8 × Bool) : BitVec 8 := if x.2 then x.1 ||| 128#8 else x.1
def valB (q : BitVec 8) : Value := .int .u8 (q.toNat : Int)
theorem or128 (d : BitVec 8) : valB (byD (d, true)) = .int .u8 (bits BinOp.or IntKind.u8 (d.toNat : Int) 128) := by
  have h := Go.Eng.bor8 (d.toNat : Int) 128
  have e : BitVec.ofInt 8 (d.toNat : Int) = d := by simp
  rw [e] at h
  show Value.int .u8 ((d ||| 128#8).toNat : Int) = _
  exact congrArg (Value.int .u8) h.symm
theorem digs_len : ∀ (f : Nat) (m : BitVec 64), (digs f m).length ≤ f
  | 0, m => Nat.le_refl _
  | f + 1, m => by
    rw [digs]
    split
    · have := digs_len f (m >>> 7); simp only [List.length_cons]; omega
    · simp
theorem info5 : (Try.prog.info? 5).map (fun i => (i.zero, i.size, i.bytes)) = some (some (.int .u8 0), 1, 1) := by kernel_rfl
set_option maxHeartbeats 4000000 in
theorem put_in (F : Fence) (n : Nat) (h15 : F.fn 15) (h67 : F.fn 67) (h90 : F.fn 90) (hro : F.round = none) (hn : 3 ≤ n) (m : BitVec 64) (hm : m.toNat < 9223372036854775808) (w : World) :
    CallsIn F n Try.prog 15 #[.int .u64 (m.toNat : Int)] w fun e W' => ∃ v, e = .returned (.tuple #[v, .int .i64 0]) ∧ W'.ownsRow w.heap.size 5 1 v (digs 10 m).length ((digs 10 m).map fun x => valB (byD x)) ∧ (v = .slice none 0 0 ↔ digs 10 m = []) ∧ Below w.heap.size w W' := by
  have h1 : 1 ≤ n := by omega
  obtain ⟨i0, hi, hz0, hz1, hz2⟩ := info_parts info5
  refine callsIn_of_wp_marks Try.func15 rfl h15 ?_ hro
  simp only [Try.ntmps15, List.size_toArray, List.length_cons, List.length_nil, Nat.reduceAdd, Nat.reduceSub, Array.replicate_succ, Array.replicate_zero, List.push_toArray, List.append_toArray, List.nil_append, List.cons_append]
  have hle : ¬ ((9223372036854775807 : Int) < (m.toNat : Int)) := by omega
  gi_wp2_with (gi_at_call 67; refine (digits_in F (n - 1) h67 hro m _).mono ?_; rintro e w' ⟨rfl, rfl⟩)
  have bO := Boxed.new w 23 (.slice none 0 0)
  have bN := Boxed.new (w.alloc (.cells #[.slice none 0 0] 23)) 22 (.int .u64 (m.toNat : Int))
  rw [World.size_alloc] at bN
  have hB0 : Below w.heap.size w ((w.alloc (.cells #[.slice none 0 0] 23)).alloc (.cells #[.int .u64 (m.toNat : Int)] 22)) := ((Below.refl _ w).alloc (Nat.le_refl _) _).alloc (by simp) _
  have hdl := digs_len 10 m
  have h128 : m.toNat < 128 ^ 10 := Nat.lt_of_lt_of_le m.isLt (by decide)
  refine wpIn_rangeBox hro h1 (gf := 90) (lb := #[.pointer (some ⟨w.heap.size + 1, 0, none⟩)]) rfl h90 (enters_of Try.func90 (by kernel_rfl) rfl)
    (digs_in F (n - 1) h90 hro (by omega) 10 m (by decide) h128 (w.heap.size + 1) _ bN) (by simp) (fun _ => rfl)
    (fun pre W => (∃ v, Boxed W w.heap.size 23 v ∧ W.ownsRow w.heap.size 5 1 v pre.length (pre.map fun x => valB (byD x)) ∧ (v = .slice none 0 0 ↔ pre = [])) ∧ (∃ u, Boxed W (w.heap.size + 1) 22 u) ∧ Below w.heap.size w W)
    (OwnFrom.and (Own.from (holdsRow_own w.heap.size w.heap.size 23 5 1 (fun pre : List (BitVec 8 × Bool) => pre.length) (fun pre => pre.map fun x => valB (byD x)) (fun pre v => v = .slice none 0 0 ↔ pre = [])) _)
      (OwnFrom.and (Own.from (fun s A B row ⟨u, hu⟩ hg hr => ⟨u, hu.kept hg (fun e => by obtain ⟨o, ho, hc⟩ := hr _ e.symm; rw [show A.heap[w.heap.size + 1]? = _ from hu] at ho; cases ho; cases hc)⟩) _) (ownFrom_below (Nat.le_refl _) (by simp; omega))))
    ?bx ⟨⟨_, bO.alloc _, World.ownsRow_nil _ _ _ _, by simp⟩, ⟨_, bN⟩, hB0⟩
    (fun x => { tmps := #[.int .u64 (m.toNat : Int), undef, .slice none 0 0, .int .i64 0, .pointer (some ⟨w.heap.size, 0, none⟩), .int .u8 (x.1.toNat : Int), .bool x.2, .int .u64 (m.toNat : Int), .bool false, .int .u64 (m.toNat : Int),
      .func (.func 90) #[] #[.pointer (some ⟨w.heap.size + 1, 0, none⟩)], .int .u8 (x.1.toNat : Int), .bool x.2, undef, undef, undef, undef, undef, undef, undef, undef], defers := [] }) ?assign ?body ?done
  case bx =>
    rintro pre A v0 ⟨⟨v, hv, hrow, hnil⟩, ⟨u, hu⟩, hB⟩
    refine ⟨⟨v, hv.kept (grownBy_setCell' A (w.heap.size + 1) v0) (by simp), hrow.kept (grownBy_setCell' A (w.heap.size + 1) v0) (.inr (hu.not_row (by decide) hrow).symm), hnil⟩, ⟨_, hu.set v0⟩, hB.setCell (p := ⟨w.heap.size + 1, 0, none⟩) (by simp) v0⟩
  case assign =>
    intro l x W K hK
    dsimp only [encD]
    gi_wp2
    exact hK
  case body =>
    rintro l pre ⟨d, go⟩ rest W hx ⟨⟨v, hv, hrow, hnil⟩, ⟨u, hu⟩, hB⟩ hsz
    have hc := hv.cell
    have hml : 20 ≤ maxLen := by decide
    have hpl : pre.length < 10 := by rw [hx] at hdl; simp at hdl; omega
    cases go
    · gi_wp2_with (gi_at_builtin; refine wpListIn_append_own _ rfl _ _ 23 rfl w.heap.size 5 i0 (.int .u8 0) 1 1 Try.underlying23 hi hz0 hz1 hz2 rfl (by decide) _ _ _ rfl (hrow.alloc _) ⟨W.heap.size, 0, none⟩ 1 1 [.int .u8 (d.toNat : Int)] rfl rfl (cell_one_new _ _ _) (by simp [Value.oneCell']) (by omega) (by omega) (by have := hB.size; simp; omega) ?_; intro v' w1 hown' hgrow _; obtain ⟨g', cap', rfl⟩ := ownsRow_succ hown'; obtain ⟨hv1, hv2, hr2, hk2, hb2⟩ := hv.appended (by decide) hrow hB.size (Nat.le_refl _) hown' hgrow; have hc1 := hv1.cell; have hf1 := hv1.frozen)
      have e9 := (Below.heap_setCell w1 ⟨w.heap.size, 0, none⟩ (.slice (some ⟨g', 0, none⟩) (pre.length + 1) cap') (w.heap.size + 1) (by simp)).trans ((hgrow.block _ (by simp; have := hu.lt; omega) (hu.not_row (by decide) hrow)).trans (Below.heap_alloc W _ _ hu.lt))
      refine ⟨e9, ⟨_, hv2, hr2, by simp⟩, ⟨u, e9.trans hu⟩, hB.trans hb2⟩
    · gi_wp2_with (gi_at_builtin; refine wpListIn_append_own _ rfl _ _ 23 rfl w.heap.size 5 i0 (.int .u8 0) 1 1 Try.underlying23 hi hz0 hz1 hz2 rfl (by decide) _ _ _ rfl (hrow.alloc _) ⟨W.heap.size, 0, none⟩ 1 1 [.int .u8 (bits BinOp.or IntKind.u8 (d.toNat : Int) 128)] rfl rfl (cell_one_new _ _ _) (by simp [Value.oneCell']) (by omega) (by omega) (by have := hB.size; simp; omega) ?_; intro v' w1 hown' hgrow _; obtain ⟨g', cap', rfl⟩ := ownsRow_succ hown'; obtain ⟨hv1, hv2, hr2, hk2, hb2⟩ := hv.appended (by decide) hrow hB.size (Nat.le_refl _) hown' hgrow; have hc1 := hv1.cell; have hf1 := hv1.frozen)
      have e9 := (Below.heap_setCell w1 ⟨w.heap.size, 0, none⟩ (.slice (some ⟨g', 0, none⟩) (pre.length + 1) cap') (w.heap.size + 1) (by simp)).trans ((hgrow.block _ (by simp; have := hu.lt; omega) (hu.not_row (by decide) hrow)).trans (Below.heap_alloc W _ _ hu.lt))
      refine ⟨e9, ⟨_, hv2, by rw [or128]; exact hr2, by simp⟩, ⟨u, e9.trans hu⟩, hB.trans hb2⟩
  case done =>
    rintro W ⟨⟨v, hv, hrow, hnil⟩, _, hB⟩ hK
    have hc := hv.cell
    gi_wp2
    refine ⟨by simp, .inl ⟨_, _, rfl, run_takeDeferred hK, ?_⟩⟩
    exact ⟨_, results_tmp2 rfl _ _ _, v, rfl, ownsRow_putObj hrow _ hK rfl, hnil, hB.trans (belowK_b (w := w) (Nat.le_refl _) W _ _ _ (by simp; omega) hK rfl rfl)⟩
end Go.Proofs.Ytmnbbpckglppjaa
