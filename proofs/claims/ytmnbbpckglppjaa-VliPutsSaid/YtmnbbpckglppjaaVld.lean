/- Numbers of a variable length: Put, for the engine. -/
import Derived.Test.YtmnbbpckglppjaaEng26
import Derived.Test.YtmnbbpckglppjaaVlc
import Derived.Test.YtmnbbpckglppjaaEng29
import Derived.Test.YtmnbbpckglppjaaFx
set_option linter.unusedVariables false
set_option linter.unusedSimpArgs false
set_option maxRecDepth 100000
namespace Go.Proofs.Ytmnbbpckglppjaa
open Go Go.Eng

def putX (m : BitVec 64) : List (BitVec 8) := (digs 10 m).map byD
theorem putX_ne (m : BitVec 64) : putX m ≠ [] := by
  rw [putX, digs]
  split <;> simp
theorem denVals (H : RO) (B : Names) : ∀ (X : List (BitVec 8)), DenL H B (bvs .u8 X) (X.map valB)
  | [] => by rw [bvs_nil]; simp only [List.map_nil, DenL]
  | q :: r => by
    rw [bvs_cons, List.map_cons]
    simp only [DenL, Den]
    exact ⟨_, _, rfl, rfl, denVals H B r⟩
theorem denV (H : RO) (B : Names) : ∀ (sp : List Value), DenL H B (sp.map AV.val) sp
  | [] => by simp only [List.map_nil, DenL]
  | q :: r => by
    rw [List.map_cons]
    simp only [DenL, Den]
    exact ⟨_, _, rfl, rfl, denV H B r⟩
theorem vputOk (m : BitVec 64) (hm : m.toNat < 9223372036854775808) : CallG false Try.prog 15 [.int .u64 (m.toNat : Int)] (fun _ => true) [] 0 fun v m' nx =>
    ∃ (cap : Nat) (sp : List Value), (putX m).length + sp.length = cap ∧ cap ≤ maxI ∧ v = .tup [.sl 0 0 (putX m).length cap, .int .i64 0] ∧ m' = [(0, rowO (putX m) sp)] ∧ nx = 1 := by
  intro w0 FP H B w vs hi hd
  simp only [DenL, Den] at hd
  obtain ⟨v0, s0, rfl, rfl, rfl⟩ := hd
  refine (callsIn_wide.1 (put_in Fence.wide 3 trivial trivial trivial rfl (by decide) m hm w)).mono ?_
  rintro e W' ⟨v, rfl, hrow, hnil, hB⟩
  obtain ⟨hl, ⟨rfl, h0⟩ | ⟨g, cap, cur, rfl, hg, hgb, hnc, hcm, hcs, htk⟩⟩ := hrow
  · exact absurd (show putX m = [] by rw [putX, hnil.1 rfl]; rfl) (putX_ne m)
  have hlen : (putX m).length = (digs 10 m).length := by rw [putX, List.length_map]
  rw [Nat.mul_one] at hcs htk
  obtain ⟨sp, hsp⟩ : ∃ sp, sp = cur.toList.drop (putX m).length := ⟨_, rfl⟩
  have hcl : cur.toList = (putX m).map valB ++ sp := by
    rw [hsp]
    conv => lhs; rw [← List.take_append_drop (putX m).length cur.toList]
    rw [hlen, htk, putX, List.map_map]; rfl
  have hsl : (putX m).length + sp.length = cap := by
    have := congrArg List.length hcl
    rw [List.length_append, List.length_map, Array.length_toList, hcs] at this
    exact this.symm
  have hgl : g < W'.heap.size := (Array.getElem?_eq_some_iff.1 hgb).1
  have hmx : maxLen ≤ maxI := by decide
  have hnd : ∀ n b, B n ≠ some b := fun n b e => by rw [hi.fresh n (Nat.zero_le _)] at e; cases e
  refine ⟨_, .tup [.sl 0 0 (putX m).length cap, .int .i64 0], [(0, rowO (putX m) sp)], 1, fun n => if n = 0 then some g else none, H, rfl, fun _ => rfl, ⟨Nat.le_trans hi.size hB.size, hB.os.trans hi.os, hB.tape.trans hi.tape, hB.output.trans hi.out, fun b hb hf => (hB.block b (Nat.lt_of_lt_of_le hb hi.size)).trans (hi.frame b hb hf), fun a u e => ?_, fun n o hn => ?_, fun n n' o o' hn hn' _ => ?_, fun n hn => if_neg (by omega), fun _ _ => rfl, fun n e => by cases e⟩,
    ⟨fun _ _ e => e, fun n b e => absurd e (hnd n b)⟩, ?_, cap, sp, hsl, Nat.le_trans hcm hmx, rfl, rfl, rfl⟩
  · obtain ⟨g1, _⟩ := hi.ro a u e
    have hlt := block_lt_of_cell g1
    refine ⟨(World.cell?_of_block (w := w) (hB.block _ hlt)).trans g1, fun n o hn hbn => ?_⟩
    split at hbn
    · cases hbn; omega
    · cases hbn
  · rw [look_cons] at hn
    split at hn
    · rename_i h0
      subst h0
      cases hn
      refine ⟨g, if_pos rfl, ⟨cur.toList, by rw [hgb], ?_⟩, hgl, fun _ => .inr (Nat.le_trans hi.size hg), fun e => by cases e⟩
      rw [hcl]
      exact (denVals _ _ _).append (denV _ _ sp)
    · cases hn
  · rw [look_cons] at hn hn'
    split at hn
    · split at hn'
      · omega
      · cases hn'
    · cases hn
  · simp only [Den, DenL]
    exact ⟨[.slice (some ⟨g, 0, none⟩) (putX m).length cap, .int .i64 0], by rw [hlen], _, _, rfl, ⟨g, ⟨g, 0, none⟩, rfl, rfl, by rw [hlen]; exact hnc, fun _ => rfl⟩, _, _, rfl, rfl, rfl⟩
end Go.Proofs.Ytmnbbpckglppjaa
