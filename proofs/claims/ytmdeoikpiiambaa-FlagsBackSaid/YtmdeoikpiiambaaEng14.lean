/- The engine, part 14: a law's arguments. Own work. -/
import Derived.Test.YtmdeoikpiiambaaEng13
import Derived.ProofKit
set_option linter.unusedVariables false
namespace Go.Eng
open Go Go.RowKit

/-- a slice of integers that came in: nil, or it leads to a row -/
def IsRow (k : IntKind) (w : World) (a : Option Addr) (len cap : Nat) (zs : List Int) : Prop :=
  (a = none ∧ len = 0 ∧ cap = 0 ∧ zs = []) ∨
  ∃ x, a = some x ∧ len ≤ cap ∧ cap ≤ maxLen ∧ zs.length = cap ∧ (∀ i, i < zs.length → w.cell? (x.add i) = some (.int k (zs.getD i 0))) ∧ ∀ n ∈ zs, (Lit.int k n).wf = true
theorem IsRow.len {k : IntKind} {w : World} {a : Option Addr} {len cap : Nat} {zs : List Int} (h : IsRow k w a len cap zs) : (zs.take len).length = len ∧ len ≤ cap ∧ len ≤ maxLen := by
  rcases h with ⟨_, rfl, rfl, rfl⟩ | ⟨x, _, h1, h2, h3, _⟩
  · exact ⟨rfl, Nat.le_refl _, Nat.zero_le _⟩
  · exact ⟨by simp; omega, h1, by omega⟩
theorem IsRow.den {k : IntKind} {w : World} {a : Option Addr} {len cap : Nat} {zs : List Int} (h : IsRow k w a len cap zs) (B : Names) : Den (fun a => w.cell? a) B (.ro len (ints k (zs.take len))) (.slice a len cap) := by
  obtain ⟨g1, g2, _⟩ := h.len
  refine ro_int g1 g2 fun hp => ?_
  rcases h with ⟨_, rfl, _⟩ | ⟨x, h1, h2, h3, h4, h5, _⟩
  · omega
  · refine ⟨x, h1, fun i hi => ?_⟩
    rw [h5 i (by omega)]
    congr 2
    simp [List.getD_eq_getElem?_getD, hi]
theorem IsRow.wf {k : IntKind} {w : World} {a : Option Addr} {len cap : Nat} {zs : List Int} (h : IsRow k w a len cap zs) : ∀ n ∈ zs.take len, (Lit.int k n).wf = true := by
  rcases h with ⟨_, rfl, _, rfl⟩ | ⟨x, _, _, _, _, _, h⟩
  · intro n hn; simp at hn
  · exact fun n hn => h n (List.mem_of_mem_take hn)
theorem wf_u8 {n : Int} (h : (Lit.int .u8 n).wf = true) : n = ((BitVec.ofInt 8 n).toNat : Int) := by
  simp [Lit.wf, IntKind.min, IntKind.max, IntKind.signed, IntKind.bits] at h
  rw [BitVec.toNat_ofInt]
  omega
theorem ints_bv8 {l : List Int} (h : ∀ n ∈ l, (Lit.int .u8 n).wf = true) : ints .u8 l = bvs .u8 (l.map (BitVec.ofInt 8)) := by
  simp only [ints, bvs, List.map_map]
  refine List.map_congr_left fun n hn => ?_
  simp only [Function.comp]
  rw [← wf_u8 (h n hn)]
theorem IsRow.bv8 {w : World} {a : Option Addr} {len cap : Nat} {zs : List Int} (h : IsRow .u8 w a len cap zs) (B : Names) :
    ∃ b : List (BitVec 8), b.length = len ∧ b.length ≤ maxLen ∧ Den (fun a => w.cell? a) B (.ro b.length (bvs .u8 b)) (.slice a len cap) := by
  refine ⟨(zs.take len).map (BitVec.ofInt 8), by simpa using h.len.1, by rw [List.length_map, h.len.1]; exact h.len.2.2, ?_⟩
  rw [← ints_bv8 h.wf, List.length_map, h.len.1]
  exact h.den B
theorem wf_u16 {n : Int} (h : (Lit.int .u16 n).wf = true) : n = ((BitVec.ofInt 16 n).toNat : Int) := by
  simp [Lit.wf, IntKind.min, IntKind.max, IntKind.signed, IntKind.bits] at h
  rw [BitVec.toNat_ofInt]
  omega
theorem ints_bv16 {l : List Int} (h : ∀ n ∈ l, (Lit.int .u16 n).wf = true) : ints .u16 l = bvs .u16 (l.map (BitVec.ofInt 16)) := by
  simp only [ints, bvs, List.map_map]
  refine List.map_congr_left fun n hn => ?_
  simp only [Function.comp]
  rw [← wf_u16 (h n hn)]
theorem IsRow.bv16 {w : World} {a : Option Addr} {len cap : Nat} {zs : List Int} (h : IsRow .u16 w a len cap zs) (B : Names) :
    ∃ b : List (BitVec 16), b.length = len ∧ b.length ≤ maxLen ∧ Den (fun a => w.cell? a) B (.ro b.length (bvs .u16 b)) (.slice a len cap) := by
  refine ⟨(zs.take len).map (BitVec.ofInt 16), by simpa using h.len.1, by rw [List.length_map, h.len.1]; exact h.len.2.2, ?_⟩
  rw [← ints_bv16 h.wf, List.length_map, h.len.1]
  exact h.den B
theorem wf_u32 {n : Int} (h : (Lit.int .u32 n).wf = true) : n = ((BitVec.ofInt 32 n).toNat : Int) := by
  simp [Lit.wf, IntKind.min, IntKind.max, IntKind.signed, IntKind.bits] at h
  rw [BitVec.toNat_ofInt]
  omega
theorem ints_bv32 {l : List Int} (h : ∀ n ∈ l, (Lit.int .u32 n).wf = true) : ints .u32 l = bvs .u32 (l.map (BitVec.ofInt 32)) := by
  simp only [ints, bvs, List.map_map]
  refine List.map_congr_left fun n hn => ?_
  simp only [Function.comp]
  rw [← wf_u32 (h n hn)]
theorem IsRow.bv32 {w : World} {a : Option Addr} {len cap : Nat} {zs : List Int} (h : IsRow .u32 w a len cap zs) (B : Names) :
    ∃ b : List (BitVec 32), b.length = len ∧ b.length ≤ maxLen ∧ Den (fun a => w.cell? a) B (.ro b.length (bvs .u32 b)) (.slice a len cap) := by
  refine ⟨(zs.take len).map (BitVec.ofInt 32), by simpa using h.len.1, by rw [List.length_map, h.len.1]; exact h.len.2.2, ?_⟩
  rw [← ints_bv32 h.wf, List.length_map, h.len.1]
  exact h.den B
theorem wf_u64 {n : Int} (h : (Lit.int .u64 n).wf = true) : n = ((BitVec.ofInt 64 n).toNat : Int) := by
  simp [Lit.wf, IntKind.min, IntKind.max, IntKind.signed, IntKind.bits] at h
  rw [BitVec.toNat_ofInt]
  omega
theorem ints_bv64 {l : List Int} (h : ∀ n ∈ l, (Lit.int .u64 n).wf = true) : ints .u64 l = bvs .u64 (l.map (BitVec.ofInt 64)) := by
  simp only [ints, bvs, List.map_map]
  refine List.map_congr_left fun n hn => ?_
  simp only [Function.comp]
  rw [← wf_u64 (h n hn)]
theorem IsRow.bv64 {w : World} {a : Option Addr} {len cap : Nat} {zs : List Int} (h : IsRow .u64 w a len cap zs) (B : Names) :
    ∃ b : List (BitVec 64), b.length = len ∧ b.length ≤ maxLen ∧ Den (fun a => w.cell? a) B (.ro b.length (bvs .u64 b)) (.slice a len cap) := by
  refine ⟨(zs.take len).map (BitVec.ofInt 64), by simpa using h.len.1, by rw [List.length_map, h.len.1]; exact h.len.2.2, ?_⟩
  rw [← ints_bv64 h.wf, List.length_map, h.len.1]
  exact h.den B
theorem wf_i64 {n : Int} (h : (Lit.int .i64 n).wf = true) : -9223372036854775808 ≤ n ∧ n < 9223372036854775808 := by
  simp [Lit.wf, IntKind.min, IntKind.max, IntKind.signed, IntKind.bits] at h
  omega
end Go.Eng
