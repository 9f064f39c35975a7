/- Parsing: the symbols of bytes. -/
import Derived.Test.YtmnbbpckglppjaaEng26
import Derived.Test.YtmnbbpckglppjaaPrb
set_option linter.unusedVariables false
set_option linter.unusedSimpArgs false
set_option maxRecDepth 100000
namespace Go.Eng
open Go
theorem appk_cells {wr : Nat → Bool} {m : Mem} {nx : Nat} {K : Kv} {X Y : List AV} {sp : List Value} {n len cap e s bt k : Nat} (hn : look m n = some (.cells (X ++ sp.map AV.val) e)) (hw : wr n = true)
    (hX : X.length = len * s) (hs : sp.length = (cap - len) * s) (hlc : len ≤ cap) (hc : cap ≤ maxI) (hm : (len + k) * bt ≤ 140737488355328) (hb : 0 < bt)
    (hK : ∀ (cap' : Nat) (sp' : List Value), len + k ≤ cap' → cap' ≤ maxI → sp'.length = (cap' - (len + k)) * s → K (.sl nx 0 (len + k) cap') ((nx, .cells (X ++ Y ++ sp'.map AV.val) e) :: del m n) (nx + 1)) :
    appk (.sl n 0 len cap) m nx wr e s bt (k, Y) K := by
  simp only [appk]
  refine ⟨trivial, hw, ?_⟩
  rw [hn]
  have h1 : len + k ≤ (len + k) * bt := Nat.le_mul_of_pos_right _ hb
  refine ⟨rfl, ?_, hc, hm, by omega, fun cap' sp' h1 h2 h3 => ?_⟩
  · rw [List.length_append, List.length_map, hX, hs, ← Nat.add_mul, show len + (cap - len) = cap by omega]
  · have := hK cap' sp' h1 h2 h3
    rwa [List.take_append_of_le_length (by omega), List.take_of_length_le (by omega)]
theorem appk_cells0 {wr : Nat → Bool} {m : Mem} {nx : Nat} {K : Kv} {Y : List AV} {e s bt k : Nat} (hm : k * bt ≤ 140737488355328) (hb : 0 < bt) (hk : 0 < k)
    (hK : ∀ (cap' : Nat) (sp' : List Value), k ≤ cap' → cap' ≤ maxI → sp'.length = (cap' - k) * s → K (.sl nx 0 k cap') ((nx, .cells (Y ++ sp'.map AV.val) e) :: m) (nx + 1)) :
    appk .nils m nx wr e s bt (k, Y) K := by
  simp only [appk]
  have h1 : k ≤ k * bt := Nat.le_mul_of_pos_right _ hb
  exact ⟨hm, by omega, fun h => by omega, fun _ => hK⟩
end Go.Eng
namespace Go.Proofs.Ytmnbbpckglppjaa
open Go Go.Eng

def advS (s : Sym) : Nat := (max s.len 1).toNat
def symsF (d : List (BitVec 8)) (dict nice : Int) (q : Nat) : Nat → Nat → R4 → List Sym × R4
  | 0, _, r => ([], r)
  | k + 1, p, r => if p < q then
      ((nextF d dict nice p ((q : Int) - p) r).1 :: (symsF d dict nice q k (p + advS (nextF d dict nice p ((q : Int) - p) r).1) (nextF d dict nice p ((q : Int) - p) r).2).1,
        (symsF d dict nice q k (p + advS (nextF d dict nice p ((q : Int) - p) r).1) (nextF d dict nice p ((q : Int) - p) r).2).2)
    else ([], r)
theorem symsF_done (d : List (BitVec 8)) (dict nice : Int) (q : Nat) (k p : Nat) (r : R4) (h : q ≤ p) : symsF d dict nice q k p r = ([], r) := by
  cases k with
  | zero => rfl
  | succ k => rw [symsF, if_neg (by omega)]
def symRow (L : List Sym) (sp : List Value) : AObj := .cells (L.flatMap symC ++ sp.map AV.val) 83
theorem symC_len (s : Sym) : (symC s).length = 5 := rfl
theorem flat_len (L : List Sym) : (L.flatMap symC).length = L.length * 5 := by
  induction L with
  | nil => rfl
  | cons x r ih => rw [List.flatMap_cons, List.length_append, ih, symC_len, List.length_cons]; omega
def outA (L : List Sym) : Option (Nat × Nat × List Value) → AV
  | none => .nils
  | some (n, cap, _) => .sl n 0 L.length cap
def outM (L : List Sym) : Option (Nat × Nat × List Value) → Mem
  | none => []
  | some (n, _, sp) => [(n, symRow L sp)]
def outQ (L : List Sym) (lo hi : Nat) : Option (Nat × Nat × List Value) → Prop
  | none => L = []
  | some (n, cap, sp) => lo ≤ n ∧ n < hi ∧ L.length ≤ cap ∧ cap ≤ maxI ∧ sp.length = (cap - L.length) * 5
def SymsK (L : List Sym) (r : R4) (m : Mem) (nx : Nat) : Kv := fun v m' nx' => ∃ o, v = .tup [outA L o, .agg r.av, .int .i64 0] ∧ outQ L nx nx' o ∧ m' = outM L o ++ m ∧ nx ≤ nx'
theorem LikeV_left (d : List (BitVec 8)) (dict p e M : Int) (hM : 0 ≤ M) : LikeV d dict p e M ≤ M := by
  rw [LikeV]
  split
  · omega
  · have := lkn_le d (min (min M 273) ((d.length - p.toNat : Nat) : Int)).toNat p.toNat (p.toNat - e.toNat)
    omega
theorem repN_left (d : List (BitVec 8)) (dict p left : Int) (r : R4) (hM : 0 ≤ left) : ∀ i, (repN d dict p left r i).2 ≤ left
  | 0 => hM
  | i + 1 => by
    have h1 := repN_left d dict p left r hM i
    have h2 := LikeV_left d dict p (r.get i) left hM
    rw [repN]
    split
    · exact h2
    · exact h1
theorem bestR_spec' (d : List (BitVec 8)) (p m D : Nat) : bestR d p m D = (0, 0) ∨ (2 ≤ (bestR d p m D).1 ∧ (bestR d p m D).1 ≤ m ∧ 1 ≤ (bestR d p m D).2 ∧ (bestR d p m D).2 ≤ D ∧ (bestR d p m D).1 = lkn d p (p - (bestR d p m D).2) m ∧ ∀ j, 1 ≤ j → j < (bestR d p m D).2 → lkn d p (p - j) m < (bestR d p m D).1) := by
  obtain ⟨_, h⟩ := scanR_spec d p m D
  have hle := scanR_le d p m D
  unfold bestR fil
  by_cases hc : (scanR d p m D).1 < 2
  · rw [if_pos hc]; exact .inl rfl
  · rw [if_neg hc]
    rcases h with ⟨h, _⟩ | ⟨h1, h2, h3, h4⟩
    · omega
    · exact .inr ⟨by omega, hle, h1, h2, h3, h4⟩
theorem BestP_le (d : List (BitVec 8)) (dict nice p M : Int) : (BestP d dict nice p M).1 = 0 ∨ ((BestP d dict nice p M).1 : Int) ≤ M ∧ ((BestP d dict nice p M).1 : Int) ≤ nice := by
  rw [BestP]
  split
  · exact .inl rfl
  · rcases bestR_spec' d p.toNat (min (min M nice) ((d.length - p.toNat : Nat) : Int)).toNat (min p dict).toNat with h | h
    · rw [h]; exact .inl rfl
    · exact .inr (by omega)
/-- how far one goes on -/
theorem adv_le (d : List (BitVec 8)) (dict nice : Int) (p q : Nat) (r : R4) (h : p < q) : 1 ≤ advS (nextF d dict nice p ((q : Int) - p) r).1 ∧ p + advS (nextF d dict nice p ((q : Int) - p) r).1 ≤ q := by
  have h1 := repN_left d dict p ((q : Int) - p) r (by omega) 4
  have h2 := BestP_le d dict nice p ((q : Int) - p)
  unfold nextF
  split
  · show 1 ≤ (max (repN d dict p ((q : Int) - p) r 4).2 1).toNat ∧ p + (max (repN d dict p ((q : Int) - p) r 4).2 1).toNat ≤ q
    omega
  · split
    · show 1 ≤ (max ((BestP d dict nice p ((q : Int) - p)).1 : Int) 1).toNat ∧ p + (max ((BestP d dict nice p ((q : Int) - p)).1 : Int) 1).toNat ≤ q
      omega
    · split
      · show 1 ≤ 1 ∧ p + 1 ≤ q; omega
      · show 1 ≤ 1 ∧ p + 1 ≤ q; omega
end Go.Proofs.Ytmnbbpckglppjaa
