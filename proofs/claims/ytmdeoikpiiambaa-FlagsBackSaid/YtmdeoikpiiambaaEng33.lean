/- The engine, part 33: memories that a call reads alone, or adds to. Own work. -/
import Derived.Test.YtmdeoikpiiambaaEng26
import Derived.Test.YtmdeoikpiiambaaEng32
set_option linter.unusedVariables false
set_option linter.unusedSimpArgs false
namespace Go.Eng
open Go
/-- a memory that a call reads alone -/
structure Rdm (wr : Nat → Bool) (m : Mem) (nx : Nat) : Prop where
  nd : (m.map fun p => p.1).Nodup
  kp : ∀ n, wr n = false → ∃ o, look m n = some o
  wn : ∀ n, nx ≤ n → wr n = true
def Kr (V : AV) (m : Mem) (nx : Nat) : Kv := fun v m' nx' => v = V ∧ m' = m ∧ nx' = nx
theorem Rdm.fin {wr : Nat → Bool} {m : Mem} {nx : Nat} (r : Rdm wr m nx) (V : AV) : Fin nx wr m nx (Kr V m nx) V := Fin.keepW (m0 := m) (Nat.le_refl _) (memSame_slf r.nd) r.nd r.kp ⟨rfl, rfl, rfl⟩
theorem Rdm.le {wr : Nat → Bool} {m : Mem} {nx : Nat} (r : Rdm wr m nx) {t t' : Slots} (hs : slotsSame t t') : ∃ l, Le nx l wr t m nx t' m nx := Le.same (Nat.le_refl _) hs (memSame_slf r.nd) r.nd r.wn r.kp
theorem look_lt {m : Mem} {n : Nat} {o : AObj} (h : look m n = some o) : ∃ p ∈ m, p.1 = n := by
  induction m with
  | nil => cases h
  | cons p r ih =>
    obtain ⟨k, x⟩ := p
    rw [look_cons] at h
    split at h
    · rename_i e; exact ⟨(k, x), .head _, e⟩
    · obtain ⟨q, hq, e⟩ := ih h; exact ⟨q, .tail _ hq, e⟩
theorem look_ren_low (m m0 : Mem) (k n : Nat) (h : n < k) : look (renM (fun n => n + k) m ++ m0) n = look m0 n := by
  rw [look_app]
  cases he : look (renM (fun n => n + k) m) n with
  | none => rfl
  | some o =>
    obtain ⟨j, rfl⟩ := look_renM_some he
    omega
theorem look_ren_hi (m m0 : Mem) (k n : Nat) (h0 : ∀ p ∈ m0, p.1 < k) : look (renM (fun n => n + k) m ++ m0) (n + k) = (look m n).map (renO fun n => n + k) := by
  rw [look_app, look_renM (f := fun n => n + k) (fun a b e => by omega)]
  cases he : look m n with
  | some o => rfl
  | none =>
    show look m0 (n + k) = none
    cases h2 : look m0 (n + k) with
    | none => rfl
    | some o =>
      obtain ⟨p, hp, e⟩ := look_lt h2
      have := h0 p hp
      omega
theorem renM_names (f : Nat → Nat) (m : Mem) : (renM f m).map (fun p => p.1) = (m.map fun p => p.1).map f := by
  induction m with
  | nil => rfl
  | cons p r ih => obtain ⟨k, x⟩ := p; simp only [renM, List.map_cons, ih]
theorem ren_nodup {m m0 : Mem} {k : Nat} (h : (m.map fun p => p.1).Nodup) (h0 : (m0.map fun p => p.1).Nodup) (hk : ∀ p ∈ m0, p.1 < k) : ((renM (fun n => n + k) m ++ m0).map fun p => p.1).Nodup := by
  rw [List.map_append, renM_names]
  refine List.nodup_append.2 ⟨List.Pairwise.map _ (fun a b hab => by show a + k ≠ b + k; omega) h, h0, fun a ha b hb => ?_⟩
  obtain ⟨c, _, rfl⟩ := List.mem_map.1 ha
  obtain ⟨p, hp, rfl⟩ := List.mem_map.1 hb
  have := hk p hp
  show c + k ≠ p.1
  omega
theorem ren_lt {m m0 : Mem} {k nx : Nat} (h : ∀ p ∈ m, p.1 < nx) (hk : ∀ p ∈ m0, p.1 < k) : ∀ p ∈ renM (fun n => n + k) m ++ m0, p.1 < k + nx := fun p hp => by
  rcases List.mem_append.1 hp with hp | hp
  · have : p.1 ∈ (renM (fun n => n + k) m).map (fun p => p.1) := List.mem_map_of_mem hp
    rw [renM_names] at this
    obtain ⟨c, hc, e⟩ := List.mem_map.1 this
    obtain ⟨q, hq, rfl⟩ := List.mem_map.1 hc
    have := h q hq
    have e : q.1 + k = p.1 := e
    omega
  · have := hk p hp; omega
theorem rdmT {m : Mem} {nx : Nat} (h : (m.map fun p => p.1).Nodup) : Rdm (fun _ => true) m nx := ⟨h, (fun n e => by cases e), fun _ _ => rfl⟩
theorem Fin.anyv {m : Mem} {nx : Nat} {V : AV} (hf : ∀ f, renA f V = V) : Fin 0 (fun _ => true) m nx (fun v m nx => v = V ∧ m = [] ∧ nx = 0) V := Fin.flatv (fun _ => rfl) hf ⟨rfl, rfl, rfl⟩
theorem upd_upd (m : Mem) (n : Nat) (o p : AObj) : upd (upd m n o) n p = upd m n p := by
  induction m with
  | nil => rfl
  | cons x r ih =>
    obtain ⟨k, y⟩ := x
    simp only [upd]
    by_cases h : k = n
    · simp [h, upd]
    · simp [h, upd, ih]
theorem upd_names (m : Mem) (n : Nat) (o : AObj) : (upd m n o).map (fun p => p.1) = m.map fun p => p.1 := by
  induction m with
  | nil => rfl
  | cons x r ih =>
    obtain ⟨k, y⟩ := x
    simp only [upd]
    by_cases h : k = n
    · simp [h]
    · simp [h, ih]
theorem look_name {m : Mem} {n : Nat} (h : n ∉ m.map fun p => p.1) : look m n = none := by
  cases e : look m n with
  | none => rfl
  | some o =>
    obtain ⟨p, hp, rfl⟩ := look_lt e
    exact absurd (List.mem_map_of_mem hp) h
theorem Rdm.upd {wr : Nat → Bool} {m : Mem} {nx : Nat} (r : Rdm wr m nx) (a : Nat) (o : AObj) : Rdm wr (Eng.upd m a o) nx :=
  ⟨by rw [upd_names]; exact r.nd, fun n hn => by
    obtain ⟨o', ho'⟩ := r.kp n hn
    by_cases h : a = n
    · subst h; exact ⟨o, look_upd_same o ho'⟩
    · exact ⟨o', by rw [look_upd_other o h]; exact ho'⟩, r.wn⟩
theorem look_mem {m : Mem} (h : (m.map fun p => p.1).Nodup) {p : Nat × AObj} (hp : p ∈ m) : look m p.1 = some p.2 := by
  induction m with
  | nil => cases hp
  | cons q r ih =>
    obtain ⟨k, x⟩ := q
    rw [List.map_cons, List.nodup_cons] at h
    rcases List.mem_cons.1 hp with rfl | hp
    · rw [look_cons, if_pos rfl]
    · have : k ≠ p.1 := fun e => h.1 (by show k ∈ _; rw [e]; exact List.mem_map_of_mem (f := fun p : Nat × AObj => p.1) hp)
      rw [look_cons, if_neg this]
      exact ih h.2 hp
theorem memSame_all {m0 : Mem} : ∀ {m : Mem}, (∀ p ∈ m, look m0 p.1 = some p.2) → memSame m0 m
  | [], _ => trivial
  | (n, o) :: r, h => ⟨h (n, o) (.head _), memSame_all fun p hp => h p (.tail _ hp)⟩
/-- a value, and this memory; names may have been used up -/
def Ku (V : AV) (M : Mem) (nx : Nat) : Kv := fun v m' nx' => v = V ∧ m' = M ∧ nx ≤ nx'
theorem Rdm.finU {wr : Nat → Bool} {M m2 : Mem} {nx nx2 : Nat} (r : Rdm wr M nx) (hx : nx ≤ nx2) (h : ∀ p ∈ M, look m2 p.1 = some p.2) (V : AV) : Fin nx wr m2 nx2 (Ku V M nx) V :=
  Fin.keepW (m0 := M) hx (memSame_all h) r.nd r.kp ⟨rfl, rfl, hx⟩
theorem upd_lt {m : Mem} {nx : Nat} (h : ∀ p ∈ m, p.1 < nx) (a : Nat) (o : AObj) : ∀ p ∈ upd m a o, p.1 < nx := fun p hp => by
  have : p.1 ∈ (upd m a o).map fun p => p.1 := List.mem_map_of_mem hp
  rw [upd_names] at this
  obtain ⟨q, hq, e⟩ := List.mem_map.1 this
  rw [← e]; exact h q hq
theorem Rdm.up {wr : Nat → Bool} {m : Mem} {nx nx' : Nat} (r : Rdm wr m nx) (h : nx ≤ nx') : Rdm wr m nx' := ⟨r.nd, r.kp, fun n hn => r.wn n (by omega)⟩
theorem upd_self : ∀ {m : Mem} {n : Nat} {o : AObj}, look m n = some o → upd m n o = m
  | [], n, o, h => by cases h
  | (k, x) :: r, n, o, h => by
    rw [look_cons] at h
    simp only [upd]
    by_cases e : k = n
    · rw [if_pos e] at h; cases h; rw [if_pos e]
    · rw [if_neg e] at h; rw [if_neg e, upd_self h]
theorem Rdm.cons {wr : Nat → Bool} {m : Mem} {nx : Nat} (r : Rdm wr m nx) (h : ∀ p ∈ m, p.1 < nx) (o : AObj) : Rdm wr ((nx, o) :: m) (nx + 1) :=
  ⟨by
    rw [List.map_cons, List.nodup_cons]
    refine ⟨fun hm => ?_, r.nd⟩
    obtain ⟨p, hp, e⟩ := List.mem_map.1 hm
    have := h p hp
    have e : p.1 = nx := e
    omega, fun n hn => by
    obtain ⟨o', ho'⟩ := r.kp n hn
    by_cases e : nx = n
    · exact ⟨o, by rw [look_cons, if_pos e]⟩
    · exact ⟨o', by rw [look_cons, if_neg e]; exact ho'⟩, fun n hn => r.wn n (by omega)⟩
theorem Rdm.drawn {wr : Nat → Bool} {m : Mem} {nx : Nat} (r : Rdm wr m nx) (mods : List Nat) : Rdm (wrD m nx mods) m nx := by
  refine ⟨r.nd, fun n hn => ?_, fun n hn => by simp [wrD, hn]⟩
  simp only [wrD, Bool.or_eq_false_iff] at hn
  cases h : look m n with
  | none => rw [h] at hn; cases hn.2
  | some o => exact ⟨o, rfl⟩
theorem cons_lt {m : Mem} {nx : Nat} (h : ∀ p ∈ m, p.1 < nx) (o : AObj) : ∀ p ∈ (nx, o) :: m, p.1 < nx + 1 := fun p hp => by
  rcases List.mem_cons.1 hp with rfl | hp
  · exact Nat.lt_succ_self _
  · have := h p hp; omega
theorem look_none {m : Mem} {nx : Nat} (h : ∀ p ∈ m, p.1 < nx) {k : Nat} (hk : nx ≤ k) : look m k = none := by
  cases e : look m k with
  | none => rfl
  | some o =>
    obtain ⟨p, hp, rfl⟩ := look_lt e
    have := h p hp
    omega
theorem appk_cells {wr : Nat → Bool} {m : Mem} {nx : Nat} {K : Kv} {X Y : List AV} {sp : List Value} {n len cap e s bt k : Nat} (hn : look m n = some (.cells (X ++ sp.map AV.val) e)) (hw : wr n = true)
    (hX : X.length = len * s) (hs : sp.length = (cap - len) * s) (hlc : len ≤ cap) (hc : cap ≤ maxI) (hm : (len + k) * bt ≤ 140737488355328) (hb : 0 < bt)
    (hK : ∀ (cap' : Nat) (sp' : List Value), len + k ≤ cap' → cap' ≤ maxI → sp'.length = (cap' - (len + k)) * s → K (.sl nx 0 (len + k) cap') ((nx, .cells (X ++ Y ++ sp'.map AV.val) e) :: del m n) (nx + 1)) :
    appk (.sl n 0 len cap) m nx wr e s bt (k, Y) K := by
  simp only [appk]
  refine .inl ⟨trivial, hw, ?_⟩
  rw [hn]
  have h1 : len + k ≤ (len + k) * bt := Nat.le_mul_of_pos_right _ hb
  refine ⟨rfl, ?_, hc, hm, by omega, fun cap' sp' h1 h2 h3 => ?_⟩
  · rw [List.length_append, List.length_map, hX, hs, ← Nat.add_mul, show len + (cap - len) = cap by omega]
  · have := hK cap' sp' h1 h2 h3
    rwa [List.take_append_of_le_length (by omega), List.take_of_length_le (by omega)]
theorem appk_cells0 {wr : Nat → Bool} {m : Mem} {nx : Nat} {K : Kv} {Y : List AV} {e s bt k : Nat} (hm : k * bt ≤ 140737488355328) (hb : 0 < bt) (hk : 0 < k)
    (hK : ∀ (cap' : Nat) (sp' : List Value), k ≤ cap' → cap' ≤ maxI → sp'.length = (cap' - k) * s → K (.sl nx 0 k cap') ((nx, .cells (Y ++ sp'.map AV.val) e) :: m) (nx + 1)) :
    appk .nils m nx wr e s bt (k, Y) K := by
  simp only [appk]
  have h1 : k ≤ k * bt := Nat.le_mul_of_pos_right _ hb
  exact ⟨hm, by omega, fun h => by omega, fun _ => hK⟩
theorem Rdm.consN {wr : Nat → Bool} {m : Mem} {N n : Nat} (r : Rdm wr m N) (h : ∀ p ∈ m, p.1 ≠ n) (o : AObj) : Rdm wr ((n, o) :: m) N :=
  ⟨by
    rw [List.map_cons, List.nodup_cons]
    refine ⟨fun hm => ?_, r.nd⟩
    obtain ⟨p, hp, e⟩ := List.mem_map.1 hm
    exact h p hp e, fun k hk => by
    obtain ⟨o', ho'⟩ := r.kp k hk
    by_cases e : n = k
    · exact ⟨o, by rw [look_cons, if_pos e]⟩
    · exact ⟨o', by rw [look_cons, if_neg e]; exact ho'⟩, r.wn⟩
theorem del_none : ∀ {m : Mem} {n : Nat}, (∀ p ∈ m, p.1 ≠ n) → del m n = m
  | [], _, _ => rfl
  | (k, o) :: r, n, h => by
    have hk : ¬ k = n := h (k, o) (.head _)
    simp only [del, if_neg hk, del_none fun p hp => h p (.tail _ hp)]
theorem Rdm.le0 {wr : Nat → Bool} {m : Mem} {nx : Nat} (r : Rdm wr m nx) {t t' : Slots} (hs : slotsSame t t') : ∃ l, Le 0 l wr t m nx t' m nx := Le.same (Nat.zero_le _) hs (memSame_slf r.nd) r.nd r.wn r.kp
end Go.Eng
