/-
  From a row's reading of an argument to the calculus' data. No program in sight. No conditions.
-/
import Derived.Test.YtikllmfjgpmcnaaDoorSepM
import Derived.ProofKit
import Derived.OpenShut
import Derived.Deep.Slices
import Derived.ChangeSame
namespace Go.Sep
open Go Go.Deep
set_option linter.unusedSimpArgs false

/-- The blocks of a world. -/
def Old (W : World) : Blocks := fun b => b < W.heap.size

/-- No slice within is longer than a slice can be. -/
def FinL : (t : Ty) → t.den → Prop
  | .list t, xs => xs.length ≤ maxLen ∧ ∀ x ∈ xs, FinL t x
  | .pair a b, x => FinL a x.1 ∧ FinL b x.2
  | .bool, _ => True
  | .int _, _ => True
  | .u8, _ => True
  | .str, _ => True

/-- Cells of type T that read as any datum hold a datum of t. -/
def Opens (P : Program) (t : Ty) (T : TypeId) : Prop :=
  ∀ {H : Type} {enc : TypeId × Value → H} {W : World} {fuel : Nat} {cs : List Value} {x : DataW H × List MemPlace}, DataW.trod enc P W 0 (fun _ => true) true fuel T cs = some x → ∃ y : t.den, repC W (Old W) t cs y ∧ FinL t y

theorem opens_str {P : Program} {T : TypeId} (h : P.underlying T = some .string) : Opens P .str T := fun hd => by
  obtain ⟨s, rfl, _⟩ := DataW.trod_string h hd
  exact ⟨s.data.toList, (by simp only [repC]; rw [str_data]), trivial⟩
theorem opens_bool {P : Program} {T : TypeId} (h : P.underlying T = some .bool) : Opens P .bool T := fun hd => by
  obtain ⟨s, rfl, _⟩ := DataW.trod_bool h hd
  exact ⟨s, rfl, trivial⟩
theorem opens_int {P : Program} {T : TypeId} {k : IntKind} (h : P.underlying T = some (.int k)) : Opens P (.int k) T := fun hd => by
  obtain ⟨s, rfl, _⟩ := DataW.trod_int h hd
  exact ⟨s, rfl, trivial⟩

theorem opens_list {P : Program} {T E : TypeId} {t : Ty} (h : P.underlying T = some (.slice E)) (hn : P.cellsOf E = t.n) (he : Opens P t E) : Opens P (.list t) T := fun {H enc W fuel cs x} hd => by
  rcases open_slice h hd with ⟨rfl, _⟩ | ⟨a, len, cap, m, n, D, Pl, rfl, hb, hl, hm, hmm, rfl, hx⟩
  · exact ⟨[], ⟨none, 0, 0, rfl, rfl, Nat.le_refl _, .inl rfl⟩, by simp [FinL]⟩
  have hm' : m = cap := by simpa using hmm
  subst hm'
  have key : ∀ i, i < m → ∃ cs', W.cells? 0 (a.add (i * t.n)) t.n = some cs' ∧ ∃ y : t.den, repC W (Old W) t cs' y ∧ FinL t y := fun i hi => by
    obtain ⟨cs', h1, h2⟩ := hx i hi
    rw [hn] at h1
    exact ⟨cs', h1, he h2⟩
  rcases Nat.eq_zero_or_pos m with h0 | h0
  · subst h0
    obtain rfl : len = 0 := by omega
    exact ⟨[], ⟨some a, 0, 0, rfl, rfl, Nat.le_refl _, .inl rfl⟩, by simp [FinL]⟩
  have hpos := t.n_pos
  -- the block
  have hcell : ∀ i, i < m → ∀ j, j < t.n → ∃ u, W.cell? (a.add (i * t.n + j)) = some u := fun i hi j hj => by
    obtain ⟨cs', h1, _⟩ := key i hi
    obtain ⟨_, h2, h3⟩ := World.cells?_some h1
    have := h3 j hj
    rw [Deep.add_add] at this
    rw [this, List.getElem?_eq_getElem (by omega)]
    exact ⟨_, rfl⟩
  obtain ⟨u0, hu0⟩ := hcell 0 h0 0 hpos
  have hspot : a.spot = none := by
    unfold Addr.add at hu0
    simp only [Nat.zero_mul, Nat.zero_add] at hu0
    unfold World.cell? at hu0
    simp only [if_true] at hu0
    split at hu0
    · split at hu0
      · cases hu0
      · rename_i h; simpa using h
    · cases hu0
  obtain ⟨b, off, sp⟩ := a
  simp only at hspot
  subst hspot
  simp only [Addr.add_mk] at hcell key hu0
  obtain ⟨C, E', fz, hC⟩ : ∃ C E' fz, W.heap[b]? = some (.cells C E' fz) := by
    unfold World.cell? at hu0
    split at hu0
    · rename_i c e f hc; exact ⟨c, e, f, hc⟩
    · cases hu0
  have hlt : b < W.heap.size := by
    rcases Nat.lt_or_ge b W.heap.size with h | h
    · exact h
    · rw [Array.getElem?_eq_none h] at hC; cases hC
  have hfit : off + m * t.n ≤ C.size := by
    obtain ⟨u, hu⟩ := hcell (m - 1) (by omega) (t.n - 1) (by omega)
    rw [cell_of_heap hC] at hu
    have : off + ((m - 1) * t.n + (t.n - 1)) < C.size := by
      rcases Nat.lt_or_ge (off + ((m - 1) * t.n + (t.n - 1))) C.size with h | h
      · exact h
      · rw [Array.getElem?_eq_none h] at hu; cases hu
    have e : m * t.n = (m - 1) * t.n + t.n := by conv => lhs; rw [show m = m - 1 + 1 from by omega, Nat.add_mul, Nat.one_mul]
    omega
  have hcells : ∀ i, i < m → ∃ y : t.den, repC W (Old W) t ((C.toList.drop (off + i * t.n)).take t.n) y ∧ FinL t y := fun i hi => by
    obtain ⟨cs', h1, y, h2⟩ := key i hi
    obtain ⟨_, h3, h4⟩ := World.cells?_some h1
    have hle : i * t.n + t.n ≤ m * t.n := mul_lt_of hi (Nat.le_refl _)
    have : (C.toList.drop (off + i * t.n)).take t.n = cs' := by
      apply List.ext_getElem?
      intro j
      rw [List.getElem?_take]
      by_cases hj : j < t.n
      · rw [if_pos hj, List.getElem?_drop, ← h4 j hj, Addr.add_mk, cell_of_heap hC, Array.getElem?_toList, Nat.add_assoc]
      · rw [if_neg hj, List.getElem?_eq_none (by omega)]
    rw [this]; exact ⟨y, h2⟩
  let F : Nat → t.den := fun i => if hi : i < m then (hcells i hi).choose else (hcells 0 h0).choose
  have hF : ∀ i (him : i < m), F i = (hcells i him).choose := fun i him => by show (if hi : i < m then _ else _) = _; rw [dif_pos him]
  refine ⟨(List.range len).map F, ⟨some ⟨b, off, none⟩, len, m, rfl, by simp, hl, .inr ⟨b, off, C, E', fz, rfl, hlt, hC, ?_, fun i hi => ?_⟩⟩, ⟨by simp; omega, fun x hx => ?_⟩⟩
  · have := Nat.mul_le_mul_right t.n hl
    omega
  · simp only [List.length_map, List.length_range] at hi
    have him : i < m := by omega
    simp only [List.getElem_map, List.getElem_range]
    show repC W (Old W) t _ (F i)
    rw [hF i him]
    exact (hcells i him).choose_spec.1
  · obtain ⟨i, hi, rfl⟩ := List.mem_map.1 hx
    have him : i < m := by have := List.mem_range.1 hi; omega
    rw [hF i him]
    exact (hcells i him).choose_spec.2

/-- The fields from one on. -/
def OpensF (P : Program) (fs : List Field) (o : Nat) (t : Ty) : Prop :=
  ∀ {H : Type} {enc : TypeId × Value → H} {W : World} {fuel : Nat} {cs : List Value},
    (∀ (k : Nat) (f : Field), fs[k]? = some f → ∃ y, DataW.trod enc P W 0 (fun _ => true) true fuel f.type ((cs.drop f.offset).take (P.cellsOf f.type)) = some y) → cs.length = o + t.n → ∃ y : t.den, repC W (Old W) t (cs.drop o) y ∧ FinL t y
theorem opensF_one {P : Program} {f : Field} {o : Nat} {t : Ty} (ho : f.offset = o) (hn : P.cellsOf f.type = t.n) (h : Opens P t f.type) : OpensF P [f] o t := fun {H enc W fuel cs} hd hl => by
  obtain ⟨x, hx⟩ := hd 0 f rfl
  rw [ho, hn, List.take_of_length_le (by simp; omega)] at hx
  exact h hx
theorem opensF_cons {P : Program} {f : Field} {fs : List Field} {o o' : Nat} {a b : Ty} (ho : f.offset = o) (hn : P.cellsOf f.type = a.n) (h : Opens P a f.type) (ho' : o + a.n = o') (hr : OpensF P fs o' b) : OpensF P (f :: fs) o (.pair a b) := fun {H enc W fuel cs} hd hl => by
  obtain ⟨x, hx⟩ := hd 0 f rfl
  rw [ho, hn] at hx
  obtain ⟨y1, h1, f1⟩ := h hx
  obtain ⟨y2, h2, f2⟩ := hr (fun k g hk => hd (k + 1) g (by simpa using hk)) (by rw [hl]; simp [Ty.n]; omega)
  exact ⟨(y1, y2), ⟨_, _, (by rw [← ho', ← List.drop_drop, List.take_append_drop]), h1, h2⟩, f1, f2⟩
theorem opens_struct {P : Program} {T : TypeId} {fs : Array Field} {t : Ty} (h : P.underlying T = some (.struct fs)) (hn : P.cellsOf T = t.n) (hf : OpensF P fs.toList 0 t) : Opens P t T := fun {H enc W fuel cs x} hd => by
  obtain ⟨xs, n, _, rfl, hl, hlen, hk⟩ := DataW.trod_struct h hd
  obtain ⟨y, hy, fy⟩ := hf (cs := cs) (enc := enc) (fuel := n) (fun k f hkf => by
    have hlt : k < xs.length := by
      rw [hlen]
      rcases Nat.lt_or_ge k fs.toList.length with h | h
      · simpa using h
      · rw [List.getElem?_eq_none h] at hkf; cases hkf
    have := hk k f (by simpa using hkf)
    rw [this, List.getElem?_eq_getElem hlt]
    exact ⟨_, rfl⟩) (by rw [hl, hn, Nat.zero_add])
  exact ⟨y, by simpa using hy, fy⟩

/-- An argument. -/
theorem open_agg {P : Program} {T : TypeId} {t : Ty} (ho : Opens P t T) (hp : t.isPair = true) {fs : Array Field} (h : P.underlying T = some (.struct fs)) {H : Type} {enc : TypeId × Value → H} {W : World} {r : Reach} {b0 : Nat} {v : Value} {d : DataW H} {ps : List MemPlace}
    (hval : Value.okWide P W r b0 T v) (hd : DataW.Trod enc P W 0 (fun _ => true) true T v d ps) : ∃ y : t.den, repV W (Old W) t v y ∧ FinL t y := by
  obtain ⟨fuel, hf⟩ := hd
  obtain ⟨y, hy, fy⟩ := ho hf
  unfold Value.okWide at hval
  rw [h] at hval
  obtain ⟨cs, rfl, _⟩ := hval
  exact ⟨y, ⟨_, by simp [toV, hp, Value.cells], hy⟩, fy⟩
theorem open_list {P : Program} {T E : TypeId} {t : Ty} (ho : Opens P (.list t) T) (h : P.underlying T = some (.slice E)) {H : Type} {enc : TypeId × Value → H} {W : World} {r : Reach} {b0 : Nat} {v : Value} {d : DataW H} {ps : List MemPlace}
    (hval : Value.okWide P W r b0 T v) (hd : DataW.Trod enc P W 0 (fun _ => true) true T v d ps) : ∃ y : List t.den, repV W (Old W) (.list t) v y ∧ y.length ≤ maxLen ∧ FinL (.list t) y := by
  obtain ⟨fuel, hf⟩ := hd
  obtain ⟨y, hy, fy⟩ := ho hf
  have : v.cells = #[v] := by
    cases v <;> first | rfl | (unfold Value.okWide at hval; rw [h] at hval; simp [Cell.okWide, Cell.ok, h] at hval)
  rw [this] at hy
  exact ⟨y, ⟨_, by simp [toV, Ty.isPair], hy⟩, fy.1, fy⟩
end Go.Sep
