/-
  slices.Insert in the calculus: from the kit's four proved roads to one contract. Conditions: the roads, told as hypotheses.
-/
import Derived.Test.YtikllmfjgpmcnaaDoorSepN
import Derived.Shelf.Spec.SlicesInsertGrow
namespace Go.Sep
open Go
set_option linter.unusedSimpArgs false
set_option linter.unusedVariables false

def RoadRoom (P : Program) (f : FuncId) : Prop := ∀ (b off n c vb voff m vc : Nat) (vs : List Value) (w : World), 0 < m → n + m ≤ c → c ≤ 9223372036854775807 → vs.length = m → (∀ j, j < m → (w.cell? ⟨b, off + n + j, none⟩).isSome = true) → (∀ j, j < m → w.frozen? ⟨b, off + n + j, none⟩ = false) →
    (∀ j v, vs[j]? = some v → w.cell? ⟨vb, voff + j, none⟩ = some v) → (∀ v ∈ vs, v.oneCell' = true) →
    Calls P f #[.slice (some ⟨b, off, none⟩) n c, .int .i64 n, .slice (some ⟨vb, voff, none⟩) m vc] w fun e w' => e = .returned (.slice (some ⟨b, off, none⟩) (n + m) c) ∧ w' = w.setCells b (off + n) vs
def RoadEnd (P : Program) (f : FuncId) (E : TypeId) (Z : Array Value) : Prop := ∀ (base : Option Addr) (n c vb voff m vc : Nat) (cs vs : List Value) (w : World), 0 < m → n ≤ c → c < n + m → (n + m) * 16 ≤ 140737488355328 → cs.length = n → vs.length = m → (base = none → n = 0) →
    (∀ a, base = some a → ∀ j v, cs[j]? = some v → w.cell? (a.add j) = some v) → (∀ j v, vs[j]? = some v → w.cell? ⟨vb, voff + j, none⟩ = some v) → (∀ v ∈ vs, v.oneCell' = true) →
    Calls P f #[.slice base n c, .int .i64 n, .slice (some ⟨vb, voff, none⟩) m vc] w fun e w' => e = .returned (.slice (some ⟨w.heap.size, 0, none⟩) (n + m) (grownCap w (n + m) c E)) ∧ w' = w.drew.alloc (.cells ((cs ++ vs).toArray ++ Builtin.zeroCells Z (grownCap w (n + m) c E - (n + m))) E)
def RoadShift (P : Program) (f : FuncId) : Prop := ∀ (b off n c i vb voff m vc : Nat) (cs vs : List Value) (w : World), i < n → 0 < m → n + m ≤ c → c ≤ 9223372036854775807 → vb ≠ b → cs.length = n → vs.length = m → (∀ j v, cs[j]? = some v → w.cell? ⟨b, off + j, none⟩ = some v) → (∀ j, j < n + m → (w.cell? ⟨b, off + j, none⟩).isSome = true) →
    (∀ j, j < n + m → w.frozen? ⟨b, off + j, none⟩ = false) → (∀ j v, vs[j]? = some v → w.cell? ⟨vb, voff + j, none⟩ = some v) → (∀ v ∈ cs, v.oneCell' = true) → (∀ v ∈ vs, v.oneCell' = true) →
    ∀ (tA tB : TypeId) (kA kB : Nat), w.shape? vb = some (tA, kA) → w.shape? b = some (tB, kB) → kB ≠ 0 → w.frozen? ⟨vb, voff, none⟩ = false → w.frozen? ⟨vb, kA, none⟩ = false →
    Calls P f #[.slice (some ⟨b, off, none⟩) n c, .int .i64 i, .slice (some ⟨vb, voff, none⟩) m vc] w fun e w' => e = .returned (.slice (some ⟨b, off, none⟩) (n + m) c) ∧ w' = (w.drew.setCells b (off + (i + m)) (cs.drop i)).setCells b (off + i) vs
def RoadGrow (P : Program) (f : FuncId) (E : TypeId) (Z : Array Value) : Prop := ∀ (b off n c i vb voff m vc : Nat) (cs vs : List Value) (w : World), i < n → 0 < m → n ≤ c → c < n + m → (n + m) * 16 ≤ 140737488355328 → cs.length = n → vs.length = m → (∀ j v, cs[j]? = some v → w.cell? ⟨b, off + j, none⟩ = some v) →
    (∀ j v, vs[j]? = some v → w.cell? ⟨vb, voff + j, none⟩ = some v) → (∀ v ∈ cs, v.oneCell' = true) → (∀ v ∈ vs, v.oneCell' = true) →
    Calls P f #[.slice (some ⟨b, off, none⟩) n c, .int .i64 i, .slice (some ⟨vb, voff, none⟩) m vc] w fun e w' => e = .returned (.slice (some ⟨w.heap.size, 0, none⟩) (n + m) (grownCap w (n + m) c E)) ∧
      w' = (((w.alloc (.cells ((cs.take i).toArray ++ Builtin.zeroCells Z (n + m - i) ++ Builtin.zeroCells Z (grownCap w (n + m) c E - (n + m))) E)).drew.setCells w.heap.size i vs).drew).setCells w.heap.size (i + m) (cs.drop i)

theorem ins_get {α : Type} {xs : List α} {x : α} {i : Nat} (hi : i ≤ xs.length) (j : Nat) : (xs.take i ++ [x] ++ xs.drop i)[j]? = if j < i then xs[j]? else if j = i then some x else xs[j - 1]? := by
  have hl : (xs.take i).length = i := by rw [List.length_take]; omega
  by_cases h1 : j < i
  · rw [if_pos h1, List.append_assoc, List.getElem?_append_left (by omega), List.getElem?_take, if_pos h1]
  · rw [if_neg h1, List.append_assoc, List.getElem?_append_right (by omega), hl]
    by_cases h2 : j = i
    · subst h2; simp
    · rw [if_neg h2, List.getElem?_append_right (by simp; omega), List.getElem?_drop]
      congr 1
      simp only [List.length_singleton]; omega
theorem al_heap (w : World) (o : Obj) : (w.alloc o).heap = w.heap.push o := rfl
theorem al_size (w : World) (o : Obj) : w.heap.size ≤ (w.alloc o).heap.size := by rw [al_heap, Array.size_push]; exact Nat.le_succ _
theorem al_old {w : World} {o : Obj} {k : Nat} (hk : k < w.heap.size) : (w.alloc o).heap[k]? = w.heap[k]? := by rw [al_heap, Array.getElem?_push, if_neg (by omega)]
theorem al_new (w : World) (C : Array Value) (E : TypeId) : (w.alloc (.cells C E)).heap[w.heap.size]? = some (.cells C E (0, 0)) := by rw [al_heap, Array.getElem?_push, if_pos rfl]
theorem zero_size (Z : Array Value) (n : Nat) : (Builtin.zeroCells Z n).size = n * Z.size := by simp [Builtin.zeroCells]

theorem fin_ins {t : Ty} {E : TypeId} (cell : t.den → Value) (hn : t.n = 1) (hrep : ∀ (w : World) (I : Blocks) (cs : List Value) (x : t.den), repC w I t cs x ↔ cs = [cell x]) {w w' : World} {I : Blocks} {m : List Nat} (ho : Okw w I m) (h1 : w'.os = w.os) (h2 : w'.tape = w.tape) (h3 : w'.output = w.output) (h4 : w.heap.size ≤ w'.heap.size)
    (hblk : ∀ k, k < w.heap.size → k ∉ m → w'.heap[k]? = w.heap[k]?) {g cap : Nat} {ys : List t.den} {C : List Value} (hC : w'.heap[g]? = some (.cells C.toArray E (0, 0))) (hs : C.length = cap) (hcap : ys.length ≤ cap) (hmx : cap ≤ maxLen) (hcells : ∀ j, j < ys.length → C[j]? = (ys[j]?).map cell) (hg : g ∈ m ∨ w.heap.size ≤ g) :
    Ends w I m (fun r : Value => r) (fun r => [.row r E t ys]) (.returned (.slice (some ⟨g, 0, none⟩) ys.length cap)) w' := by
  have hI : ¬ I g := fun hI => by
    rcases hg with hg | hg
    · exact ho.apart g hg hI
    · have := ho.lt g hI; omega
  have hlt : g < w'.heap.size := by
    rcases Nat.lt_or_ge g w'.heap.size with h | h
    · exact h
    · rw [Array.getElem?_eq_none h] at hC; cases hC
  refine ⟨_, I, [g], rfl, ⟨h1, h2, h3, h4, hblk, fun _ h => h, fun _ h => .inl h, fun b hb => Nat.lt_of_lt_of_le (ho.lt b hb) h4, by simp, fun b hb => by obtain rfl := List.mem_singleton.1 hb; exact hI, fun b hb => by obtain rfl := List.mem_singleton.1 hb; exact ⟨hg, hlt⟩⟩, [g], [], rfl, .inr ⟨g, cap, rfl, rfl, C.toArray, hC, hcap, hmx, by simp [hs, hn], fun i hi => ?_⟩, rfl⟩
  rw [hrep, hn, Nat.mul_one, List.toList_toArray]
  have := hcells i hi
  rw [List.getElem?_eq_getElem hi, Option.map_some] at this
  rw [List.take_one, List.head?_drop, this]; rfl

theorem ins_con {P : Program} {f : FuncId} {E : TypeId} {t : Ty} (cell : t.den → Value) (Z : Array Value) (hZ : Z.size = 1) (hn : t.n = 1) (hrep : ∀ (w : World) (I : Blocks) (cs : List Value) (x : t.den), repC w I t cs x ↔ cs = [cell x]) (h1 : ∀ x, (cell x).oneCell' = true)
    (R1 : RoadRoom P f) (R2 : RoadEnd P f E Z) (R3 : RoadShift P f) (R4 : RoadGrow P f E Z) {v : Value} {xs : List t.den} {x : t.den} {i gx : Nat} (hi : i ≤ xs.length) (hl : xs.length ≤ 1000000) :
    Con P f #[v, .int .i64 (i : Nat), .slice (some ⟨gx, 0, none⟩) 1 1] [.row v E t xs, .rowg gx 1 E t [x]] (fun r : Value => r) (fun r => [.row r E t (xs.take i ++ [x] ++ xs.drop i)]) := fun w I m ho hs => by
  obtain ⟨m1, m2, rfl, hr, m3, m4, rfl, hx, rfl⟩ := hs
  obtain ⟨rfl, C2, x1, x2, x3, x4, x5⟩ := hx
  have hyl : (xs.take i ++ [x] ++ xs.drop i).length = xs.length + 1 := by simp only [List.length_append, List.length_take, List.length_drop, List.length_singleton]; omega
  have hx0 : C2.toList = [cell x] := by
    have h := x5 0 (by simp)
    rw [hrep, hn] at h
    have hl2 : C2.toList.length = 1 := by rw [Array.length_toList, x4, hn]
    simp only [Nat.zero_mul, List.drop_zero] at h
    rw [List.take_of_length_le (by omega)] at h
    exact h
  have hv : ∀ (j : Nat) (u : Value), [cell x][j]? = some u → w.cell? ⟨gx, 0 + j, none⟩ = some u := fun j u hj => by
    rw [Nat.zero_add, cell_of_heap x1, ← Array.getElem?_toList, hx0]; exact hj
  have h1v : ∀ u ∈ [cell x], u.oneCell' = true := fun u hu => by obtain rfl := List.mem_singleton.1 hu; exact h1 x
  have gcap : ∀ c, c < xs.length + 1 → xs.length + 1 ≤ grownCap w (xs.length + 1) c E ∧ grownCap w (xs.length + 1) c E ≤ maxLen := fun c hc => ⟨grownCap_ge w _ _ _, grownCap_le_maxLen w _ _ _ (by simp only [maxLen]; omega)⟩
  have hblkx : gx < w.heap.size := ho.own gx (by simp)
  rcases hr with ⟨rfl, rfl, rfl⟩ | ⟨g, cap, rfl, rfl, C, c1, c2, c3, c4, c5⟩
  · obtain rfl : i = 0 := by simpa using hi
    have hc := gcap 0 (by simp)
    simp only [List.length_nil, Nat.zero_add] at hc
    intro cs
    obtain ⟨e, w', fr, ⟨rfl, rfl⟩, hrest⟩ := R2 none 0 0 gx 0 1 1 [] [cell x] w (by omega) (by omega) (by omega) (by omega) rfl rfl (fun _ => rfl) (fun a h => by cases h) hv h1v cs
    refine ⟨_, _, fr, ?_, hrest⟩
    obtain ⟨ROW, hROW⟩ : ∃ ROW : List Value, ROW = [cell x] ++ (Builtin.zeroCells Z (grownCap w (0 + 1) 0 E - (0 + 1))).toList := ⟨_, rfl⟩
    have hR : (([] ++ [cell x] : List Value)).toArray ++ Builtin.zeroCells Z (grownCap w (0 + 1) 0 E - (0 + 1)) = ROW.toArray := by rw [hROW]; apply Array.ext'; simp
    have hRl : ROW.length = grownCap w (0 + 1) 0 E := by
      rw [hROW]; simp only [List.length_append, Array.length_toList, zero_size, hZ, List.length_singleton, Nat.zero_add]; omega
    rw [hR]
    have := fin_ins (E := E) cell hn hrep (w' := w.drew.alloc (.cells ROW.toArray E)) ho rfl rfl rfl (al_size w.drew _) (fun k hk _ => al_old (w := w.drew) hk) (ys := [x]) (al_new w.drew _ _) hRl (by simpa using hc.1) (by simpa using hc.2) (fun j hj => by
        obtain rfl : j = 0 := by simpa using hj
        rw [hROW]; simp) (.inr (Nat.le_refl _))
    simpa using this
  · have hcs : ∀ (j : Nat) (u : Value), (xs.map cell)[j]? = some u → C.toList[j]? = some u := fun j u hj => by
      have hj2 : j < xs.length := by
        rcases Nat.lt_or_ge j xs.length with h | h
        · exact h
        · rw [List.getElem?_eq_none (by simpa using h)] at hj; cases hj
      have h := c5 j hj2
      rw [hrep, hn, Nat.mul_one, List.take_one, List.head?_drop] at h
      rw [List.getElem?_map, List.getElem?_eq_getElem hj2, Option.map_some] at hj
      cases hq : C.toList[j]? with
      | none => rw [hq] at h; cases h
      | some q => rw [hq] at h; simp only [Option.toList_some, List.cons.injEq, and_true] at h; rw [h]; exact hj
    have hcs2 : ∀ j, j < xs.length → C.toList[j]? = (xs[j]?).map cell := fun j hj => by
      rw [List.getElem?_eq_getElem hj, Option.map_some]
      exact hcs j _ (by rw [List.getElem?_map, List.getElem?_eq_getElem hj, Option.map_some])
    have hCl : C.toList.length = cap := by rw [Array.length_toList, c4, hn, Nat.mul_one]
    have hCs : C.size = cap := by rw [c4, hn, Nat.mul_one]
    have hcell : ∀ (j : Nat) (u : Value), (xs.map cell)[j]? = some u → w.cell? ⟨g, 0 + j, none⟩ = some u := fun j u hj => by
      rw [Nat.zero_add, cell_of_heap c1, ← Array.getElem?_toList]; exact hcs j u hj
    have h1c : ∀ u ∈ xs.map cell, u.oneCell' = true := fun u hu => by obtain ⟨y, _, rfl⟩ := List.mem_map.1 hu; exact h1 y
    have hblk : g < w.heap.size := ho.own g (by simp)
    have hne : gx ≠ g := fun e => by have := ho.nodup; simp [e] at this
    have hsome : ∀ j, j < cap → (w.cell? ⟨g, j, none⟩).isSome = true := fun j hj => by
      rw [cell_of_heap c1, ← Array.getElem?_toList, List.getElem?_eq_getElem (by omega)]; rfl
    have hfz : ∀ j, w.frozen? ⟨g, j, none⟩ = false := fun j => by simp [World.frozen?, c1]
    have hfx : ∀ j, w.frozen? ⟨gx, j, none⟩ = false := fun j => by simp [World.frozen?, x1]
    have c1' : w.heap[g]? = some (.cells C.toList.toArray E (0, 0)) := by rw [c1]; simp
    have hcm : cap ≤ 9223372036854775807 := by simp only [maxLen] at c3; omega
    by_cases hroom : xs.length + 1 ≤ cap
    · by_cases he : i = xs.length
      · subst he
        intro cs
        obtain ⟨e, w', fr, ⟨rfl, rfl⟩, hrest⟩ := R1 g 0 xs.length cap gx 0 1 1 [cell x] w (by omega) hroom hcm rfl (fun j hj => hsome _ (by omega)) (fun j _ => hfz _) hv h1v cs
        refine ⟨_, _, fr, ?_, hrest⟩
        obtain ⟨i1, i2, i3, i4, i5, i6⟩ := heap_setCells g E (0, 0) [cell x] (0 + xs.length) w C.toList c1'
        have := fin_ins (E := E) cell hn hrep (ys := xs.take xs.length ++ [x] ++ xs.drop xs.length) ho i4 i5 i6 (by omega) (fun k hk hkm => i2 k (fun e => hkm (by simp [e]))) i1 (by rw [setL_length]; exact hCl) (by omega) c3 (fun j hj => by
          rw [hyl] at hj
          rw [ins_get (Nat.le_refl _)]
          by_cases hj2 : j < xs.length
          · rw [if_pos hj2, setL_out _ _ _ _ (.inl (by omega))]; exact hcs2 j hj2
          · obtain rfl : j = xs.length := by omega
            rw [if_neg hj2, if_pos rfl, setL_in _ _ _ _ (by simp; omega) (by omega) (by simp)]; simp) (.inl (by simp))
        rw [hyl] at this
        exact this
      · intro cs
        obtain ⟨e, w', fr, ⟨rfl, rfl⟩, hrest⟩ := R3 g 0 xs.length cap i gx 0 1 1 (xs.map cell) [cell x] w (by omega) (by omega) hroom hcm hne (by simp) rfl hcell (fun j hj => hsome _ (by omega)) (fun j _ => hfz _) hv h1c h1v E E 1 cap (by simp [World.shape?, x1, x4, hn]) (by simp [World.shape?, c1, c4, hn]) (by omega) (hfx _) (hfx _) cs
        refine ⟨_, _, fr, ?_, hrest⟩
        obtain ⟨i1, i2, i3, i4, i5, i6⟩ := heap_setCells g E (0, 0) ((xs.map cell).drop i) (0 + (i + 1)) w.drew C.toList c1'
        obtain ⟨j1, j2, j3, j4, j5, j6⟩ := heap_setCells g E (0, 0) [cell x] (0 + i) _ _ i1
        have := fin_ins (E := E) cell hn hrep (ys := xs.take i ++ [x] ++ xs.drop i) ho (j4.trans i4) (j5.trans i5) (j6.trans i6) (by rw [j3, i3]; exact Nat.le_refl _) (fun k hk hkm => (j2 k (fun e => hkm (by simp [e]))).trans (i2 k (fun e => hkm (by simp [e])))) j1 (by rw [setL_length, setL_length]; exact hCl) (by omega) c3 (fun j hj => by
          rw [hyl] at hj
          rw [ins_get hi]
          by_cases hj2 : j < i
          · rw [if_pos hj2, setL_out _ _ _ _ (.inl (by omega)), setL_out _ _ _ _ (.inl (by omega))]; exact hcs2 j (by omega)
          · rw [if_neg hj2]
            by_cases hj3 : j = i
            · subst hj3
              rw [if_pos rfl, setL_in _ _ _ _ (by rw [setL_length]; simp; omega) (by omega) (by simp)]; simp
            · rw [if_neg hj3, setL_out _ _ _ _ (.inr (by simp; omega)), setL_in _ _ _ _ (by simp; omega) (by omega) (by simp; omega), List.getElem?_drop, List.getElem?_map]
              congr 2; omega) (.inl (by simp))
        rw [hyl] at this
        exact this
    · have hcx : xs.length ≤ cap := c2
      have hc := gcap cap (by omega)
      by_cases he : i = xs.length
      · subst he
        intro cs
        obtain ⟨e, w', fr, ⟨rfl, rfl⟩, hrest⟩ := R2 (some ⟨g, 0, none⟩) xs.length cap gx 0 1 1 (xs.map cell) [cell x] w (by omega) c2 (by omega) (by omega) (by simp) rfl (fun h => by cases h) (fun a h j u hj => by cases h; rw [Addr.add_mk]; exact hcell j u hj) hv h1v cs
        refine ⟨_, _, fr, ?_, hrest⟩
        obtain ⟨G, hG⟩ : ∃ G, G = grownCap w (xs.length + 1) cap E := ⟨_, rfl⟩
        rw [← hG] at hc ⊢
        obtain ⟨ROW, hROW⟩ : ∃ ROW : List Value, ROW = (xs.map cell ++ [cell x]) ++ (Builtin.zeroCells Z (G - (xs.length + 1))).toList := ⟨_, rfl⟩
        have hR : (xs.map cell ++ [cell x]).toArray ++ Builtin.zeroCells Z (G - (xs.length + 1)) = ROW.toArray := by rw [hROW]; apply Array.ext'; simp
        have hRl : ROW.length = G := by
          rw [hROW]; simp only [List.length_append, List.length_map, List.length_singleton, Array.length_toList, zero_size, hZ]; omega
        rw [hR]
        have := fin_ins (E := E) cell hn hrep (w' := w.drew.alloc (.cells ROW.toArray E)) ho rfl rfl rfl (al_size w.drew _) (fun k hk _ => al_old (w := w.drew) hk) (ys := xs.take xs.length ++ [x] ++ xs.drop xs.length) (al_new w.drew _ _) hRl (by omega) hc.2 (fun j hj => by
            rw [hyl] at hj
            rw [hROW, List.getElem?_append_left (by simp; omega), List.take_length, List.drop_length, List.append_nil, ← List.getElem?_map, List.map_append]; rfl) (.inr (Nat.le_refl _))
        rw [hyl] at this
        exact this
      · intro cs
        obtain ⟨e, w', fr, ⟨rfl, rfl⟩, hrest⟩ := R4 g 0 xs.length cap i gx 0 1 1 (xs.map cell) [cell x] w (by omega) (by omega) c2 (by omega) (by omega) (by simp) rfl hcell hv h1c h1v cs
        refine ⟨_, _, fr, ?_, hrest⟩
        obtain ⟨G, hG⟩ : ∃ G, G = grownCap w (xs.length + 1) cap E := ⟨_, rfl⟩
        rw [← hG] at hc ⊢
        obtain ⟨ROW, hROW⟩ : ∃ ROW : List Value, ROW = (xs.map cell).take i ++ (Builtin.zeroCells Z (xs.length + 1 - i)).toList ++ (Builtin.zeroCells Z (G - (xs.length + 1))).toList := ⟨_, rfl⟩
        have hRl : ROW.length = G := by
          rw [hROW]; simp only [List.length_append, List.length_take, List.length_map, Array.length_toList, zero_size, hZ]; omega
        have hR : ((xs.map cell).take i).toArray ++ Builtin.zeroCells Z (xs.length + 1 - i) ++ Builtin.zeroCells Z (G - (xs.length + 1)) = ROW.toArray := by rw [hROW]; apply Array.ext'; simp
        rw [hR]
        have hh : ((w.alloc (.cells ROW.toArray E)).drew).heap[w.heap.size]? = some (.cells ROW.toArray E (0, 0)) := al_new w _ _
        obtain ⟨i1, i2, i3, i4, i5, i6⟩ := heap_setCells w.heap.size E (0, 0) [cell x] i ((w.alloc (.cells ROW.toArray E)).drew) ROW hh
        obtain ⟨j1, j2, j3, j4, j5, j6⟩ := heap_setCells w.heap.size E (0, 0) ((xs.map cell).drop i) (i + 1) (((w.alloc (.cells ROW.toArray E)).drew.setCells w.heap.size i [cell x]).drew) _ i1
        have := fin_ins (E := E) cell hn hrep (ys := xs.take i ++ [x] ++ xs.drop i) ho (j4.trans i4) (j5.trans i5) (j6.trans i6) (by rw [j3]; show w.heap.size ≤ ((w.alloc (.cells ROW.toArray E)).drew.setCells w.heap.size i [cell x]).heap.size; rw [i3]; exact al_size w _)
          (fun k hk hkm => by
            rw [j2 k (by omega)]
            show ((w.alloc (.cells ROW.toArray E)).drew.setCells w.heap.size i [cell x]).heap[k]? = _
            rw [i2 k (by omega)]
            exact al_old hk) j1 (by rw [setL_length, setL_length]; exact hRl) (by omega) hc.2 (fun j hj => by
          rw [hyl] at hj
          rw [ins_get hi]
          by_cases hj2 : j < i
          · rw [if_pos hj2, setL_out _ _ _ _ (.inl (by omega)), setL_out _ _ _ _ (.inl (by omega)), hROW, List.append_assoc, List.getElem?_append_left (by simp; omega), List.getElem?_take, if_pos hj2, List.getElem?_map]
          · rw [if_neg hj2]
            by_cases hj3 : j = i
            · subst hj3
              rw [if_pos rfl, setL_out _ _ _ _ (.inl (by omega)), setL_in _ _ _ _ (by simp; omega) (by omega) (by simp)]; simp
            · rw [if_neg hj3, setL_in _ _ _ _ (by rw [setL_length]; simp; omega) (by omega) (by simp; omega), List.getElem?_drop, List.getElem?_map]
              congr 2; omega) (.inr (Nat.le_refl _))
        rw [hyl] at this
        exact this
end Go.Sep
