/-
  A calculus of assertions for walks: what a function's memory holds is told by a list of assertions (own variables, own slices, and memory that nobody writes any more); each operation has one rule. No program in sight. No conditions.
-/
import Derived.WalkKit
import Derived.OrdersHeld
import Derived.Laws.AppendOwn
import Derived.Laws.IdiomCopy
import Derived.WalkSpells
namespace Go.Sep
open Go

/-! ### Data -/

inductive Ty where
  | bool | int (k : IntKind) | u8 | str | list (t : Ty) | pair (a b : Ty)

@[reducible] def Ty.den : Ty → Type
  | .bool => Bool
  | .int _ => Int
  | .u8 => UInt8
  | .str => List UInt8
  | .list t => List t.den
  | .pair a b => a.den × b.den

/-- The number of cells. -/
def Ty.n : Ty → Nat
  | .pair a b => a.n + b.n
  | _ => 1

def Ty.isPair : Ty → Bool
  | .pair _ _ => true
  | _ => false

theorem Ty.n_pos : ∀ t : Ty, 0 < t.n
  | .pair a _ => Nat.lt_of_lt_of_le a.n_pos (Nat.le_add_right _ _)
  | .bool | .int _ | .u8 | .str | .list _ => Nat.one_pos

def str (l : List UInt8) : Value := .string ⟨l.toArray⟩
def byte (c : UInt8) : Value := .int .u8 c.toNat

abbrev Blocks := Nat → Prop

/-- The cells 'cs' hold the datum x; memory behind them lies in blocks of I. -/
def repC (w : World) (I : Blocks) : (t : Ty) → List Value → t.den → Prop
  | .bool, cs, x => cs = [.bool x]
  | .int k, cs, x => cs = [.int k x]
  | .u8, cs, x => cs = [byte x]
  | .str, cs, x => cs = [str x]
  | .list t, cs, x => ∃ a len cap, cs = [.slice a len cap] ∧ len = x.length ∧ len ≤ cap ∧
      (x = [] ∨ ∃ b off C E fz, a = some ⟨b, off, none⟩ ∧ I b ∧ w.heap[b]? = some (.cells C E fz) ∧ off + len * t.n ≤ C.size ∧
        ∀ i (h : i < x.length), repC w I t ((C.toList.drop (off + i * t.n)).take t.n) x[i])
  | .pair s t, cs, x => ∃ c1 c2, cs = c1 ++ c2 ∧ repC w I s c1 x.1 ∧ repC w I t c2 x.2

/-- Cells as a value. -/
def toV (t : Ty) (cs : List Value) : Value := if t.isPair then .agg cs.toArray else cs.headD (.tuple #[])

def repV (w : World) (I : Blocks) (t : Ty) (v : Value) (x : t.den) : Prop := ∃ cs, v = toV t cs ∧ repC w I t cs x

theorem repC_len {w : World} {I : Blocks} : ∀ {t : Ty} {cs : List Value} {x : t.den}, repC w I t cs x → cs.length = t.n
  | .bool, _, _, h => by simp only [repC] at h; subst h; rfl
  | .int _, _, _, h => by simp only [repC] at h; subst h; rfl
  | .u8, _, _, h => by simp only [repC] at h; subst h; rfl
  | .str, _, _, h => by simp only [repC] at h; subst h; rfl
  | .list _, _, _, h => by simp only [repC] at h; obtain ⟨a, l, c, h, _⟩ := h; subst h; rfl
  | .pair _ _, _, _, h => by
    simp only [repC] at h
    obtain ⟨c1, c2, h, h1, h2⟩ := h
    subst h
    rw [List.length_append, repC_len h1, repC_len h2]; rfl

/-- No cell of a datum is an aggregate. -/
theorem repC_one {w : World} {I : Blocks} : ∀ {t : Ty} {cs : List Value} {x : t.den}, repC w I t cs x → ∀ v ∈ cs, v.oneCell' = true
  | .bool, _, _, h => by simp only [repC] at h; subst h; simp [Value.oneCell']
  | .int _, _, _, h => by simp only [repC] at h; subst h; simp [Value.oneCell']
  | .u8, _, _, h => by simp only [repC] at h; subst h; simp [Value.oneCell', byte]
  | .str, _, _, h => by simp only [repC] at h; subst h; simp [Value.oneCell', str]
  | .list _, _, _, h => by simp only [repC] at h; obtain ⟨a, l, c, h, _⟩ := h; subst h; simp [Value.oneCell']
  | .pair _ _, _, _, h => by
    simp only [repC] at h
    obtain ⟨c1, c2, h, h1, h2⟩ := h
    subst h
    intro v hv
    rcases List.mem_append.1 hv with hv | hv
    · exact repC_one h1 v hv
    · exact repC_one h2 v hv

theorem repC_mono {w w' : World} {I I' : Blocks} (hb : ∀ b, I b → w'.heap[b]? = w.heap[b]?) (hI : ∀ b, I b → I' b) :
    ∀ {t : Ty} {cs : List Value} {x : t.den}, repC w I t cs x → repC w' I' t cs x
  | .bool, _, _, h => by simpa only [repC] using h
  | .int _, _, _, h => by simpa only [repC] using h
  | .u8, _, _, h => by simpa only [repC] using h
  | .str, _, _, h => by simpa only [repC] using h
  | .list t, _, _, h => by
    simp only [repC] at h ⊢
    obtain ⟨a, l, c, h1, h2, h3, h4⟩ := h
    refine ⟨a, l, c, h1, h2, h3, ?_⟩
    rcases h4 with h4 | ⟨b, off, C, E, fz, h5, h6, h7, h8, h9⟩
    · exact .inl h4
    · exact .inr ⟨b, off, C, E, fz, h5, hI _ h6, (hb _ h6).trans h7, h8, fun i hi => repC_mono hb hI (h9 i hi)⟩
  | .pair _ _, _, _, h => by
    simp only [repC] at h ⊢
    obtain ⟨c1, c2, h, h1, h2⟩ := h
    exact ⟨c1, c2, h, repC_mono hb hI h1, repC_mono hb hI h2⟩

/-- Whatever the predicate, the same cells: a datum without slices. -/
theorem toV_cells {w : World} {I : Blocks} {t : Ty} {cs : List Value} {x : t.den} (h : repC w I t cs x) : (toV t cs).cells = cs.toArray := by
  have hl := repC_len h
  have h1 := repC_one h
  unfold toV
  cases ht : t.isPair with
  | true => rfl
  | false =>
    have : t.n = 1 := by cases t <;> simp_all [Ty.n, Ty.isPair]
    rw [this] at hl
    match cs, hl with
    | [v], _ =>
      have := h1 v (by simp)
      cases v <;> simp_all [Value.cells, Value.oneCell']

/-! ### Assertions -/

inductive Asn where
  /-- an own variable: block b holds just these cells -/
  | box (b : Nat) (T : TypeId) (cs : List Value)
  /-- an own slice, from the head of block g on -/
  | rowg (g cap : Nat) (E : TypeId) (t : Ty) (xs : List t.den)
  /-- an own slice of the bytes of a string, marked at its end -/
  | rowm (g cap : Nat) (E : TypeId) (t : Ty) (xs : List t.den)
  /-- an own slice, nil or not -/
  | row (v : Value) (E : TypeId) (t : Ty) (xs : List t.den)
  /-- a value that nobody writes any more -/
  | imm (t : Ty) (v : Value) (x : t.den)
  /-- a pointer to a datum that nobody writes any more -/
  | ptr (t : Ty) (p : Value) (x : t.den)
  /-- a variable that nobody writes any more -/
  | ibox (b : Nat) (T : TypeId) (cs : List Value)
  /-- a fact that lasts -/
  | fact (p : World → Blocks → Prop)
  /-- an own map -/
  | mp (r : Nat) (es : List MapEntry) (clk : Nat)

/-- A slice in the row of cells C of block g: element i in the cells from i * t.n on. -/
def rowIs (w : World) (I : Blocks) (mk : Bool) (g cap : Nat) (E : TypeId) (t : Ty) (xs : List t.den) : Prop :=
  ∃ C : Array Value, w.heap[g]? = some (.cells C E (bif mk then (C.size, C.size + 1) else (0, 0))) ∧ xs.length ≤ cap ∧ cap ≤ maxLen ∧ C.size = cap * t.n ∧
    ∀ i (h : i < xs.length), repC w I t ((C.toList.drop (i * t.n)).take t.n) xs[i]

def Asn.sat (w : World) (I : Blocks) : Asn → List Nat → Prop
  | .box b T cs, m => m = [b] ∧ w.heap[b]? = some (.cells cs.toArray T (0, 0))
  | .rowg g cap E t xs, m => m = [g] ∧ rowIs w I false g cap E t xs
  | .rowm g cap E t xs, m => m = [g] ∧ rowIs w I true g cap E t xs
  | .row v E t xs, m => (v = .slice none 0 0 ∧ xs = [] ∧ m = []) ∨ ∃ g cap, v = .slice (some ⟨g, 0, none⟩) xs.length cap ∧ m = [g] ∧ rowIs w I false g cap E t xs
  | .imm t v x, m => m = [] ∧ repV w I t v x
  | .ptr t p x, m => m = [] ∧ ∃ b off C E fz, p = .pointer (some ⟨b, off, none⟩) ∧ I b ∧ w.heap[b]? = some (.cells C E fz) ∧ off + t.n ≤ C.size ∧ repC w I t ((C.toList.drop off).take t.n) x
  | .ibox b T cs, m => m = [] ∧ I b ∧ w.heap[b]? = some (.cells cs.toArray T (0, 0))
  | .mp r es clk, m => m = [r] ∧ w.heap[r]? = some (.map es.toArray clk)
  | .fact p, m => m = [] ∧ ∀ w' I', w.heap.size ≤ w'.heap.size → (∀ b, I b → w'.heap[b]? = w.heap[b]?) → (∀ b, I b → I' b) → p w' I'

def Asn.pers : Asn → Bool
  | .imm .. | .ptr .. | .ibox .. | .fact .. => true
  | _ => false

theorem rowIs_mono {w w' : World} {I I' : Blocks} {mk : Bool} {g cap : Nat} {E : TypeId} {t : Ty} {xs : List t.den} (hg : w'.heap[g]? = w.heap[g]?)
    (hb : ∀ b, I b → w'.heap[b]? = w.heap[b]?) (hI : ∀ b, I b → I' b) (h : rowIs w I mk g cap E t xs) : rowIs w' I' mk g cap E t xs :=
  let ⟨C, h1, h2, h3, h4, h5⟩ := h
  ⟨C, hg.trans h1, h2, h3, h4, fun i hi => repC_mono hb hI (h5 i hi)⟩

theorem Asn.sat_mono {w w' : World} {I I' : Blocks} {A : Asn} {m : List Nat} (hs : w.heap.size ≤ w'.heap.size) (hb : ∀ b, I b ∨ b ∈ m → w'.heap[b]? = w.heap[b]?)
    (hI : ∀ b, I b → I' b) (h : A.sat w I m) : A.sat w' I' m := by
  have hb1 : ∀ b, I b → w'.heap[b]? = w.heap[b]? := fun b h => hb b (.inl h)
  cases A with
  | box b T cs => obtain ⟨rfl, h⟩ := h; exact ⟨rfl, (hb b (.inr (by simp))).trans h⟩
  | rowg g cap E t xs => obtain ⟨rfl, h⟩ := h; exact ⟨rfl, rowIs_mono (hb g (.inr (by simp))) hb1 hI h⟩
  | rowm g cap E t xs => obtain ⟨rfl, h⟩ := h; exact ⟨rfl, rowIs_mono (hb g (.inr (by simp))) hb1 hI h⟩
  | row v E t xs =>
    rcases h with h | ⟨g, cap, h1, rfl, h2⟩
    · exact .inl h
    · exact .inr ⟨g, cap, h1, rfl, rowIs_mono (hb g (.inr (by simp))) hb1 hI h2⟩
  | imm t v x => obtain ⟨rfl, cs, h1, h2⟩ := h; exact ⟨rfl, cs, h1, repC_mono hb1 hI h2⟩
  | ptr t p x =>
    obtain ⟨rfl, b, off, C, E, fz, h1, h2, h3, h4, h5⟩ := h
    exact ⟨rfl, b, off, C, E, fz, h1, hI _ h2, (hb1 _ h2).trans h3, h4, repC_mono hb1 hI h5⟩
  | ibox b T cs => obtain ⟨rfl, h1, h2⟩ := h; exact ⟨rfl, hI _ h1, (hb1 _ h1).trans h2⟩
  | mp r es clk => obtain ⟨rfl, h⟩ := h; exact ⟨rfl, (hb r (.inr (by simp))).trans h⟩
  | fact p =>
    obtain ⟨rfl, h⟩ := h
    exact ⟨rfl, fun w'' I'' h1 h2 h3 => h w'' I'' (Nat.le_trans hs h1) (fun b hb' => (h2 b (hI b hb')).trans (hb1 b hb')) (fun b hb' => h3 b (hI b hb'))⟩

theorem Asn.sat_pers {w : World} {I : Blocks} {A : Asn} {m : List Nat} (hp : A.pers = true) (h : A.sat w I m) : m = [] := by
  cases A <;> first | (simp [Asn.pers] at hp; done) | exact h.1

def Sats (w : World) (I : Blocks) : List Asn → List Nat → Prop
  | [], m => m = []
  | A :: As, m => ∃ m1 m2, m = m1 ++ m2 ∧ A.sat w I m1 ∧ Sats w I As m2

theorem Sats_mono {w w' : World} {I I' : Blocks} (hs : w.heap.size ≤ w'.heap.size) (hI : ∀ b, I b → I' b) : ∀ {As : List Asn} {m : List Nat}, (∀ b, I b ∨ b ∈ m → w'.heap[b]? = w.heap[b]?) → Sats w I As m → Sats w' I' As m
  | [], _, _, h => h
  | A :: As, m, hb, h => by
    obtain ⟨m1, m2, rfl, h1, h2⟩ := h
    exact ⟨m1, m2, rfl, Asn.sat_mono hs (fun b h => hb b (by rcases h with h | h <;> simp [h])) hI h1, Sats_mono hs hI (fun b h => hb b (by rcases h with h | h <;> simp [h])) h2⟩

theorem Sats_append {w : World} {I : Blocks} : ∀ {As Bs : List Asn} {m : List Nat}, Sats w I (As ++ Bs) m ↔ ∃ m1 m2, m = m1 ++ m2 ∧ Sats w I As m1 ∧ Sats w I Bs m2
  | [], Bs, m => ⟨fun h => ⟨[], m, rfl, rfl, h⟩, fun ⟨m1, m2, h, h1, h2⟩ => by simp only [Sats] at h1; subst h1; subst h; exact h2⟩
  | A :: As, Bs, m => by
    simp only [List.cons_append, Sats]
    constructor
    · rintro ⟨m1, m2, rfl, h1, h2⟩
      obtain ⟨m3, m4, rfl, h3, h4⟩ := Sats_append.1 h2
      exact ⟨m1 ++ m3, m4, by simp, ⟨m1, m3, rfl, h1, h3⟩, h4⟩
    · rintro ⟨m1, m2, rfl, ⟨m3, m4, rfl, h3, h4⟩, h2⟩
      exact ⟨m3, m4 ++ m2, by simp, h3, Sats_append.2 ⟨m4, m2, rfl, h4, h2⟩⟩

/-- From (w, I, own blocks m) to (w', I', m'). -/
structure Eff (w : World) (I : Blocks) (m : List Nat) (w' : World) (I' : Blocks) (m' : List Nat) : Prop where
  os : w'.os = w.os
  tape : w'.tape = w.tape
  output : w'.output = w.output
  size : w.heap.size ≤ w'.heap.size
  block : ∀ k, k < w.heap.size → k ∉ m → w'.heap[k]? = w.heap[k]?
  sub : ∀ b, I b → I' b
  new : ∀ b, I' b → I b ∨ b ∈ m ∨ w.heap.size ≤ b
  lt : ∀ b, I' b → b < w'.heap.size
  nodup : m'.Nodup
  apart : ∀ b ∈ m', ¬ I' b
  own : ∀ b ∈ m', (b ∈ m ∨ w.heap.size ≤ b) ∧ b < w'.heap.size

/-- A sound start. -/
structure Okw (w : World) (I : Blocks) (m : List Nat) : Prop where
  lt : ∀ b, I b → b < w.heap.size
  nodup : m.Nodup
  apart : ∀ b ∈ m, ¬ I b
  own : ∀ b ∈ m, b < w.heap.size

theorem Okw.eff {w : World} {I : Blocks} {m : List Nat} (h : Okw w I m) : Eff w I m w I m :=
  ⟨rfl, rfl, rfl, Nat.le_refl _, fun _ _ _ => rfl, fun _ h => h, fun _ h => .inl h, h.lt, h.nodup, h.apart, fun b hb => ⟨.inl hb, h.own b hb⟩⟩

theorem Eff.okw {w : World} {I : Blocks} {m : List Nat} {w' : World} {I' : Blocks} {m' : List Nat} (h : Eff w I m w' I' m') : Okw w' I' m' :=
  ⟨h.lt, h.nodup, h.apart, fun b hb => (h.own b hb).2⟩

theorem Eff.trans {w w' w'' : World} {I I' I'' : Blocks} {m m' m'' : List Nat} (h : Eff w I m w' I' m') (k : Eff w' I' m' w'' I'' m'') : Eff w I m w'' I'' m'' where
  os := k.os.trans h.os
  tape := k.tape.trans h.tape
  output := k.output.trans h.output
  size := Nat.le_trans h.size k.size
  block := fun b hb hm => by
    rw [k.block b (Nat.lt_of_lt_of_le hb h.size) (fun hm' => ?_), h.block b hb hm]
    rcases (h.own b hm').1 with h1 | h1
    · exact hm h1
    · omega
  sub := fun b hb => k.sub b (h.sub b hb)
  new := fun b hb => by
    rcases k.new b hb with h1 | h1 | h1
    · exact h.new b h1
    · exact .inr (h.own b h1).1
    · exact .inr (.inr (Nat.le_trans h.size h1))
  lt := k.lt
  nodup := k.nodup
  apart := k.apart
  own := fun b hb => by
    obtain ⟨h1, h2⟩ := k.own b hb
    refine ⟨?_, h2⟩
    rcases h1 with h1 | h1
    · exact (h.own b h1).1
    · exact .inr (Nat.le_trans h.size h1)

theorem Eff.perm {w w' : World} {I I' : Blocks} {m m' m'' : List Nat} (h : Eff w I m w' I' m') (hp : m'.Perm m'') : Eff w I m w' I' m'' :=
  { h with nodup := hp.nodup_iff.1 h.nodup, apart := fun b hb => h.apart b (hp.mem_iff.2 hb), own := fun b hb => h.own b (hp.mem_iff.2 hb) }

theorem Eff.drop {w w' : World} {I I' : Blocks} {m m' m'' : List Nat} (h : Eff w I m w' I' m') (hs : m''.Sublist m') : Eff w I m w' I' m'' :=
  { h with nodup := hs.nodup h.nodup, apart := fun b hb => h.apart b (hs.mem hb), own := fun b hb => h.own b (hs.mem hb) }

/-- Of the own blocks m1 some step makes m1'; m2 is untouched. -/
theorem Eff.frame {w w' : World} {I I' : Blocks} {m1 m2 m1' : List Nat} (ho : Okw w I (m1 ++ m2)) (h : Eff w I m1 w' I' m1') : Eff w I (m1 ++ m2) w' I' (m1' ++ m2) where
  os := h.os
  tape := h.tape
  output := h.output
  size := h.size
  block := fun b hb hm => h.block b hb (fun hm' => hm (by simp [hm']))
  sub := h.sub
  new := fun b hb => by rcases h.new b hb with h1 | h1 | h1 <;> simp [h1]
  lt := h.lt
  nodup := by
    have hn := List.nodup_append.1 ho.nodup
    refine List.nodup_append.2 ⟨h.nodup, hn.2.1, fun a ha b hb hab => ?_⟩
    subst hab
    rcases (h.own a ha).1 with h1 | h1
    · exact hn.2.2 a h1 a hb rfl
    · have := ho.own a (by simp [hb]); omega
  apart := fun b hb hI => by
    rcases List.mem_append.1 hb with hb | hb
    · exact h.apart b hb hI
    · rcases h.new b hI with h1 | h1 | h1
      · exact ho.apart b (by simp [hb]) h1
      · exact (List.nodup_append.1 ho.nodup).2.2 b h1 b hb rfl
      · have := ho.own b (by simp [hb]); omega
  own := fun b hb => by
    rcases List.mem_append.1 hb with hb | hb
    · obtain ⟨h1, h2⟩ := h.own b hb
      exact ⟨by rcases h1 with h1 | h1 <;> simp [h1], h2⟩
    · exact ⟨.inl (by simp [hb]), Nat.lt_of_lt_of_le (ho.own b (by simp [hb])) h.size⟩

/-- What is not touched holds on. -/
theorem Sats.frame {w w' : World} {I I' : Blocks} {m1 m2 m1' : List Nat} {As : List Asn} (ho : Okw w I (m1 ++ m2)) (h : Eff w I m1 w' I' m1') (hs : Sats w I As m2) : Sats w' I' As m2 :=
  Sats_mono h.size h.sub (fun b hb => by
    rcases hb with hb | hb
    · exact h.block b (ho.lt b hb) (fun hm => ho.apart b (by simp [hm]) hb)
    · exact h.block b (ho.own b (by simp [hb])) (fun hm => (List.nodup_append.1 ho.nodup).2.2 b hm b hb rfl)) hs

/-! ### Where a walk stands -/

structure Cx where
  P : Program
  n : Nat
  w0 : World
  I0 : Blocks
  m0 : List Nat

def lk : List (Nat × Value) → Nat → Option Value
  | [], _ => none
  | (k, v) :: r, t => bif Nat.beq k t then some v else lk r t

def Fits (n : Nat) (L : List (Nat × Value)) (a : Act) : Prop := a.tmps.size = n ∧ a.defers = [] ∧ ∀ t v, lk L t = some v → a.tmps[t]? = some v

def Mem (c : Cx) (As : List Asn) (w : World) : Prop := ∃ I m, Eff c.w0 c.I0 c.m0 w I m ∧ Sats w I As m

/-- In every state that fits, K. -/
def J (c : Cx) (L : List (Nat × Value)) (As : List Asn) (K : Act → World → Prop) : Prop := ∀ a w, Fits c.n L a → Mem c As w → K a w

theorem J.mono {c : Cx} {L : List (Nat × Value)} {As : List Asn} {K K' : Act → World → Prop} (h : J c L As K) (hk : ∀ a w, K a w → K' a w) : J c L As K' := fun a w hf hm => hk a w (h a w hf hm)

/-! #### Rearranging the assertions -/

theorem Mem.pull {c : Cx} {As Bs : List Asn} {A : Asn} {w : World} (h : Mem c (As ++ A :: Bs) w) : Mem c (A :: (As ++ Bs)) w := by
  obtain ⟨I, m, he, hs⟩ := h
  obtain ⟨m1, m2, rfl, h1, h2⟩ := Sats_append.1 hs
  obtain ⟨m3, m4, rfl, h3, h4⟩ := h2
  refine ⟨I, m3 ++ (m1 ++ m4), he.perm ?_, m3, m1 ++ m4, rfl, h3, Sats_append.2 ⟨m1, m4, rfl, h1, h4⟩⟩
  rw [← List.append_assoc, ← List.append_assoc]
  exact List.Perm.append_right m4 List.perm_append_comm

theorem Mem.drop1 {c : Cx} {As : List Asn} {A : Asn} {w : World} (h : Mem c (A :: As) w) : Mem c As w := by
  obtain ⟨I, m, he, m1, m2, rfl, h1, h2⟩ := h
  exact ⟨I, m2, he.drop (List.sublist_append_right _ _), h2⟩

theorem Mem.front {c : Cx} {As Bs : List Asn} {w : World} (h : Mem c (As ++ Bs) w) : Mem c As w := by
  obtain ⟨I, m, he, hs⟩ := h
  obtain ⟨m1, m2, rfl, h1, h2⟩ := Sats_append.1 hs
  exact ⟨I, m1, he.drop (List.sublist_append_left _ _), h1⟩

theorem Mem.dup1 {c : Cx} {As : List Asn} {A : Asn} {w : World} (hp : A.pers = true) (h : Mem c (A :: As) w) : Mem c (A :: A :: As) w := by
  obtain ⟨I, m, he, m1, m2, rfl, h1, h2⟩ := h
  have := Asn.sat_pers hp h1
  subst this
  exact ⟨I, _, he, [], m2, rfl, h1, [], m2, rfl, h1, h2⟩

theorem Mem.cons {c : Cx} {As Bs : List Asn} {A : Asn} {w : World} (h : Mem c (A :: As) w) (hk : ∀ w' m I, Eff c.w0 c.I0 c.m0 w' I m → Sats w' I As m → Sats w' I Bs m) : Mem c (A :: Bs) w := by
  obtain ⟨I, m, he, m1, m2, rfl, h1, h2⟩ := h
  exact ⟨I, m1 ++ m2, he, m1, m2, rfl, h1, hk w m2 I (he.drop (List.sublist_append_right _ _)) h2⟩

section rearrange
variable {c : Cx} {L : List (Nat × Value)} {K : Act → World → Prop} {A B C D E F G H R S T U : Asn} {As : List Asn}
theorem j_map {As Bs : List Asn} (hm : ∀ w, Mem c As w → Mem c Bs w) (h : J c L Bs K) : J c L As K := fun a w hf hw => h a w hf (hm w hw)
theorem j_drop (h : J c L As K) : J c L (A :: As) K := j_map (fun _ => Mem.drop1) h
theorem j_dup (hp : A.pers = true) (h : J c L (A :: A :: As) K) : J c L (A :: As) K := j_map (fun _ => Mem.dup1 hp) h
theorem j_pull1 (h : J c L (B :: A :: As) K) : J c L (A :: B :: As) K := j_map (fun _ h => Mem.pull (As := [A]) h) h
theorem j_pull2 (h : J c L (C :: A :: B :: As) K) : J c L (A :: B :: C :: As) K := j_map (fun _ h => Mem.pull (As := [A, B]) h) h
theorem j_pull3 (h : J c L (D :: A :: B :: C :: As) K) : J c L (A :: B :: C :: D :: As) K := j_map (fun _ h => Mem.pull (As := [A, B, C]) h) h
theorem j_pull4 (h : J c L (E :: A :: B :: C :: D :: As) K) : J c L (A :: B :: C :: D :: E :: As) K := j_map (fun _ h => Mem.pull (As := [A, B, C, D]) h) h
theorem j_pull5 (h : J c L (F :: A :: B :: C :: D :: E :: As) K) : J c L (A :: B :: C :: D :: E :: F :: As) K := j_map (fun _ h => Mem.pull (As := [A, B, C, D, E]) h) h
theorem j_pull6 (h : J c L (G :: A :: B :: C :: D :: E :: F :: As) K) : J c L (A :: B :: C :: D :: E :: F :: G :: As) K := j_map (fun _ h => Mem.pull (As := [A, B, C, D, E, F]) h) h
theorem j_pull7 (h : J c L (H :: A :: B :: C :: D :: E :: F :: G :: As) K) : J c L (A :: B :: C :: D :: E :: F :: G :: H :: As) K := j_map (fun _ h => Mem.pull (As := [A, B, C, D, E, F, G]) h) h
theorem j_pull8 (h : J c L (R :: A :: B :: C :: D :: E :: F :: G :: H :: As) K) : J c L (A :: B :: C :: D :: E :: F :: G :: H :: R :: As) K := j_map (fun _ h => Mem.pull (As := [A, B, C, D, E, F, G, H]) h) h
theorem j_pull9 (h : J c L (S :: A :: B :: C :: D :: E :: F :: G :: H :: R :: As) K) : J c L (A :: B :: C :: D :: E :: F :: G :: H :: R :: S :: As) K := j_map (fun _ h => Mem.pull (As := [A, B, C, D, E, F, G, H, R]) h) h
theorem j_pull10 (h : J c L (T :: A :: B :: C :: D :: E :: F :: G :: H :: R :: S :: As) K) : J c L (A :: B :: C :: D :: E :: F :: G :: H :: R :: S :: T :: As) K := j_map (fun _ h => Mem.pull (As := [A, B, C, D, E, F, G, H, R, S]) h) h
theorem j_pull11 (h : J c L (U :: A :: B :: C :: D :: E :: F :: G :: H :: R :: S :: T :: As) K) : J c L (A :: B :: C :: D :: E :: F :: G :: H :: R :: S :: T :: U :: As) K := j_map (fun _ h => Mem.pull (As := [A, B, C, D, E, F, G, H, R, S, T]) h) h
end rearrange

/-! #### The frame -/

theorem Fits.put {n : Nat} {L : List (Nat × Value)} {a : Act} (h : Fits n L a) {d : Nat} (hd : d < n) (v : Value) : Fits n ((d, v) :: L) (a.put (some d) v) := by
  obtain ⟨h1, h2, h3⟩ := h
  refine ⟨by simp [Act.put, h1], h2, fun t u hu => ?_⟩
  simp only [Act.put, lk] at hu ⊢
  by_cases hdt : d = t
  · subst hdt
    have hbt : Nat.beq d d = true := by simp
    rw [hbt] at hu
    simp only [cond_true, Option.some.injEq] at hu
    subst hu
    rw [Array.getElem?_setIfInBounds_self_of_lt (by omega)]
  · have hbt : Nat.beq d t = false := by rw [Bool.eq_false_iff]; intro h; exact hdt (Nat.eq_of_beq_eq_true h)
    rw [hbt] at hu
    rw [Array.getElem?_setIfInBounds_ne hdt]
    exact h3 t u hu

theorem Fits.none {n : Nat} {L : List (Nat × Value)} {a : Act} (h : Fits n L a) (v : Value) : Fits n L (a.put none v) := h

/-- What the list says of an operand. -/
def ev (L : List (Nat × Value)) : Operand → Option Value
  | .tmp t => lk L t
  | .const v => some v
  | .global g => some (.pointer (some ⟨g, 0, none⟩))
  | .func f => some (.func (.func f) #[] #[])

theorem Fits.ev {n : Nat} {L : List (Nat × Value)} {a : Act} (h : Fits n L a) {x : Operand} {v : Value} (hx : ev L x = some v) : a.eval x = v := by
  cases x with
  | tmp t =>
    have := h.2.2 t v hx
    simp [Act.eval, this]
  | const u => exact Option.some.inj hx
  | global g => exact Option.some.inj hx
  | func f => exact Option.some.inj hx

def SubL : List (Nat × Value) → List (Nat × Value) → Prop
  | [], _ => True
  | (t, v) :: r, L => lk L t = some v ∧ SubL r L

theorem SubL.lk {L : List (Nat × Value)} : ∀ {L' : List (Nat × Value)}, SubL L' L → ∀ t v, lk L' t = some v → lk L t = some v
  | [], _, t, v, h => by simp [Sep.lk] at h
  | (k, u) :: r, hs, t, v, h => by
    obtain ⟨h1, h2⟩ := hs
    simp only [Sep.lk] at h
    cases hb : Nat.beq k t with
    | true =>
      rw [hb] at h
      simp only [cond_true, Option.some.injEq] at h
      subst h
      rw [← Nat.eq_of_beq_eq_true hb]; exact h1
    | false => rw [hb] at h; exact SubL.lk h2 t v h

theorem Fits.sub {n : Nat} {L L' : List (Nat × Value)} {a : Act} (h : Fits n L a) (hs : SubL L' L) : Fits n L' a := ⟨h.1, h.2.1, fun t v hv => h.2.2 t v (hs.lk t v hv)⟩

theorem j_frame {c : Cx} {L : List (Nat × Value)} {As : List Asn} {K : Act → World → Prop} (L' : List (Nat × Value)) (hs : SubL L' L) (h : J c L' As K) : J c L As K :=
  fun a w hf hm => h a w (hf.sub hs) hm

end Go.Sep
