/-
  Plain laws of removing and setting fields. No program in sight.
-/
import Derived.Test.YtikllmfjgpmcnaaDoorLaw03C
namespace Go.Plain
set_option linter.unusedSimpArgs false
set_option linter.unusedVariables false

theorem fold_iff {a b : Str} : fold a b = true ↔ lower a = lower b := by
  unfold fold
  simp only [Bool.and_eq_true, decide_eq_true_eq]
  exact ⟨fun h => h.2, fun h => ⟨by have := congrArg List.length h; simpa using this, h⟩⟩
theorem fold_false {a b : Str} : fold a b = false ↔ lower a ≠ lower b := by
  rw [← Bool.not_eq_true, fold_iff]
theorem fold_self (a : Str) : fold a a = true := fold_iff.2 rfl
theorem drop_step {α : Type} {l : List α} {i : Nat} {dd : α} (h : i < l.length) : l.drop i = l.getD i dd :: l.drop (i + 1) := by
  rw [List.drop_eq_getElem_cons h, List.getD_eq_getElem?_getD, List.getElem?_eq_getElem h]; rfl

def removeF (l : List Fld) (name : Str) : List Fld := l.filter fun f => !fold f.1 name
theorem remove_filter (l : List Fld) (name : Str) : l.filter (fun f => !namedB (lower name) f) = removeF l name := by
  unfold removeF; congr 1; funext f; rw [named_fold]
theorem remove_hit {l : List Fld} {name : Str} {i : Nat} {dd : Fld} (h : i < l.length) (h2 : fold (l.getD i dd).1 name = false) : removeF (l.take (i + 1)) name = removeF (l.take i) name ++ [l.getD i dd] :=
  filter_hit (p := fun f : Fld => !fold f.1 name) h (by rw [h2]; rfl)
theorem remove_miss {l : List Fld} {name : Str} {i : Nat} {dd : Fld} (h : i < l.length) (h2 : fold (l.getD i dd).1 name = true) : removeF (l.take (i + 1)) name = removeF (l.take i) name :=
  filter_miss (p := fun f : Fld => !fold f.1 name) h (by rw [h2]; rfl)

def setGo (name value : Str) : Bool → List Fld → List Fld
  | d, [] => bif d then [] else [(name, value)]
  | d, f :: r => bif fold f.1 name then (bif d then setGo name value d r else (f.1, value) :: setGo name value true r) else f :: setGo name value d r
def setF (l : List Fld) (name value : Str) : List Fld := setGo name value false l

section
variable {l acc : List Fld} {name value : Str} {i : Nat} {d : Bool} {dd : Fld} {X : List Fld}
theorem setGo_miss (h : i < l.length) (h2 : fold (l.getD i dd).1 name = false) (e : acc ++ setGo name value d (l.drop i) = X) : (acc ++ [l.getD i dd]) ++ setGo name value d (l.drop (i + 1)) = X := by
  rw [drop_step (dd := dd) h, setGo, h2] at e; simpa using e
theorem setGo_new (h : i < l.length) (h2 : fold (l.getD i dd).1 name = true) (hd : d = false) (e : acc ++ setGo name value d (l.drop i) = X) : (acc ++ [((l.getD i dd).1, value)]) ++ setGo name value true (l.drop (i + 1)) = X := by
  rw [drop_step (dd := dd) h, setGo, h2, hd] at e; simpa using e
theorem setGo_old (h : i < l.length) (h2 : fold (l.getD i dd).1 name = true) (hd : d = true) (e : acc ++ setGo name value d (l.drop i) = X) : acc ++ setGo name value d (l.drop (i + 1)) = X := by
  rw [drop_step (dd := dd) h, setGo, h2, hd] at e; rw [hd]; simpa using e
theorem setGo_end (h : l.length ≤ i) (hd : d = true) (e : acc ++ setGo name value d (l.drop i) = X) : acc = X := by
  rw [List.drop_of_length_le h, setGo, hd] at e; simpa using e
theorem setGo_last (h : l.length ≤ i) (hd : d = false) (e : acc ++ setGo name value d (l.drop i) = X) : acc ++ [(name, value)] = X := by
  rw [List.drop_of_length_le h, setGo, hd] at e; simpa using e
end

theorem setGo_length (name value : Str) : ∀ (l : List Fld) (d : Bool), (setGo name value d l).length ≤ l.length + 1
  | [], d => by cases d <;> simp [setGo]
  | f :: r, d => by
    have h1 := setGo_length name value r d
    have h2 := setGo_length name value r true
    unfold setGo
    cases fold f.1 name <;> cases d <;> simp <;> omega
theorem setGo_mem (name value : Str) : ∀ (l : List Fld) (d : Bool), ∀ x ∈ setGo name value d l, x ∈ l ∨ (x.2 = value ∧ (x.1 = name ∨ ∃ f ∈ l, x.1 = f.1))
  | [], d => by cases d <;> simp [setGo]
  | f :: r, d => fun x hx => by
    have h1 := setGo_mem name value r
    have up : ∀ d, x ∈ setGo name value d r → x ∈ f :: r ∨ (x.2 = value ∧ (x.1 = name ∨ ∃ g ∈ f :: r, x.1 = g.1)) := fun d hd => by
      rcases h1 d x hd with h | ⟨h0, h | ⟨g, hg, e⟩⟩
      · exact .inl (List.mem_cons_of_mem _ h)
      · exact .inr ⟨h0, .inl h⟩
      · exact .inr ⟨h0, .inr ⟨g, List.mem_cons_of_mem _ hg, e⟩⟩
    unfold setGo at hx
    cases hf : fold f.1 name <;> rw [hf] at hx
    · simp only [cond_false] at hx
      rcases List.mem_cons.1 hx with rfl | hx
      · exact .inl List.mem_cons_self
      · exact up _ hx
    · cases d <;> simp only [cond_true, cond_false] at hx
      · rcases List.mem_cons.1 hx with rfl | hx
        · exact .inr ⟨rfl, .inr ⟨f, List.mem_cons_self, rfl⟩⟩
        · exact up _ hx
      · exact up _ hx
theorem setF_length (l : List Fld) (name value : Str) : (setF l name value).length ≤ l.length + 1 := setGo_length name value l false
theorem setF_mem {l : List Fld} {name value : Str} {n : Nat} (hl : ∀ x ∈ l, x.1.length ≤ n ∧ x.2.length ≤ n) (hn : name.length ≤ n) (hv : value.length ≤ n) : ∀ x ∈ setF l name value, x.1.length ≤ n ∧ x.2.length ≤ n := fun x hx => by
  rcases setGo_mem name value l false x hx with h | ⟨h0, h | ⟨g, hg, e⟩⟩
  · exact hl x h
  · rw [h, h0]; exact ⟨hn, hv⟩
  · rw [h0, e]; exact ⟨(hl g hg).1, hv⟩
theorem removeF_length (l : List Fld) (name : Str) : (removeF l name).length ≤ l.length := List.length_filter_le ..
theorem removeF_mem {l : List Fld} {name : Str} {p : Fld → Prop} (hl : ∀ x ∈ l, p x) : ∀ x ∈ removeF l name, p x := fun x hx => hl x (List.mem_filter.1 hx).1

theorem getF_cons (f : Fld) (l : List Fld) (name : Str) : getF (f :: l) name = bif fold f.1 name then f.2 :: getF l name else getF l name := by
  unfold getF; rw [List.filter_cons]; cases fold f.1 name <;> rfl
theorem get_setGo_true (name value : Str) : ∀ l : List Fld, getF (setGo name value true l) name = []
  | [] => rfl
  | f :: r => by
    unfold setGo
    cases h : fold f.1 name
    · simp only [cond_false, getF_cons, h, get_setGo_true name value r]
    · simp only [cond_true, get_setGo_true name value r]
theorem get_setGo (name value : Str) : ∀ l : List Fld, getF (setGo name value false l) name = [value]
  | [] => by simp only [setGo, cond_false, getF_cons, fold_self, cond_true]; rfl
  | f :: r => by
    unfold setGo
    cases h : fold f.1 name
    · simp only [cond_false, getF_cons, h, get_setGo name value r]
    · simp only [cond_true, cond_false, getF_cons, h, get_setGo_true name value r]
theorem get_set (l : List Fld) (name value : Str) : getF (setF l name value) name = [value] := get_setGo name value l
theorem get_setGo_other (name value other : Str) (hne : fold name other = false) : ∀ (l : List Fld) (d : Bool), getF (setGo name value d l) other = getF l other
  | [], d => by cases d <;> simp [setGo, getF_cons, hne]
  | f :: r, d => by
    unfold setGo
    cases h : fold f.1 name
    · simp only [cond_false, getF_cons, get_setGo_other name value other hne r]
    · have h2 : fold f.1 other = false := by rw [fold_false] at hne ⊢; rw [fold_iff] at h; rwa [h]
      cases d <;> simp only [cond_true, cond_false, getF_cons, h2, get_setGo_other name value other hne r]
theorem get_set_other {l : List Fld} {name value other : Str} (hne : fold name other = false) : getF (setF l name value) other = getF l other := get_setGo_other name value other hne l false
theorem get_remove (l : List Fld) (name : Str) : getF (removeF l name) name = [] := by
  unfold getF removeF
  rw [List.filter_filter]
  simp
theorem get_remove_other {name other : Str} (hne : fold name other = false) : ∀ (l : List Fld), getF (removeF l name) other = getF l other
  | [] => rfl
  | f :: r => by
    have ih := get_remove_other hne r
    unfold removeF at ih ⊢
    rw [List.filter_cons]
    cases h : fold f.1 name
    · simp only [Bool.not_false, if_true, getF_cons, ih]
    · have h2 : fold f.1 other = false := by rw [fold_false] at hne ⊢; rw [fold_iff] at h; rwa [h]
      simp only [Bool.not_true, Bool.false_eq_true, if_false, getF_cons, h2, cond_false, ih]
end Go.Plain
