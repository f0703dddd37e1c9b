/- Small facts about what is laid in cells. Conditions: none, this text proves no statement. -/
import Derived.Test.YtkflpgknieoknaaK2
import Derived.Test.YtkflpgknieoknaaSLn
namespace Go.SLYtkflpgknieoknaa
open Go Go.RowKit

theorem intE_one (l : List Int) : ∀ y ∈ l, ∀ c ∈ intE y, c.oneCell' = true := fun y _ c hc => by simp only [intE, List.mem_cons, List.not_mem_nil, or_false] at hc; subst hc; rfl
theorem wrdE_one (l : List Int) : ∀ y ∈ l, ∀ c ∈ wrdE y, c.oneCell' = true := fun y _ c hc => by simp only [wrdE, List.mem_cons, List.not_mem_nil, or_false] at hc; subst hc; rfl
theorem all_one {α : Type} {enc : α → List Value} (h : ∀ x, (enc x).all (·.oneCell') = true) (l : List α) : ∀ y ∈ l, ∀ c ∈ enc y, c.oneCell' = true := fun y _ c hc => List.all_eq_true.1 (h y) c hc
theorem evE_one (l : List Ev) : ∀ y ∈ l, ∀ c ∈ evE y, c.oneCell' = true := all_one (fun _ => rfl) l
theorem recE_one (l : List Rec) : ∀ y ∈ l, ∀ c ∈ recE y, c.oneCell' = true := all_one (fun _ => rfl) l
theorem insE_one (l : List Ins) : ∀ y ∈ l, ∀ c ∈ insE y, c.oneCell' = true := all_one (fun _ => rfl) l
theorem rqsE_one (l : List Rqs) : ∀ y ∈ l, ∀ c ∈ rqsE y, c.oneCell' = true := all_one (fun _ => rfl) l
theorem wtrE_one (l : List Wtr) : ∀ y ∈ l, ∀ c ∈ wtrE y, c.oneCell' = true := all_one (fun _ => rfl) l
theorem putE_one (l : List Ptr) : ∀ y ∈ l, ∀ c ∈ putE y, c.oneCell' = true := all_one (fun _ => rfl) l
/-- A slice's value is one cell. -/
def isSl : Value → Bool
  | .slice .. => true
  | _ => false
theorem isSl_one {v : Value} (h : isSl v = true) : v.oneCell' = true := by cases v <;> simp_all [isSl, Value.oneCell']

section
variable {P : Program} {W : World} {H : List HProp} {α : Type}
theorem Rd.nilS' {enc : α → List Value} {k : Nat} {v : Value} {xs : List α} (h : Rd W H enc k v xs) (hn : isNilS v = true) : ∀ w, Sat W w (seps H) → xs = [] := fun w s => by
  obtain ⟨⟨a, cap, hv, _, _, hnn⟩, _⟩ := h w s
  subst hv
  cases a with
  | none => exact hnn rfl
  | some p => cases hn
theorem Sat.addEmp {w : World} {A : HProp} (s : Sat W w A) : Sat W w (sep emp A) := by rw [emp_sep]; exact s
theorem sl_clip {enc : α → List Value} {k : Nat} {a : Option Addr} {n cap : Nat} {xs : List α} : ∀ h, sl enc k (.slice a n cap) xs h → ∃ J : HProp, True ∧ seps [sl enc k (.slice a n n) xs, J] h := by
  rintro h (⟨⟨a', e⟩, hx, he⟩ | ⟨b, cap', sp, e, hle, hk, hsp, a1⟩)
  · cases e
    exact ⟨emp, trivial, by simp only [seps, sep_emp]; exact .inl ⟨⟨_, rfl⟩, hx, he⟩⟩
  · cases e
    rw [arr_append] at a1
    refine ⟨arr b (0 + (rows enc xs).length) sp, trivial, ?_⟩
    · simp only [seps, sep_emp]
      exact sep_mono (fun h a => .inr ⟨b, xs.length, [], rfl, Nat.le_refl _, hk, by simp, by rw [List.append_nil]; exact a⟩) (fun _ h => h) h a1
theorem drop_cons {xs : List α} {k : Nat} {x : α} (h : xs[k]? = some x) : xs.drop k = x :: xs.drop (k + 1) := by
  have hi := (List.getElem?_eq_some_iff.1 h).1
  rw [List.drop_eq_getElem_cons hi, (List.getElem?_eq_some_iff.1 h).2]
theorem take_snoc {l : List α} {k : Nat} {x : α} (h : l[k]? = some x) : l.take (k + 1) = l.take k ++ [x] := by
  have hi := (List.getElem?_eq_some_iff.1 h).1
  rw [List.take_add_one, h]; rfl
theorem Rd.grp {enc : α → List Value} {k : Nat} {v : Value} {xs : List α} {As : List HProp} (h : Rd W As enc k v xs) : Rd W [seps As] enc k v xs := fun w s => h w (by simpa only [seps, sep_emp] using s)
theorem flat_snoc {β : Type} {f : α → List β} {qs : List α} {k : Nat} {q : α} (h : qs[k]? = some q) : (qs.take (k + 1)).flatMap f = (qs.take k).flatMap f ++ f q := by rw [take_snoc h, List.flatMap_append]; simp
theorem flat_le {β : Type} {f : α → List β} (qs : List α) (k : Nat) : ((qs.take k).flatMap f).length ≤ (qs.flatMap f).length := by
  conv => rhs; rw [← List.take_append_drop k qs, List.flatMap_append, List.length_append]
  omega
theorem Rd.rep {b j n c : Nat} {a : Int} (hj : j ≤ n) (h : Rd W H intE 1 (.slice (some ⟨b, 0, none⟩) n c) (List.replicate j a ++ List.replicate (n - j) 0)) : Rd W H intE 1 (.slice (some ⟨b, 0, none⟩) j c) (List.replicate j a) := by
  have := h.pre (j := j) (by simp)
  rwa [List.take_left' (by simp)] at this
theorem rep_step (j n : Nat) (a : Int) (hj : j ≤ n) : (List.replicate j a ++ List.replicate (n - j) 0).take j ++ ((List.replicate j a).take (min (List.replicate j a).length (n - j)) ++ (List.replicate j a ++ List.replicate (n - j) 0).drop (j + min (List.replicate j a).length (n - j))) =
    List.replicate (j + min j (n - j)) a ++ List.replicate (n - (j + min j (n - j))) 0 := by
  rw [List.take_left' (by simp), List.take_replicate, List.drop_append, List.length_replicate]
  rw [List.drop_of_length_le (by simp), List.nil_append, List.drop_replicate, ← List.append_assoc, List.replicate_append_replicate]
  congr 2 <;> omega
theorem set_self {xs : List α} {k : Nat} {x y : α} (h : xs[k]? = some x) : (xs.set k y)[k]? = some y := by simp [(List.getElem?_eq_some_iff.1 h).1]
theorem at_some {xs : List α} {k : Nat} (h : k < xs.length) : ∃ x, xs[k]? = some x := ⟨xs[k], by simp [h]⟩
end
def idxFrom (x : Int) : List Int → Nat → Int
  | [], _ => -1
  | y :: l, n => if x = y then n else idxFrom x l (n + 1)
def idxOf (x : Int) (l : List Int) : Int := idxFrom x l 0
theorem idx_hit {x y : Int} {l : List Int} {k : Nat} (h : l[k]? = some y) (e : x = y) : idxFrom x (l.drop k) k = k := by rw [drop_cons h, idxFrom, if_pos e]
theorem idx_miss {x y : Int} {l : List Int} {k : Nat} (h : l[k]? = some y) (e : ¬ x = y) : idxFrom x (l.drop k) k = idxFrom x (l.drop (k + 1)) (k + 1) := by rw [drop_cons h, idxFrom, if_neg e]
theorem idx_end {x : Int} {l : List Int} {k : Nat} (h : l.length ≤ k) : idxFrom x (l.drop k) k = -1 := by rw [List.drop_of_length_le h]; rfl
theorem idx_contains (x : Int) (l : List Int) : ∀ k, decide (0 ≤ idxFrom x l k) = l.contains x := by
  induction l with
  | nil => intro k; rfl
  | cons y l ih =>
    intro k
    rw [idxFrom]
    by_cases h : x = y
    · subst h; simp
    · rw [if_neg h, ih, List.contains_cons]; simp [h]
def minOf (l : List Int) : Int := l.tail.foldl min (l.headD 0)
end Go.SLYtkflpgknieoknaa
