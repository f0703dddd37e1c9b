/- The rules of the walk, over the separation logic of the text before: what holds of the slots and of the memory is carried as two lists. Conditions: none, this text proves no statement. -/
import Derived.Test.YtkflpgknieoknaaSLa
namespace Go.SLYtkflpgknieoknaa
open Go Go.RowKit

/-- What is known of the slots: of each its value, or nothing. What stands ahead counts. -/
def look : List (Nat × Option Value) → Nat → Option Value
  | [], _ => none
  | (j, v) :: L, k => match Nat.beq j k with
    | true => v
    | false => look L k

theorem look_cons (j : Nat) (v : Option Value) (L : List (Nat × Option Value)) (k : Nat) : look ((j, v) :: L) k = if j = k then v else look L k := by
  unfold look
  by_cases h : j = k
  · subst h; simp
  · have : Nat.beq j k = false := by cases e : Nat.beq j k with
      | false => rfl
      | true => exact absurd (Nat.eq_of_beq_eq_true e) h
    rw [this, if_neg h]
    cases L <;> rfl

def ev (L : List (Nat × Option Value)) : Operand → Option Value
  | .tmp t => look L t
  | .const v => some v
  | .global g => some (.pointer (some ⟨g, 0, none⟩))
  | .func f => some (.func (.func f) #[] #[])

def evs (L : List (Nat × Option Value)) : List Operand → Option (List Value)
  | [] => some []
  | x :: r => match ev L x, evs L r with
    | some v, some vs => some (v :: vs)
    | _, _ => none

structure Env (N : Nat) (L : List (Nat × Option Value)) (a : Act) : Prop where
  size : a.tmps.size = N
  get : ∀ k v, look L k = some v → a.tmps[k]? = some v
  defers : a.defers = []

theorem Env.eval {N : Nat} {L : List (Nat × Option Value)} {a : Act} (h : Env N L a) {x : Operand} {v : Value} (hv : ev L x = some v) : a.eval x = v := by
  cases x with
  | tmp t =>
    have := h.get t v hv
    unfold Act.eval
    simp [this]
  | const u => unfold ev at hv; exact Option.some.inj hv
  | global g => unfold ev at hv; exact Option.some.inj hv
  | func f => unfold ev at hv; exact Option.some.inj hv

theorem Env.evals {N : Nat} {L : List (Nat × Option Value)} {a : Act} (h : Env N L a) : ∀ {xs : List Operand} {vs : List Value}, evs L xs = some vs → xs.map a.eval = vs
  | [], vs, e => by unfold evs at e; simpa using e
  | x :: xs, vs, e => by
    unfold evs at e
    cases h1 : ev L x with
    | none => rw [h1] at e; cases e
    | some v =>
      cases h2 : evs L xs with
      | none => rw [h1, h2] at e; cases e
      | some us =>
        rw [h1, h2] at e
        cases e
        simp [h.eval h1, h.evals h2]

theorem Env.put {N : Nat} {L : List (Nat × Option Value)} {a : Act} (h : Env N L a) {d : Nat} (hd : d < N) (v : Value) : Env N ((d, some v) :: L) (a.put (some d) v) := by
  refine ⟨by simp [Act.put, h.size], fun k u hu => ?_, h.defers⟩
  rw [look_cons] at hu
  show (a.tmps.setIfInBounds d v)[k]? = some u
  by_cases e : d = k
  · subst e
    rw [if_pos rfl] at hu
    cases hu
    rw [Array.getElem?_setIfInBounds_self_of_lt (by rw [h.size]; exact hd)]
  · rw [if_neg e] at hu
    rw [Array.getElem?_setIfInBounds_ne e]
    exact h.get k u hu

def Sub : List (Nat × Option Value) → List (Nat × Option Value) → Prop
  | [], _ => True
  | (_, none) :: r, L => Sub r L
  | (k, some v) :: r, L => look L k = some v ∧ Sub r L

theorem Sub.get {L : List (Nat × Option Value)} : ∀ {r : List (Nat × Option Value)}, Sub r L → ∀ k v, look r k = some v → look L k = some v
  | [], _, _, _, e => by cases e
  | (j, none) :: r, h, k, v, e => by
    rw [look_cons] at e
    by_cases hj : j = k
    · rw [if_pos hj] at e; cases e
    · rw [if_neg hj] at e; exact Sub.get (r := r) h k v e
  | (j, some u) :: r, ⟨h1, h2⟩, k, v, e => by
    rw [look_cons] at e
    by_cases hj : j = k
    · rw [if_pos hj] at e; cases e; subst hj; exact h1
    · rw [if_neg hj] at e; exact h2.get k v e

def nones : List Nat → List (Nat × Option Value)
  | [] => []
  | k :: r => (k, none) :: nones r

theorem look_append (A B : List (Nat × Option Value)) (k : Nat) (h : ∀ v, (k, v) ∉ A) : look (A ++ B) k = look B k := by
  induction A with
  | nil => rfl
  | cons p A ih =>
    obtain ⟨j, v⟩ := p
    rw [List.cons_append, look_cons, if_neg (fun e => h v (by subst e; exact List.mem_cons_self ..)), ih (fun v hv => h v (List.mem_cons_of_mem _ hv))]

theorem mem_nones {ks : List Nat} {k : Nat} {v : Option Value} : (k, v) ∈ nones ks ↔ k ∈ ks ∧ v = none := by
  induction ks with
  | nil => simp [nones]
  | cons j r ih =>
    simp only [nones, List.mem_cons, ih, Prod.mk.injEq]
    constructor
    · rintro (⟨rfl, rfl⟩ | ⟨h1, h2⟩)
      · exact ⟨.inl rfl, rfl⟩
      · exact ⟨.inr h1, h2⟩
    · rintro ⟨rfl | h1, h2⟩
      · exact .inl ⟨rfl, h2⟩
      · exact .inr ⟨h1, h2⟩

theorem look_nones {ks : List Nat} {B : List (Nat × Option Value)} {k : Nat} {v : Value} (h : look (nones ks ++ B) k = some v) : k ∉ ks ∧ look B k = some v := by
  induction ks with
  | nil => exact ⟨by simp, h⟩
  | cons j r ih =>
    simp only [nones, List.cons_append] at h
    rw [look_cons] at h
    by_cases e : j = k
    · rw [if_pos e] at h; cases h
    · rw [if_neg e] at h
      obtain ⟨h1, h2⟩ := ih h
      exact ⟨by simp [Ne.symm e, h1], h2⟩

/-- Slots that were written on the way, on top of what there was. -/
inductive Top (ks : List Nat) : List (Nat × Option Value) → List (Nat × Option Value) → Prop where
  | base {B : List (Nat × Option Value)} : Top ks B B
  | cons {k : Nat} {v : Option Value} {A B : List (Nat × Option Value)} (hk : ks.elem k = true) (h : Top ks A B) : Top ks ((k, v) :: A) B

theorem Top.look {ks : List Nat} {A B : List (Nat × Option Value)} (t : Top ks A B) {k : Nat} (hk : k ∉ ks) : look A k = SLYtkflpgknieoknaa.look B k := by
  induction t with
  | base => rfl
  | cons h _ ih =>
    rw [look_cons, if_neg (fun e => hk (by subst e; exact List.elem_iff.1 h)), ih]

theorem Sub.mid {ks : List Nat} {E A L : List (Nat × Option Value)} (t : Top ks A L) (h : Sub E A) : ∀ k v, SLYtkflpgknieoknaa.look (E ++ (nones ks ++ L)) k = some v → SLYtkflpgknieoknaa.look A k = some v := by
  intro k v hv
  induction E with
  | nil =>
    obtain ⟨h1, h2⟩ := look_nones hv
    rw [t.look h1]; exact h2
  | cons p r ih =>
    obtain ⟨j, u⟩ := p
    rw [List.cons_append, look_cons] at hv
    cases u with
    | none =>
      by_cases e : j = k
      · rw [if_pos e] at hv; cases hv
      · rw [if_neg e] at hv; exact ih h hv
    | some u =>
      by_cases e : j = k
      · rw [if_pos e] at hv; cases hv; subst e; exact h.1
      · rw [if_neg e] at hv; exact ih h.2 hv

/-- Behind a round: what the slots that it writes are, and all other slots as they were. -/
theorem Sub.round {ks : List Nat} {E E' A L : List (Nat × Option Value)} (t : Top ks A (E ++ (nones ks ++ L))) (hE : ∀ k v, (k, v) ∈ E → ks.elem k = true) (h : Sub E' A) :
    ∀ k v, SLYtkflpgknieoknaa.look (E' ++ (nones ks ++ L)) k = some v → SLYtkflpgknieoknaa.look A k = some v := by
  intro k v hv
  have split : ∀ (E' : List (Nat × Option Value)), Sub E' A → SLYtkflpgknieoknaa.look (E' ++ (nones ks ++ L)) k = some v → SLYtkflpgknieoknaa.look A k = some v := by
    intro E'
    induction E' with
    | nil =>
      intro _ hv
      obtain ⟨h1, h2⟩ := look_nones hv
      rw [t.look h1, look_append _ _ _ (fun v hm => h1 (List.elem_iff.1 (hE _ _ hm))), look_append _ _ _ (fun v hm => h1 (mem_nones.1 hm).1)]
      exact h2
    | cons p r ih =>
      obtain ⟨j, u⟩ := p
      intro hs hv
      rw [List.cons_append, look_cons] at hv
      cases u with
      | none =>
        by_cases e : j = k
        · rw [if_pos e] at hv; cases hv
        · rw [if_neg e] at hv; exact ih hs hv
      | some u =>
        by_cases e : j = k
        · rw [if_pos e] at hv; cases hv; subst e; exact hs.1
        · rw [if_neg e] at hv; exact ih hs.2 hv
  exact split E' h hv

theorem Env.sub {N : Nat} {L L' : List (Nat × Option Value)} {a : Act} (h : Env N L a) (s : Sub L' L) : Env N L' a :=
  ⟨h.size, fun k v e => h.get k v (s.get k v e), h.defers⟩

/-! ### Chunks in a list -/

inductive Take : List HProp → HProp → List HProp → Prop where
  | here {A : HProp} {H : List HProp} : Take (A :: H) A H
  | there {A B : HProp} {H R : List HProp} (h : Take H A R) : Take (B :: H) A (B :: R)

theorem Take.seps {H R : List HProp} {A : HProp} (t : Take H A R) : seps H = sep A (seps R) := by
  induction t with
  | here => rfl
  | there _ ih => simp only [SLYtkflpgknieoknaa.seps, ih]; exact sep_left_comm _ _ _

inductive Takes : List HProp → List HProp → List HProp → Prop where
  | nil {H : List HProp} : Takes H [] H
  | cons {H R R' : List HProp} {A : HProp} {As : List HProp} (h : Take H A R) (t : Takes R As R') : Takes H (A :: As) R'

theorem Takes.seps {H R As : List HProp} (t : Takes H As R) : seps H = seps (As ++ R) := by
  induction t with
  | nil => rfl
  | cons h _ ih => rw [h.seps, ih]; rfl

inductive Repl : List HProp → HProp → HProp → List HProp → Prop where
  | here {A B : HProp} {H : List HProp} : Repl (A :: H) A B (B :: H)
  | there {A B C : HProp} {H H' : List HProp} (h : Repl H A B H') : Repl (C :: H) A B (C :: H')

theorem Repl.seps {H H' : List HProp} {A B : HProp} (t : Repl H A B H') : ∃ R, seps H = sep A R ∧ seps H' = sep B R := by
  induction t with
  | here => exact ⟨_, rfl, rfl⟩
  | there _ ih =>
    obtain ⟨R, h1, h2⟩ := ih
    exact ⟨sep _ R, by simp only [SLYtkflpgknieoknaa.seps, h1]; exact sep_left_comm _ _ _, by simp only [SLYtkflpgknieoknaa.seps, h2]; exact sep_left_comm _ _ _⟩

/-! ### The judgements -/

section
variable (P : Program) (W : World) (N : Nat)

def GoE (Q : Exit → Act → World → Prop) (e : Exit) (L : List (Nat × Option Value)) (H : List HProp) : Prop := ∀ a w, Env N L a → Sat W w (seps H) → Q e a w
def GoC (Q : Exit → Act → World → Prop) (c : Code) (L : List (Nat × Option Value)) (H : List HProp) : Prop := ∀ a w, Env N L a → Sat W w (seps H) → c.wp P Q a w
def GoL (O : Array Oper) (Q : Exit → Act → World → Prop) (ops : List Oper) (L : List (Nat × Option Value)) (H : List HProp) : Prop :=
  ∀ a w, Env N L a → Sat W w (seps H) → wpList P O Q ops a w
def GoQ (O : Array Oper) (Q : Exit → Act → World → Prop) (ops : List Oper) (L : List (Nat × Option Value)) (H : List HProp) : Prop :=
  ∀ a, Env N L a → wpQuiet P O (fun w => Sat W w (seps H)) (fun a' => ∀ w', Sat W w' (seps H) → Q .normal a' w') ops a
/-- An operation that looks at the slots and the memory, and yields one value. -/
def Yields (op : Op) (T : TypeId) (L : List (Nat × Option Value)) (H : List HProp) (v : Value) : Prop :=
  ∀ dst pos after guard a w, Env N L a → Sat W w (seps H) → (execOp a.eval ⟨dst, op, T, pos, after, guard⟩).run P w = .ok (.value v) w
end

section
variable {P : Program} {W : World} {N : Nat} {Q : Exit → Act → World → Prop} {L : List (Nat × Option Value)} {H : List HProp} {O : Array Oper}

theorem GoE.iff {Q' : Exit → Act → World → Prop} {e e' : Exit} (h : ∀ a w, Q' e' a w → Q e a w) (k : GoE W N Q' e' L H) : GoE W N Q e L H := fun a w ha hs => h a w (k a w ha hs)
theorem GoE.then_normal {c : Code} (k : GoC P W N Q c L H) : GoE W N (Exit.then (c.wp P Q) Q) .normal L H := k
theorem GoE.then_ret {next : Act → World → Prop} (k : GoE W N Q .ret L H) : GoE W N (Exit.then next Q) .ret L H := k
theorem GoE.then_exit {next : Act → World → Prop} {id : Nat} (k : GoE W N Q (.exit id) L H) : GoE W N (Exit.then next Q) (.exit id) L H := k
theorem GoE.block_normal {id : Nat} (k : GoE W N Q .normal L H) : GoE W N (Exit.inBlock id Q) .normal L H := k
theorem GoE.block_ret {id : Nat} (k : GoE W N Q .ret L H) : GoE W N (Exit.inBlock id Q) .ret L H := k
theorem GoE.block_here {id : Nat} (k : GoE W N Q .normal L H) : GoE W N (Exit.inBlock id Q) (.exit id) L H := fun a w ha hs => by
  show (if id = id then Q .normal a w else Q (.exit id) a w)
  rw [if_pos rfl]; exact k a w ha hs
theorem GoE.block_past {id id' : Nat} (h : Nat.beq id' id = false) (k : GoE W N Q (.exit id') L H) : GoE W N (Exit.inBlock id Q) (.exit id') L H := fun a w ha hs => by
  show (if id' = id then Q .normal a w else Q (.exit id') a w)
  rw [if_neg (fun e => by subst e; simp at h)]; exact k a w ha hs

theorem GoC.seq {x y : Code} (k : GoC P W N (Exit.then (y.wp P Q) Q) x L H) : GoC P W N Q (.seq x y) L H := fun a w ha hs => wp_seq (k a w ha hs)
theorem GoC.block {id : Nat} {c : Code} (k : GoC P W N (Exit.inBlock id Q) c L H) : GoC P W N Q (.block id c) L H := fun a w ha hs => wp_block (k a w ha hs)
theorem GoC.skip (k : GoE W N Q .normal L H) : GoC P W N Q .skip L H := fun a w ha hs => wp_skip (k a w ha hs)
theorem GoC.exit {id : Nat} (k : GoE W N Q (.exit id) L H) : GoC P W N Q (.exit id) L H := fun a w ha hs => wp_exit (k a w ha hs)
theorem GoC.ret (k : GoE W N Q .ret L H) : GoC P W N Q .ret L H := fun a w ha hs => wp_ret (k a w ha hs)
theorem GoC.cond {c : Operand} {x y : Code} {t : Bool} (hc : ev L c = some (.bool t)) (ht : t = true → GoC P W N Q x L H) (hf : t = false → GoC P W N Q y L H) : GoC P W N Q (.cond c x y) L H :=
  fun a w ha hs => wp_cond_split (ha.eval hc) (fun e => ht e a w ha hs) (fun e => hf e a w ha hs)
theorem GoC.condD {c : Operand} {x y : Code} {p : Prop} [Decidable p] (hc : ev L c = some (.bool (decide p))) (ht : p → GoC P W N Q x L H) (hf : ¬ p → GoC P W N Q y L H) : GoC P W N Q (.cond c x y) L H :=
  .cond hc (fun e => ht (of_decide_eq_true e)) (fun e => hf (of_decide_eq_false e))
theorem GoC.condT {c : Operand} {x y : Code} (hc : ev L c = some (.bool true)) (ht : GoC P W N Q x L H) : GoC P W N Q (.cond c x y) L H := .cond hc (fun _ => ht) (fun e => by cases e)
theorem GoC.condF {c : Operand} {x y : Code} (hc : ev L c = some (.bool false)) (hf : GoC P W N Q y L H) : GoC P W N Q (.cond c x y) L H := .cond hc (fun e => by cases e) (fun _ => hf)
theorem GoC.region {id : Nat} {l : List Oper} (k : GoL P W N l.toArray Q l L H) : GoC P W N Q (.region id l.toArray false) L H := fun a w ha hs => wp_region_lit (k a w ha hs)
theorem GoC.quiet {id : Nat} {l : List Oper} (hm : P.follows .mixedOrders = true) (hB : Region.lexB .any l.toArray = true) (k : GoQ P W N l.toArray Q l L H) : GoC P W N Q (.region id l.toArray true) L H :=
  fun a w ha hs => wp_region_quiet (C := fun w => Sat W w (seps H)) hm hB hs.drew (by simpa using k a ha)

theorem GoC.mono {c : Code} {Q' : Exit → Act → World → Prop} (h : ∀ e a w, Q' e a w → Q e a w) (k : GoC P W N Q' c L H) : GoC P W N Q c L H := fun a w ha hs => wp_mono (k a w ha hs) h

/-- The memory seen otherwise. -/
theorem GoC.mem {c : Code} {H' : List HProp} (h : ∀ w, Sat W w (seps H) → Sat W w (seps H')) (k : GoC P W N Q c L H') : GoC P W N Q c L H := fun a w ha hs => k a w ha (h w hs)
theorem GoL.mem {ops : List Oper} {H' : List HProp} (h : ∀ w, Sat W w (seps H) → Sat W w (seps H')) (k : GoL P W N O Q ops L H') : GoL P W N O Q ops L H := fun a w ha hs => k a w ha (h w hs)
theorem GoE.mem {e : Exit} {H' : List HProp} (h : ∀ w, Sat W w (seps H) → Sat W w (seps H')) (k : GoE W N Q e L H') : GoE W N Q e L H := fun a w ha hs => k a w ha (h w hs)
theorem GoC.sub {c : Code} {L' : List (Nat × Option Value)} (h : Sub L' L) (k : GoC P W N Q c L' H) : GoC P W N Q c L H := fun a w ha hs => k a w (ha.sub h) hs
theorem GoL.sub {ops : List Oper} {L' : List (Nat × Option Value)} (h : Sub L' L) (k : GoL P W N O Q ops L' H) : GoL P W N O Q ops L H := fun a w ha hs => k a w (ha.sub h) hs
theorem GoE.sub {e : Exit} {L' : List (Nat × Option Value)} (h : Sub L' L) (k : GoE W N Q e L' H) : GoE W N Q e L H := fun a w ha hs => k a w (ha.sub h) hs
/-- What the memory says, laid beside. -/
theorem GoC.know {c : Code} {p : Prop} (h : ∀ w, Sat W w (seps H) → p) (k : p → GoC P W N Q c L H) : GoC P W N Q c L H := fun a w ha hs => k (h w hs) a w ha hs
theorem GoL.know {ops : List Oper} {p : Prop} (h : ∀ w, Sat W w (seps H) → p) (k : p → GoL P W N O Q ops L H) : GoL P W N O Q ops L H := fun a w ha hs => k (h w hs) a w ha hs
theorem GoE.know {e : Exit} {p : Prop} (h : ∀ w, Sat W w (seps H) → p) (k : p → GoE W N Q e L H) : GoE W N Q e L H := fun a w ha hs => k (h w hs) a w ha hs
/-- A thing that the memory bears, opened: the names that it speaks of come out. -/
theorem GoC.open {c : Code} {A : HProp} {X : Type} {As : X → List HProp} {R : List HProp} (t : Take H A R) (h : ∀ w R', Sat W w (sep A R') → ∃ x, Sat W w (sep (seps (As x)) R')) (k : ∀ x, GoC P W N Q c L (As x ++ R)) : GoC P W N Q c L H :=
  fun a w ha hs => by
    rw [t.seps] at hs
    obtain ⟨x, hx⟩ := h w _ hs
    exact k x a w ha (by rw [seps_append]; exact hx)
theorem GoL.open {ops : List Oper} {A : HProp} {X : Type} {As : X → List HProp} {R : List HProp} (t : Take H A R) (h : ∀ w R', Sat W w (sep A R') → ∃ x, Sat W w (sep (seps (As x)) R')) (k : ∀ x, GoL P W N O Q ops L (As x ++ R)) : GoL P W N O Q ops L H :=
  fun a w ha hs => by
    rw [t.seps] at hs
    obtain ⟨x, hx⟩ := h w _ hs
    exact k x a w ha (by rw [seps_append]; exact hx)
theorem GoE.open {e : Exit} {A : HProp} {X : Type} {As : X → List HProp} {R : List HProp} (t : Take H A R) (h : ∀ w R', Sat W w (sep A R') → ∃ x, Sat W w (sep (seps (As x)) R')) (k : ∀ x, GoE W N Q e L (As x ++ R)) : GoE W N Q e L H :=
  fun a w ha hs => by
    rw [t.seps] at hs
    obtain ⟨x, hx⟩ := h w _ hs
    exact k x a w ha (by rw [seps_append]; exact hx)
/-- Parts put together again. -/
theorem GoC.shut {c : Code} {As : List HProp} {A : HProp} {R : List HProp} (t : Takes H As R) (h : ∀ w R', Sat W w (sep (seps As) R') → Sat W w (sep A R')) (k : GoC P W N Q c L (A :: R)) : GoC P W N Q c L H :=
  fun a w ha hs => k a w ha (by rw [t.seps, seps_append] at hs; exact h w _ hs)
theorem GoL.shut {ops : List Oper} {As : List HProp} {A : HProp} {R : List HProp} (t : Takes H As R) (h : ∀ w R', Sat W w (sep (seps As) R') → Sat W w (sep A R')) (k : GoL P W N O Q ops L (A :: R)) : GoL P W N O Q ops L H :=
  fun a w ha hs => k a w ha (by rw [t.seps, seps_append] at hs; exact h w _ hs)
theorem GoE.shut {e : Exit} {As : List HProp} {A : HProp} {R : List HProp} (t : Takes H As R) (h : ∀ w R', Sat W w (sep (seps As) R') → Sat W w (sep A R')) (k : GoE W N Q e L (A :: R)) : GoE W N Q e L H :=
  fun a w ha hs => k a w ha (by rw [t.seps, seps_append] at hs; exact h w _ hs)

theorem GoL.nil (k : GoE W N Q .normal L H) : GoL P W N O Q [] L H := fun a w ha hs => wpList_nil (k a w ha hs)
theorem GoQ.nil (k : GoE W N Q .normal L H) : GoQ P W N O Q [] L H := fun a ha => wpQuiet_nil fun w hs => k a w ha hs

theorem GoL.y {op : Op} {T : TypeId} {pos : String} {after : Array Edge} {d : Nat} {rest : List Oper} {v : Value} (hN : Nat.blt d N = true) (hy : Yields P W N op T L H v) (k : GoL P W N O Q rest ((d, some v) :: L) H) :
    GoL P W N O Q (⟨some d, op, T, pos, after, none⟩ :: rest) L H := fun a w ha hs =>
  wpList_plain rfl fun K hK => by
    unfold Oper.wp
    rw [hy _ _ _ _ a w ha hs]
    exact hK _ _ (k _ w (ha.put (Nat.blt_eq.mp hN) v) hs)

theorem GoQ.y {op : Op} {T : TypeId} {pos : String} {after : Array Edge} {d : Nat} {rest : List Oper} {v : Value} (hN : Nat.blt d N = true) (hy : Yields P W N op T L H v) (k : GoQ P W N O Q rest ((d, some v) :: L) H) :
    GoQ P W N O Q (⟨some d, op, T, pos, after, none⟩ :: rest) L H := fun a ha =>
  wpQuiet_step fun K hK => by
    rw [if_pos (by simp [Region.wanted])]
    refine ⟨v, fun w hs => ?_, hK _ (k _ (ha.put (Nat.blt_eq.mp hN) v))⟩
    unfold Oper.quietAt
    rw [hy _ _ _ _ a w ha hs]
    exact ⟨rfl, rfl⟩

def boolOf : Value → Option Bool
  | .bool b => some b
  | _ => none

theorem wanted_of {L : List (Nat × Option Value)} {a : Act} {N : Nat} (ha : Env N L a) {o : Oper} {j t : Nat} {want : Bool} {v : Value} (hg : o.guard = some (j, want)) (hj : (O[j]?).bind (·.dst) = some t) (ht : look L t = some v) :
    Region.wanted o (yielded O a.tmps) = (boolOf v == some want) := by
  unfold Region.wanted
  rw [hg]
  show (yielded O a.tmps j == some want) = _
  unfold yielded
  rw [hj]
  simp only [Option.bind_some, ha.get t v ht]
  cases v <;> rfl

theorem GoL.yg {op : Op} {T : TypeId} {pos : String} {after : Array Edge} {d j t : Nat} {want : Bool} {rest : List Oper} {v : Value} (hj : (O[j]?).bind (·.dst) = some t) (ht : look L t = some (.bool want)) (hN : Nat.blt d N = true)
    (hy : Yields P W N op T L H v) (k : GoL P W N O Q rest ((d, some v) :: L) H) :
    GoL P W N O Q (⟨some d, op, T, pos, after, some (j, want)⟩ :: rest) L H := fun a w ha hs =>
  wpList_step fun K hK => by
    rw [if_pos (by rw [wanted_of ha rfl hj ht]; simp [boolOf])]
    unfold Oper.wp
    rw [hy _ _ _ _ a w ha hs]
    exact hK _ _ (k _ w (ha.put (Nat.blt_eq.mp hN) v) hs)

theorem GoL.skip {op : Op} {T : TypeId} {pos : String} {after : Array Edge} {d j t : Nat} {want : Bool} {rest : List Oper} {u : Value} (hj : (O[j]?).bind (·.dst) = some t) (ht : look L t = some u) (hb : (boolOf u == some want) = false) (hN : Nat.blt d N = true)
    (k : GoL P W N O Q rest ((d, some undef) :: L) H) :
    GoL P W N O Q (⟨some d, op, T, pos, after, some (j, want)⟩ :: rest) L H := fun a w ha hs =>
  wpList_step fun K hK => by
    rw [if_neg (by rw [wanted_of ha rfl hj ht, hb]; simp)]
    exact hK _ _ (k _ w (ha.put (Nat.blt_eq.mp hN) undef) hs)

theorem GoQ.yg {op : Op} {T : TypeId} {pos : String} {after : Array Edge} {d j t : Nat} {want : Bool} {rest : List Oper} {v : Value} (hj : (O[j]?).bind (·.dst) = some t) (ht : look L t = some (.bool want)) (hN : Nat.blt d N = true)
    (hy : Yields P W N op T L H v) (k : GoQ P W N O Q rest ((d, some v) :: L) H) :
    GoQ P W N O Q (⟨some d, op, T, pos, after, some (j, want)⟩ :: rest) L H := fun a ha =>
  wpQuiet_step fun K hK => by
    rw [if_pos (by rw [wanted_of ha rfl hj ht]; simp [boolOf])]
    refine ⟨v, fun w hs => ?_, hK _ (k _ (ha.put (Nat.blt_eq.mp hN) v))⟩
    unfold Oper.quietAt
    rw [hy _ _ _ _ a w ha hs]
    exact ⟨rfl, rfl⟩

theorem GoQ.skip {op : Op} {T : TypeId} {pos : String} {after : Array Edge} {d j t : Nat} {want : Bool} {rest : List Oper} {u : Value} (hj : (O[j]?).bind (·.dst) = some t) (ht : look L t = some u) (hb : (boolOf u == some want) = false) (hN : Nat.blt d N = true)
    (k : GoQ P W N O Q rest ((d, some undef) :: L) H) :
    GoQ P W N O Q (⟨some d, op, T, pos, after, some (j, want)⟩ :: rest) L H := fun a ha =>
  wpQuiet_step fun K hK => by
    rw [if_neg (by rw [wanted_of ha rfl hj ht, hb]; simp)]
    exact hK _ (k _ (ha.put (Nat.blt_eq.mp hN) undef))

/-- A slot's Bool is parted upon. -/
theorem GoL.part {ops : List Oper} {t : Nat} {b : Bool} (ht : look L t = some (.bool b)) (h1 : b = true → GoL P W N O Q ops ((t, some (.bool true)) :: L) H) (h2 : b = false → GoL P W N O Q ops ((t, some (.bool false)) :: L) H) : GoL P W N O Q ops L H := fun a w ha hs => by
  have hx : ∀ u, b = u → Env N ((t, some (.bool u)) :: L) a := fun u e => by
    subst e
    refine ⟨ha.size, fun k v hv => ?_, ha.defers⟩
    rw [look_cons] at hv
    by_cases hk : t = k
    · rw [if_pos hk] at hv; cases hv; subst hk; exact ha.get _ _ ht
    · rw [if_neg hk] at hv; exact ha.get _ _ hv
  cases b with
  | true => exact h1 rfl a w (hx _ rfl) hs
  | false => exact h2 rfl a w (hx _ rfl) hs
theorem GoL.partD {ops : List Oper} {t : Nat} {p : Prop} [Decidable p] (ht : look L t = some (.bool (decide p))) (h1 : p → GoL P W N O Q ops ((t, some (.bool true)) :: L) H) (h2 : ¬ p → GoL P W N O Q ops ((t, some (.bool false)) :: L) H) : GoL P W N O Q ops L H :=
  .part ht (fun e => h1 (of_decide_eq_true e)) (fun e => h2 (of_decide_eq_false e))
theorem GoQ.part {ops : List Oper} {t : Nat} {b : Bool} (ht : look L t = some (.bool b)) (h1 : b = true → GoQ P W N O Q ops ((t, some (.bool true)) :: L) H) (h2 : b = false → GoQ P W N O Q ops ((t, some (.bool false)) :: L) H) : GoQ P W N O Q ops L H := fun a ha => by
  have hx : ∀ u, b = u → Env N ((t, some (.bool u)) :: L) a := fun u e => by
    subst e
    refine ⟨ha.size, fun k v hv => ?_, ha.defers⟩
    rw [look_cons] at hv
    by_cases hk : t = k
    · rw [if_pos hk] at hv; cases hv; subst hk; exact ha.get _ _ ht
    · rw [if_neg hk] at hv; exact ha.get _ _ hv
  cases b with
  | true => exact h1 rfl a (hx _ rfl)
  | false => exact h2 rfl a (hx _ rfl)
theorem GoQ.partD {ops : List Oper} {t : Nat} {p : Prop} [Decidable p] (ht : look L t = some (.bool (decide p))) (h1 : p → GoQ P W N O Q ops ((t, some (.bool true)) :: L) H) (h2 : ¬ p → GoQ P W N O Q ops ((t, some (.bool false)) :: L) H) : GoQ P W N O Q ops L H :=
  .part ht (fun e => h1 (of_decide_eq_true e)) (fun e => h2 (of_decide_eq_false e))

end

end Go.SLYtkflpgknieoknaa
