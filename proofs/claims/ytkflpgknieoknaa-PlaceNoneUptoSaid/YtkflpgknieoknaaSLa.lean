/- A small separation logic over the model's worlds: what a call of the program's own memory does, said by parts that lie apart. Conditions: none, this text proves no statement. -/
import Derived.WalkKit
import Derived.Deep.Quiet
import Derived.Deep.LoopGhost
import Derived.Carry
namespace Go.SLYtkflpgknieoknaa
open Go Go.RowKit

def cellsB : Obj → Bool
  | .cells .. => true
  | _ => false

inductive Item where
  | cell (v : Value)
  | obj (o : Obj)

abbrev Heap := Nat → Nat → Option Item
abbrev HProp := Heap → Prop

def Item.lies (w : World) (b o : Nat) : Item → Prop
  | .cell v => w.cell? ⟨b, o, none⟩ = some v ∧ w.frozen? ⟨b, o, none⟩ = false
  | .obj x => o = 0 ∧ w.heap[b]? = some x ∧ cellsB x = false

def Heap.In (h : Heap) (n : Nat) (w : World) : Prop := ∀ b o i, h b o = some i → n ≤ b ∧ i.lies w b o

def disj (h1 h2 : Heap) : Prop := ∀ b o, h1 b o = none ∨ h2 b o = none
def join (h1 h2 : Heap) : Heap := fun b o => (h1 b o).or (h2 b o)

def emp : HProp := fun h => ∀ b o, h b o = none
def sep (A B : HProp) : HProp := fun h => ∃ h1 h2, A h1 ∧ B h2 ∧ disj h1 h2 ∧ h = join h1 h2
def ex {X : Type} (A : X → HProp) : HProp := fun h => ∃ x, A x h
def pur (p : Prop) : HProp := fun h => p ∧ emp h

theorem join_comm {h1 h2 : Heap} (d : disj h1 h2) : join h1 h2 = join h2 h1 := by
  funext b o
  unfold join
  rcases d b o with e | e <;> simp [e]

theorem sep_comm (A B : HProp) : sep A B = sep B A := by
  funext h
  apply propext
  constructor
  · rintro ⟨h1, h2, a, b, d, rfl⟩
    exact ⟨h2, h1, b, a, fun x y => (d x y).symm, join_comm d⟩
  · rintro ⟨h1, h2, a, b, d, rfl⟩
    exact ⟨h2, h1, b, a, fun x y => (d x y).symm, join_comm d⟩

theorem sep_assoc (A B C : HProp) : sep (sep A B) C = sep A (sep B C) := by
  funext h
  apply propext
  constructor
  · rintro ⟨h12, h3, ⟨h1, h2, a, b, d, rfl⟩, c, d', rfl⟩
    refine ⟨h1, join h2 h3, a, ⟨h2, h3, b, c, ?_, rfl⟩, ?_, ?_⟩
    · intro x y
      rcases d' x y with e | e
      · unfold join at e
        left
        simp at e
        exact e.2
      · exact .inr e
    · intro x y
      rcases d x y with e | e
      · exact .inl e
      · rcases d' x y with e' | e'
        · unfold join at e'
          simp at e'
          exact .inl e'.1
        · right; unfold join; simp [e, e']
    · funext x y; unfold join; cases h1 x y <;> simp
  · rintro ⟨h1, h23, a, ⟨h2, h3, b, c, d, rfl⟩, d', rfl⟩
    refine ⟨join h1 h2, h3, ⟨h1, h2, a, b, ?_, rfl⟩, c, ?_, ?_⟩
    · intro x y
      rcases d' x y with e | e
      · exact .inl e
      · unfold join at e
        simp at e
        exact .inr e.1
    · intro x y
      rcases d x y with e | e
      · rcases d' x y with e' | e'
        · left; unfold join; simp [e, e']
        · unfold join at e'
          simp at e'
          exact .inr e'.2
      · exact .inr e
    · funext x y; unfold join; cases h1 x y <;> simp

theorem sep_left_comm (A B C : HProp) : sep A (sep B C) = sep B (sep A C) := by
  rw [← sep_assoc, sep_comm A B, sep_assoc]

theorem sep_emp (A : HProp) : sep A emp = A := by
  funext h
  apply propext
  constructor
  · rintro ⟨h1, h2, a, b, d, rfl⟩
    have : join h1 h2 = h1 := by funext x y; unfold join; simp [b x y]
    rw [this]; exact a
  · intro a
    refine ⟨h, fun _ _ => none, a, fun _ _ => rfl, fun _ _ => .inr rfl, ?_⟩
    funext x y; unfold join; simp

theorem emp_sep (A : HProp) : sep emp A = A := by rw [sep_comm, sep_emp]

theorem sep_mono {A A' B B' : HProp} (ha : ∀ h, A h → A' h) (hb : ∀ h, B h → B' h) : ∀ h, sep A B h → sep A' B' h :=
  fun _ ⟨h1, h2, a, b, d, e⟩ => ⟨h1, h2, ha _ a, hb _ b, d, e⟩

theorem sep_ex {X : Type} (A : X → HProp) (B : HProp) : sep (ex A) B = ex (fun x => sep (A x) B) := by
  funext h
  apply propext
  constructor
  · rintro ⟨h1, h2, ⟨x, a⟩, b, d, e⟩; exact ⟨x, h1, h2, a, b, d, e⟩
  · rintro ⟨x, h1, h2, a, b, d, e⟩; exact ⟨h1, h2, ⟨x, a⟩, b, d, e⟩

theorem sep_pur (p : Prop) (B : HProp) (h : Heap) : sep (pur p) B h ↔ p ∧ B h := by
  constructor
  · rintro ⟨h1, h2, ⟨hp, e⟩, b, d, rfl⟩
    have : join h1 h2 = h2 := by funext x y; unfold join; simp [e x y]
    rw [this]; exact ⟨hp, b⟩
  · rintro ⟨hp, b⟩
    refine ⟨fun _ _ => none, h, ⟨hp, fun _ _ => rfl⟩, b, fun _ _ => .inl rfl, ?_⟩
    funext x y; unfold join; simp

def seps : List HProp → HProp
  | [] => emp
  | A :: r => sep A (seps r)

theorem seps_append (l r : List HProp) : seps (l ++ r) = sep (seps l) (seps r) := by
  induction l with
  | nil => simp [seps, emp_sep]
  | cons A l ih => simp only [List.cons_append, seps, ih, sep_assoc]

theorem seps_perm {l r : List HProp} (h : l.Perm r) : seps l = seps r := by
  induction h with
  | nil => rfl
  | cons x _ ih => simp only [seps, ih]
  | swap x y l => simp only [seps]; exact sep_left_comm _ _ _
  | trans _ _ ih1 ih2 => exact ih1.trans ih2

/-! ### What a world bears -/

structure Sat (W w : World) (A : HProp) : Prop where
  old : ∀ b, b < W.heap.size → w.heap[b]? = W.heap[b]?
  size : W.heap.size ≤ w.heap.size
  os : w.os = W.os
  tape : w.tape = W.tape
  out : w.output = W.output
  own : ∃ h, A h ∧ Heap.In h W.heap.size w

theorem Sat.mono {W w : World} {A B : HProp} (s : Sat W w A) (f : ∀ h, A h → B h) : Sat W w B :=
  { s with own := let ⟨h, a, i⟩ := s.own; ⟨h, f h a, i⟩ }

theorem Sat.eq {W w : World} {A B : HProp} (s : Sat W w A) (f : A = B) : Sat W w B := f ▸ s

theorem Heap.In.left {h1 h2 : Heap} {n : Nat} {w : World} (i : Heap.In (join h1 h2) n w) : Heap.In h1 n w :=
  fun b o x e => i b o x (by unfold join; simp [e])

theorem Heap.In.right {h1 h2 : Heap} {n : Nat} {w : World} (d : disj h1 h2) (i : Heap.In (join h1 h2) n w) : Heap.In h2 n w :=
  fun b o x e => i b o x (by
    unfold join
    rcases d b o with e' | e'
    · simp [e', e]
    · rw [e] at e'; cases e')

theorem Sat.left {W w : World} {A B : HProp} (s : Sat W w (sep A B)) : Sat W w A :=
  { s with own := let ⟨_, ⟨h1, _, a, _, _, e⟩, i⟩ := s.own; ⟨h1, a, (e ▸ i : Heap.In _ _ _).left⟩ }

theorem Sat.right {W w : World} {A B : HProp} (s : Sat W w (sep A B)) : Sat W w B :=
  { s with own := let ⟨_, ⟨_, h2, _, b, d, e⟩, i⟩ := s.own; ⟨h2, b, (e ▸ i : Heap.In _ _ _).right d⟩ }

theorem Sat.empty {W : World} : Sat W W emp :=
  ⟨fun _ _ => rfl, Nat.le_refl _, rfl, rfl, rfl, fun _ _ => none, fun _ _ => rfl, fun _ _ _ e => by cases e⟩

theorem Sat.pure {W w : World} {p : Prop} {B : HProp} (s : Sat W w (sep (pur p) B)) : p :=
  let ⟨h, a, _⟩ := s.own; ((sep_pur p B h).1 a).1

theorem Sat.exists {W w : World} {X : Type} {A : X → HProp} {B : HProp} (s : Sat W w (sep (ex A) B)) : ∃ x, Sat W w (sep (A x) B) := by
  rw [sep_ex] at s
  obtain ⟨h, ⟨x, a⟩, i⟩ := s.own
  exact ⟨x, { s with own := ⟨h, a, i⟩ }⟩

/-! ### Cells in a row, and objects -/

def arr (b off : Nat) (cs : List Value) : HProp := fun h =>
  ∀ x y, h x y = if x = b ∧ off ≤ y then (cs[y - off]?).map Item.cell else none

def objAt (b : Nat) (o : Obj) : HProp := fun h => cellsB o = false ∧ ∀ x y, h x y = if x = b ∧ y = 0 then some (.obj o) else none

theorem arr_nil (b off : Nat) : arr b off [] = emp := by
  funext h
  apply propext
  unfold arr emp
  simp

theorem arr_split_aux (b off : Nat) (l r : List Value) (x y : Nat) :
    (if x = b ∧ off ≤ y then ((l ++ r)[y - off]?).map Item.cell else none) =
      (if x = b ∧ off ≤ y then (l[y - off]?).map Item.cell else none).or (if x = b ∧ off + l.length ≤ y then (r[y - (off + l.length)]?).map Item.cell else none) := by
  by_cases hx : x = b
  · by_cases h1 : off ≤ y
    · rw [if_pos ⟨hx, h1⟩, if_pos ⟨hx, h1⟩]
      by_cases h2 : off + l.length ≤ y
      · rw [if_pos ⟨hx, h2⟩, List.getElem?_append_right (by omega), List.getElem?_eq_none (l := l) (by omega)]
        simp [show y - off - l.length = y - (off + l.length) from by omega]
      · rw [if_neg (fun e => h2 e.2), List.getElem?_append_left (by omega)]
        simp
    · rw [if_neg (fun e => h1 e.2), if_neg (fun e => h1 e.2), if_neg (fun e => h1 (by have := e.2; omega))]; rfl
  · rw [if_neg (fun e => hx e.1), if_neg (fun e => hx e.1), if_neg (fun e => hx e.1)]; rfl

theorem arr_append (b off : Nat) (l r : List Value) : arr b off (l ++ r) = sep (arr b off l) (arr b (off + l.length) r) := by
  funext h
  apply propext
  constructor
  · intro a
    refine ⟨fun x y => if x = b ∧ off ≤ y then (l[y - off]?).map Item.cell else none, fun x y => if x = b ∧ off + l.length ≤ y then (r[y - (off + l.length)]?).map Item.cell else none, fun _ _ => rfl, fun _ _ => rfl, ?_, ?_⟩
    · intro x y
      by_cases hy : off + l.length ≤ y
      · left
        simp only
        split
        · rw [List.getElem?_eq_none (by omega)]; rfl
        · rfl
      · right
        simp only
        rw [if_neg (by omega)]
    · funext x y
      rw [a x y]
      exact arr_split_aux b off l r x y
  · rintro ⟨h1, h2, a1, a2, d, rfl⟩ x y
    unfold join
    rw [a1 x y, a2 x y]
    exact (arr_split_aux b off l r x y).symm

theorem arr_cell {W w : World} {b off : Nat} {cs : List Value} {R : HProp} (s : Sat W w (sep (arr b off cs) R)) {i : Nat} {v : Value} (hv : cs[i]? = some v) :
    W.heap.size ≤ b ∧ w.cell? ⟨b, off + i, none⟩ = some v := by
  obtain ⟨h, a, hi⟩ := s.left.own
  have := hi b (off + i) (.cell v) (by rw [a]; simp [hv])
  exact ⟨this.1, this.2.1⟩

theorem arr_fz {W w : World} {b off : Nat} {cs : List Value} {R : HProp} (s : Sat W w (sep (arr b off cs) R)) {i : Nat} (hi : i < cs.length) : w.frozen? ⟨b, off + i, none⟩ = false := by
  obtain ⟨h, a, hin⟩ := s.left.own
  have := hin b (off + i) (.cell cs[i]) (by rw [a]; simp [hi])
  exact this.2.2

theorem cell_lt {w : World} {b o : Nat} {v : Value} (h : w.cell? ⟨b, o, none⟩ = some v) : b < w.heap.size := by
  unfold World.cell? at h
  by_cases hb : b < w.heap.size
  · exact hb
  · simp [Array.getElem?_eq_none (Nat.le_of_not_lt hb)] at h

theorem cell_set_ne (w : World) (a a' : Addr) (v : Value) (h : ¬ (a.block = a'.block ∧ a.off = a'.off)) (ha : a.spot = none) : (w.setCell a v).cell? a' = w.cell? a' :=
  World.cell?_setCell_other _ _ _ _ (fun e => h ⟨congrArg Addr.block e, congrArg Addr.off e⟩)

theorem cell_set_eq (w : World) (b o : Nat) (v u : Value) (h : w.cell? ⟨b, o, none⟩ = some u) : (w.setCell ⟨b, o, none⟩ v).cell? ⟨b, o, none⟩ = some v :=
  World.cell?_setCell_same _ _ _ h

theorem heap_set_obj (w : World) (a : Addr) (v : Value) (k : Nat) (x : Obj) (hx : cellsB x = false) (h : w.heap[k]? = some x) : (w.setCell a v).heap[k]? = some x := by
  unfold World.setCell
  simp only [Array.getElem?_modify]
  split
  · rw [h]
    cases x <;> simp_all [cellsB]
  · exact h

theorem frozen_set (w : World) (a a' : Addr) (v : Value) : (w.setCell a v).frozen? a' = w.frozen? a' := World.frozen?_setCell _ _ _ _

theorem Sat.setCell {W w : World} {b off : Nat} {cs : List Value} {R : HProp} (s : Sat W w (sep (arr b off cs) R)) {i : Nat} (v : Value) (hi : i < cs.length) :
    Sat W (w.setCell ⟨b, off + i, none⟩ v) (sep (arr b off (cs.set i v)) R) := by
  obtain ⟨hb, hc⟩ := arr_cell s (i := i) (v := cs[i]) (by simp [hi])
  obtain ⟨h, ⟨h1, h2, a1, a2, d, rfl⟩, hin⟩ := s.own
  refine ⟨fun k hk => ?_, ?_, s.os, s.tape, s.out, join (fun x y => if x = b ∧ off ≤ y then ((cs.set i v)[y - off]?).map Item.cell else none) h2, ⟨_, h2, fun _ _ => rfl, a2, ?_, rfl⟩, ?_⟩
  · rw [← s.old k hk]; exact Below.heap_setCell _ _ _ _ (show k ≠ b from by omega)
  · have := s.size; simpa [World.setCell] using this
  · intro x y
    rcases d x y with e | e
    · left
      rw [a1] at e
      simp only
      split
      · rename_i hxy
        rw [if_pos hxy] at e
        simp at e ⊢
        exact e
      · rfl
    · exact .inr e
  · intro x y it e
    unfold join at e
    simp only at e
    by_cases hxy : x = b ∧ off ≤ y
    · rw [if_pos hxy] at e
      obtain ⟨rfl, hy⟩ := hxy
      by_cases hlt : y - off < cs.length
      · by_cases hyi : i = y - off
        · obtain rfl : y = off + i := by omega
          simp [hi] at e
          subst e
          refine ⟨hb, ?_⟩
          exact ⟨cell_set_eq _ _ _ _ _ hc, (frozen_set _ _ _ _).trans (arr_fz s hi)⟩
        · rw [List.getElem?_set_ne hyi] at e
          simp [hlt] at e
          subst e
          obtain ⟨_, hc'⟩ := arr_cell s (i := y - off) (v := cs[y - off]) (by simp [hlt])
          refine ⟨hb, ?_⟩
          have e2 : off + (y - off) = y := by omega
          rw [e2] at hc'
          have hf' := arr_fz s (i := y - off) hlt
          rw [e2] at hf'
          exact ⟨(cell_set_ne _ _ _ _ (by simp; omega) rfl).trans hc', (frozen_set _ _ _ _).trans hf'⟩
      · rw [List.getElem?_eq_none (by simp; omega)] at e
        simp at e
        have h1n : h1 x y = none := by rw [a1, if_pos ⟨rfl, hy⟩, List.getElem?_eq_none (by omega)]; rfl
        have := hin x y it (by unfold join; simp [h1n, e])
        refine ⟨this.1, ?_⟩
        cases it with
        | cell u => exact ⟨(cell_set_ne _ _ _ _ (by simp; omega) rfl).trans this.2.1, (frozen_set _ _ _ _).trans this.2.2⟩
        | obj o => exact ⟨this.2.1, heap_set_obj _ _ _ _ _ this.2.2.2 this.2.2.1, this.2.2.2⟩
    · rw [if_neg hxy] at e
      simp at e
      have h1n : h1 x y = none := by rw [a1, if_neg hxy]
      have := hin x y it (by unfold join; simp [h1n, e])
      refine ⟨this.1, ?_⟩
      cases it with
      | cell u => exact ⟨(cell_set_ne _ _ _ _ (by simp; omega) rfl).trans this.2.1, (frozen_set _ _ _ _).trans this.2.2⟩
      | obj o => exact ⟨this.2.1, heap_set_obj _ _ _ _ _ this.2.2.2 this.2.2.1, this.2.2.2⟩

theorem heap_lt {w : World} {b : Nat} {x : Obj} (h : w.heap[b]? = some x) : b < w.heap.size := (Array.getElem?_eq_some_iff.1 h).1

theorem Item.lt {w : World} {b o : Nat} {it : Item} (h : it.lies w b o) : b < w.heap.size := by
  cases it with
  | cell v => exact cell_lt h.1
  | obj x => exact heap_lt h.2.1

theorem Item.push {w : World} {b o : Nat} {it : Item} (x : Obj) (h : it.lies w b o) : it.lies (w.alloc x) b o := by
  have hb := Item.lt h
  have e := Below.heap_alloc w x b hb
  cases it with
  | cell v => exact ⟨(World.cell?_of_block (w := w) (a := ⟨b, o, none⟩) e).trans h.1, (World.frozen?_of_block (w := w) (a := ⟨b, o, none⟩) e).trans h.2⟩
  | obj y => exact ⟨h.1, e.trans h.2.1, h.2.2⟩

theorem frozen_alloc (w : World) (x : Obj) (hx : ∀ c T f, x = .cells c T f → f = (0, 0)) (a : Addr) : (w.alloc x).frozen? a = w.frozen? a := by
  by_cases h : a.block = w.heap.size
  · have e1 : (w.alloc x).heap[a.block]? = some x := by rw [h]; exact (MapKept.heap_alloc w x).1
    have e2 : w.heap[a.block]? = none := by rw [h]; simp
    unfold World.frozen?
    rw [e1, e2]
    cases x with
    | cells c T f => cases hx c T f rfl; simp
    | _ => rfl
  · exact World.frozen?_alloc_old _ _ _ h

theorem Sat.alloc {W w : World} {A : HProp} (s : Sat W w A) (cs : Array Value) (T : TypeId) :
    Sat W (w.alloc (.cells cs T)) (sep (arr w.heap.size 0 cs.toList) A) := by
  obtain ⟨h, a, hin⟩ := s.own
  have hnew : (w.alloc (.cells cs T)).heap[w.heap.size]? = some (.cells cs T) := (MapKept.heap_alloc w _).1
  have dd : ∀ y, h w.heap.size y = none := by
    intro y
    cases e : h w.heap.size y with
    | none => rfl
    | some it => exact absurd (Item.lt (hin _ _ _ e).2) (Nat.lt_irrefl _)
  refine ⟨fun k hk => ?_, ?_, s.os, s.tape, s.out, join (fun x y => if x = w.heap.size ∧ 0 ≤ y then ((cs.toList)[y - 0]?).map Item.cell else none) h, ⟨_, h, fun _ _ => rfl, a, ?_, rfl⟩, ?_⟩
  · rw [← s.old k hk]; exact Below.heap_alloc _ _ _ (Nat.lt_of_lt_of_le hk s.size)
  · have := s.size; simp; omega
  · intro x y
    by_cases hx : x = w.heap.size
    · subst hx; exact .inr (dd y)
    · left; simp [hx]
  · intro x y it e
    unfold join at e
    by_cases hx : x = w.heap.size
    · subst hx
      simp [dd] at e
      obtain ⟨v, hv, rfl⟩ := e
      refine ⟨s.size, ?_⟩
      show (w.alloc (.cells cs T)).cell? ⟨w.heap.size, y, none⟩ = some v ∧ (w.alloc (.cells cs T)).frozen? ⟨w.heap.size, y, none⟩ = false
      unfold World.cell? World.frozen?
      rw [hnew]
      exact ⟨by simpa using hv, by simp⟩
    · simp [hx] at e
      have := hin x y it e
      exact ⟨this.1, Item.push _ this.2⟩

theorem Sat.drew {W w : World} {A : HProp} (s : Sat W w A) : Sat W { w with drawn := w.drawn + 1 } A :=
  ⟨s.old, s.size, s.os, s.tape, s.out, let ⟨h, a, i⟩ := s.own; ⟨h, a, fun b o x e => ⟨(i b o x e).1, by cases x <;> exact (i b o _ e).2⟩⟩⟩

/-! objects that are no cells -/

theorem Sat.allocObj {W w : World} {A : HProp} (s : Sat W w A) (x : Obj) (hx : cellsB x = false) :
    Sat W (w.alloc x) (sep (objAt w.heap.size x) A) := by
  obtain ⟨h, a, hin⟩ := s.own
  have hnew : (w.alloc x).heap[w.heap.size]? = some x := (MapKept.heap_alloc w _).1
  have dd : ∀ y, h w.heap.size y = none := by
    intro y
    cases e : h w.heap.size y with
    | none => rfl
    | some it => exact absurd (Item.lt (hin _ _ _ e).2) (Nat.lt_irrefl _)
  refine ⟨fun k hk => ?_, ?_, s.os, s.tape, s.out, join (fun p q => if p = w.heap.size ∧ q = 0 then some (.obj x) else none) h, ⟨_, h, ⟨hx, fun _ _ => rfl⟩, a, ?_, rfl⟩, ?_⟩
  · rw [← s.old k hk]; exact Below.heap_alloc _ _ _ (Nat.lt_of_lt_of_le hk s.size)
  · have := s.size; simp; omega
  · intro p q
    by_cases hp : p = w.heap.size
    · subst hp; exact .inr (dd q)
    · left; simp [hp]
  · intro p q it e
    unfold join at e
    by_cases hp : p = w.heap.size
    · subst hp
      simp [dd] at e
      obtain ⟨rfl, rfl⟩ := e
      exact ⟨s.size, rfl, hnew, hx⟩
    · simp [hp] at e
      have := hin p q it e
      exact ⟨this.1, Item.push _ this.2⟩

theorem obj_lies {W w : World} {b : Nat} {x : Obj} {R : HProp} (s : Sat W w (sep (objAt b x) R)) : W.heap.size ≤ b ∧ w.heap[b]? = some x ∧ cellsB x = false := by
  obtain ⟨h, ⟨hx, a⟩, hi⟩ := s.left.own
  have := hi b 0 (.obj x) (by rw [a]; simp)
  exact ⟨this.1, this.2.2.1, hx⟩

theorem Sat.setObj {W w : World} {b : Nat} {x : Obj} {R : HProp} (s : Sat W w (sep (objAt b x) R)) (y : Obj) (hy : cellsB y = false) :
    Sat W { w with heap := w.heap.setIfInBounds b y } (sep (objAt b y) R) := by
  obtain ⟨hb, hx, hnc⟩ := obj_lies s
  obtain ⟨h, ⟨h1, h2, ⟨_, a1⟩, a2, d, rfl⟩, hin⟩ := s.own
  have hlt := heap_lt hx
  have hfr : ∀ a : Addr, ({ w with heap := w.heap.setIfInBounds b y } : World).frozen? a = w.frozen? a := by
    intro a
    unfold World.frozen?
    simp only
    by_cases e : a.block = b
    · rw [e, hx]
      rw [Array.getElem?_setIfInBounds_self_of_lt hlt]
      cases x <;> cases y <;> simp_all [cellsB]
    · rw [Array.getElem?_setIfInBounds_ne (fun h => e h.symm)]
  refine ⟨fun k hk => ?_, ?_, s.os, s.tape, s.out, join (fun p q => if p = b ∧ q = 0 then some (.obj y) else none) h2, ⟨_, h2, ⟨hy, fun _ _ => rfl⟩, a2, ?_, rfl⟩, ?_⟩
  · rw [← s.old k hk]
    simp only
    rw [Array.getElem?_setIfInBounds_ne (by omega)]
  · have := s.size; simpa using this
  · intro p q
    rcases d p q with e | e
    · left
      rw [a1] at e
      simp only
      split
      · rename_i hpq; rw [if_pos hpq] at e; cases e
      · rfl
    · exact .inr e
  · intro p q it e
    unfold join at e
    by_cases hpq : p = b ∧ q = 0
    · obtain ⟨rfl, rfl⟩ := hpq
      simp at e
      subst e
      exact ⟨hb, rfl, by simp [hlt], hy⟩
    · simp only at e
      rw [if_neg hpq] at e
      simp at e
      have h1n : h1 p q = none := by rw [a1, if_neg hpq]
      have := hin p q it (by unfold join; simp [h1n, e])
      refine ⟨this.1, ?_⟩
      cases it with
      | cell v =>
        have h' := this.2
        refine ⟨?_, (hfr _).trans h'.2⟩
        replace h' := h'.1
        unfold World.cell? at h' ⊢
        simp only at h' ⊢
        by_cases e' : p = b
        · subst e'
          rw [hx] at h'
          cases x <;> simp_all [cellsB]
        · rw [Array.getElem?_setIfInBounds_ne (fun h => e' h.symm)]; exact h'
      | obj z =>
        have h' := this.2
        refine ⟨h'.1, ?_, h'.2.2⟩
        have : p ≠ b := fun e => hpq ⟨e, h'.1⟩
        simp only
        rw [Array.getElem?_setIfInBounds_ne (fun h => this h.symm)]
        exact h'.2.1

theorem Sat.below {W w w' : World} {A : HProp} (s : Sat W w A) (hb : Below w.heap.size w w') : Sat W w' A :=
  ⟨fun b h => (hb.block b (Nat.lt_of_lt_of_le h s.size)).trans (s.old b h), Nat.le_trans s.size hb.size, hb.os.trans s.os, hb.tape.trans s.tape, hb.output.trans s.out,
    let ⟨h, a, i⟩ := s.own; ⟨h, a, fun b o x e => ⟨(i b o x e).1, by
      have hl := (i b o x e).2
      have hlt := Item.lt hl
      cases x with
      | cell v => exact ⟨(hb.cell (p := ⟨b, o, none⟩) hlt).trans hl.1, (hb.frozen (p := ⟨b, o, none⟩) hlt).trans hl.2⟩
      | obj y => exact ⟨hl.1, (hb.block b hlt).trans hl.2.1, hl.2.2⟩⟩⟩⟩

theorem Sat.belowW {W w : World} {A : HProp} (s : Sat W w A) : Below W.heap.size W w := ⟨s.os, s.tape, s.out, s.size, fun b h => s.old b h⟩

end Go.SLYtkflpgknieoknaa
