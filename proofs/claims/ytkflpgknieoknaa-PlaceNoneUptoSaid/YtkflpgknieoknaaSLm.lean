/- Things with inner names: opened and folded. Conditions: none, this text proves no statement. -/
import Derived.Test.YtkflpgknieoknaaSLl
namespace Go.SLYtkflpgknieoknaa
open Go Go.RowKit

def exP1 {X1 : Type} (p : X1 → Prop) (A : X1 → List HProp) : HProp := fun h => ∃ x1, p x1 ∧ seps (A x1) h
def exP2 {X1 X2 : Type} (p : X1 → X2 → Prop) (A : X1 → X2 → List HProp) : HProp := fun h => ∃ x1 x2, p x1 x2 ∧ seps (A x1 x2) h
def exP3 {X1 X2 X3 : Type} (p : X1 → X2 → X3 → Prop) (A : X1 → X2 → X3 → List HProp) : HProp := fun h => ∃ x1 x2 x3, p x1 x2 x3 ∧ seps (A x1 x2 x3) h
def exP4 {X1 X2 X3 X4 : Type} (p : X1 → X2 → X3 → X4 → Prop) (A : X1 → X2 → X3 → X4 → List HProp) : HProp := fun h => ∃ x1 x2 x3 x4, p x1 x2 x3 x4 ∧ seps (A x1 x2 x3 x4) h
def exP5 {X1 X2 X3 X4 X5 : Type} (p : X1 → X2 → X3 → X4 → X5 → Prop) (A : X1 → X2 → X3 → X4 → X5 → List HProp) : HProp := fun h => ∃ x1 x2 x3 x4 x5, p x1 x2 x3 x4 x5 ∧ seps (A x1 x2 x3 x4 x5) h
def exP6 {X1 X2 X3 X4 X5 X6 : Type} (p : X1 → X2 → X3 → X4 → X5 → X6 → Prop) (A : X1 → X2 → X3 → X4 → X5 → X6 → List HProp) : HProp := fun h => ∃ x1 x2 x3 x4 x5 x6, p x1 x2 x3 x4 x5 x6 ∧ seps (A x1 x2 x3 x4 x5 x6) h
def exP7 {X1 X2 X3 X4 X5 X6 X7 : Type} (p : X1 → X2 → X3 → X4 → X5 → X6 → X7 → Prop) (A : X1 → X2 → X3 → X4 → X5 → X6 → X7 → List HProp) : HProp := fun h => ∃ x1 x2 x3 x4 x5 x6 x7, p x1 x2 x3 x4 x5 x6 x7 ∧ seps (A x1 x2 x3 x4 x5 x6 x7) h
def exP8 {X1 X2 X3 X4 X5 X6 X7 X8 : Type} (p : X1 → X2 → X3 → X4 → X5 → X6 → X7 → X8 → Prop) (A : X1 → X2 → X3 → X4 → X5 → X6 → X7 → X8 → List HProp) : HProp := fun h => ∃ x1 x2 x3 x4 x5 x6 x7 x8, p x1 x2 x3 x4 x5 x6 x7 x8 ∧ seps (A x1 x2 x3 x4 x5 x6 x7 x8) h
def exP9 {X1 X2 X3 X4 X5 X6 X7 X8 X9 : Type} (p : X1 → X2 → X3 → X4 → X5 → X6 → X7 → X8 → X9 → Prop) (A : X1 → X2 → X3 → X4 → X5 → X6 → X7 → X8 → X9 → List HProp) : HProp := fun h => ∃ x1 x2 x3 x4 x5 x6 x7 x8 x9, p x1 x2 x3 x4 x5 x6 x7 x8 x9 ∧ seps (A x1 x2 x3 x4 x5 x6 x7 x8 x9) h
def exP10 {X1 X2 X3 X4 X5 X6 X7 X8 X9 X10 : Type} (p : X1 → X2 → X3 → X4 → X5 → X6 → X7 → X8 → X9 → X10 → Prop) (A : X1 → X2 → X3 → X4 → X5 → X6 → X7 → X8 → X9 → X10 → List HProp) : HProp := fun h => ∃ x1 x2 x3 x4 x5 x6 x7 x8 x9 x10, p x1 x2 x3 x4 x5 x6 x7 x8 x9 x10 ∧ seps (A x1 x2 x3 x4 x5 x6 x7 x8 x9 x10) h
def exP11 {X1 X2 X3 X4 X5 X6 X7 X8 X9 X10 X11 : Type} (p : X1 → X2 → X3 → X4 → X5 → X6 → X7 → X8 → X9 → X10 → X11 → Prop) (A : X1 → X2 → X3 → X4 → X5 → X6 → X7 → X8 → X9 → X10 → X11 → List HProp) : HProp := fun h => ∃ x1 x2 x3 x4 x5 x6 x7 x8 x9 x10 x11, p x1 x2 x3 x4 x5 x6 x7 x8 x9 x10 x11 ∧ seps (A x1 x2 x3 x4 x5 x6 x7 x8 x9 x10 x11) h
def exP12 {X1 X2 X3 X4 X5 X6 X7 X8 X9 X10 X11 X12 : Type} (p : X1 → X2 → X3 → X4 → X5 → X6 → X7 → X8 → X9 → X10 → X11 → X12 → Prop) (A : X1 → X2 → X3 → X4 → X5 → X6 → X7 → X8 → X9 → X10 → X11 → X12 → List HProp) : HProp := fun h => ∃ x1 x2 x3 x4 x5 x6 x7 x8 x9 x10 x11 x12, p x1 x2 x3 x4 x5 x6 x7 x8 x9 x10 x11 x12 ∧ seps (A x1 x2 x3 x4 x5 x6 x7 x8 x9 x10 x11 x12) h

/-- What there is gives these things, and the rest. -/
inductive Ent : List HProp → List HProp → List HProp → Prop where
  | nil {H : List HProp} : Ent H [] H
  | cons {H R R' : List HProp} {A : HProp} {As : List HProp} (h : Take H A R) (t : Ent R As R') : Ent H (A :: As) R'
  /-- a thing seen otherwise -/
  | conv {A B : HProp} {H R As : List HProp} (c : ∀ h, A h → B h) (t : Ent H (A :: As) R) : Ent H (B :: As) R
  | grp {H R R' Bs As : List HProp} (t1 : Ent H Bs R) (t2 : Ent R As R') : Ent H (seps Bs :: As) R'
  | f1 {X1 : Type} {p : X1 → Prop} {A : X1 → List HProp} {C : HProp} {H R R' As : List HProp} (e : C = exP1 p A) (x1 : X1) (t1 : Ent H (A x1) R) (t2 : Ent R As R') (hp : p x1) : Ent H (C :: As) R'
  | f2 {X1 X2 : Type} {p : X1 → X2 → Prop} {A : X1 → X2 → List HProp} {C : HProp} {H R R' As : List HProp} (e : C = exP2 p A) (x1 : X1) (x2 : X2) (t1 : Ent H (A x1 x2) R) (t2 : Ent R As R') (hp : p x1 x2) : Ent H (C :: As) R'
  | f3 {X1 X2 X3 : Type} {p : X1 → X2 → X3 → Prop} {A : X1 → X2 → X3 → List HProp} {C : HProp} {H R R' As : List HProp} (e : C = exP3 p A) (x1 : X1) (x2 : X2) (x3 : X3) (t1 : Ent H (A x1 x2 x3) R) (t2 : Ent R As R') (hp : p x1 x2 x3) : Ent H (C :: As) R'
  | f4 {X1 X2 X3 X4 : Type} {p : X1 → X2 → X3 → X4 → Prop} {A : X1 → X2 → X3 → X4 → List HProp} {C : HProp} {H R R' As : List HProp} (e : C = exP4 p A) (x1 : X1) (x2 : X2) (x3 : X3) (x4 : X4) (t1 : Ent H (A x1 x2 x3 x4) R) (t2 : Ent R As R') (hp : p x1 x2 x3 x4) : Ent H (C :: As) R'
  | f5 {X1 X2 X3 X4 X5 : Type} {p : X1 → X2 → X3 → X4 → X5 → Prop} {A : X1 → X2 → X3 → X4 → X5 → List HProp} {C : HProp} {H R R' As : List HProp} (e : C = exP5 p A) (x1 : X1) (x2 : X2) (x3 : X3) (x4 : X4) (x5 : X5) (t1 : Ent H (A x1 x2 x3 x4 x5) R) (t2 : Ent R As R') (hp : p x1 x2 x3 x4 x5) : Ent H (C :: As) R'
  | f6 {X1 X2 X3 X4 X5 X6 : Type} {p : X1 → X2 → X3 → X4 → X5 → X6 → Prop} {A : X1 → X2 → X3 → X4 → X5 → X6 → List HProp} {C : HProp} {H R R' As : List HProp} (e : C = exP6 p A) (x1 : X1) (x2 : X2) (x3 : X3) (x4 : X4) (x5 : X5) (x6 : X6) (t1 : Ent H (A x1 x2 x3 x4 x5 x6) R) (t2 : Ent R As R') (hp : p x1 x2 x3 x4 x5 x6) : Ent H (C :: As) R'
  | f7 {X1 X2 X3 X4 X5 X6 X7 : Type} {p : X1 → X2 → X3 → X4 → X5 → X6 → X7 → Prop} {A : X1 → X2 → X3 → X4 → X5 → X6 → X7 → List HProp} {C : HProp} {H R R' As : List HProp} (e : C = exP7 p A) (x1 : X1) (x2 : X2) (x3 : X3) (x4 : X4) (x5 : X5) (x6 : X6) (x7 : X7) (t1 : Ent H (A x1 x2 x3 x4 x5 x6 x7) R) (t2 : Ent R As R') (hp : p x1 x2 x3 x4 x5 x6 x7) : Ent H (C :: As) R'
  | f8 {X1 X2 X3 X4 X5 X6 X7 X8 : Type} {p : X1 → X2 → X3 → X4 → X5 → X6 → X7 → X8 → Prop} {A : X1 → X2 → X3 → X4 → X5 → X6 → X7 → X8 → List HProp} {C : HProp} {H R R' As : List HProp} (e : C = exP8 p A) (x1 : X1) (x2 : X2) (x3 : X3) (x4 : X4) (x5 : X5) (x6 : X6) (x7 : X7) (x8 : X8) (t1 : Ent H (A x1 x2 x3 x4 x5 x6 x7 x8) R) (t2 : Ent R As R') (hp : p x1 x2 x3 x4 x5 x6 x7 x8) : Ent H (C :: As) R'
  | f9 {X1 X2 X3 X4 X5 X6 X7 X8 X9 : Type} {p : X1 → X2 → X3 → X4 → X5 → X6 → X7 → X8 → X9 → Prop} {A : X1 → X2 → X3 → X4 → X5 → X6 → X7 → X8 → X9 → List HProp} {C : HProp} {H R R' As : List HProp} (e : C = exP9 p A) (x1 : X1) (x2 : X2) (x3 : X3) (x4 : X4) (x5 : X5) (x6 : X6) (x7 : X7) (x8 : X8) (x9 : X9) (t1 : Ent H (A x1 x2 x3 x4 x5 x6 x7 x8 x9) R) (t2 : Ent R As R') (hp : p x1 x2 x3 x4 x5 x6 x7 x8 x9) : Ent H (C :: As) R'
  | f10 {X1 X2 X3 X4 X5 X6 X7 X8 X9 X10 : Type} {p : X1 → X2 → X3 → X4 → X5 → X6 → X7 → X8 → X9 → X10 → Prop} {A : X1 → X2 → X3 → X4 → X5 → X6 → X7 → X8 → X9 → X10 → List HProp} {C : HProp} {H R R' As : List HProp} (e : C = exP10 p A) (x1 : X1) (x2 : X2) (x3 : X3) (x4 : X4) (x5 : X5) (x6 : X6) (x7 : X7) (x8 : X8) (x9 : X9) (x10 : X10) (t1 : Ent H (A x1 x2 x3 x4 x5 x6 x7 x8 x9 x10) R) (t2 : Ent R As R') (hp : p x1 x2 x3 x4 x5 x6 x7 x8 x9 x10) : Ent H (C :: As) R'
  | f11 {X1 X2 X3 X4 X5 X6 X7 X8 X9 X10 X11 : Type} {p : X1 → X2 → X3 → X4 → X5 → X6 → X7 → X8 → X9 → X10 → X11 → Prop} {A : X1 → X2 → X3 → X4 → X5 → X6 → X7 → X8 → X9 → X10 → X11 → List HProp} {C : HProp} {H R R' As : List HProp} (e : C = exP11 p A) (x1 : X1) (x2 : X2) (x3 : X3) (x4 : X4) (x5 : X5) (x6 : X6) (x7 : X7) (x8 : X8) (x9 : X9) (x10 : X10) (x11 : X11) (t1 : Ent H (A x1 x2 x3 x4 x5 x6 x7 x8 x9 x10 x11) R) (t2 : Ent R As R') (hp : p x1 x2 x3 x4 x5 x6 x7 x8 x9 x10 x11) : Ent H (C :: As) R'
  | f12 {X1 X2 X3 X4 X5 X6 X7 X8 X9 X10 X11 X12 : Type} {p : X1 → X2 → X3 → X4 → X5 → X6 → X7 → X8 → X9 → X10 → X11 → X12 → Prop} {A : X1 → X2 → X3 → X4 → X5 → X6 → X7 → X8 → X9 → X10 → X11 → X12 → List HProp} {C : HProp} {H R R' As : List HProp} (e : C = exP12 p A) (x1 : X1) (x2 : X2) (x3 : X3) (x4 : X4) (x5 : X5) (x6 : X6) (x7 : X7) (x8 : X8) (x9 : X9) (x10 : X10) (x11 : X11) (x12 : X12) (t1 : Ent H (A x1 x2 x3 x4 x5 x6 x7 x8 x9 x10 x11 x12) R) (t2 : Ent R As R') (hp : p x1 x2 x3 x4 x5 x6 x7 x8 x9 x10 x11 x12) : Ent H (C :: As) R'

theorem fold_of {B C D E F : HProp} {h : Heap} (a : sep B C h) (f : ∀ h, B h → D h) (g : ∀ h, C h → sep E F h) : sep (sep D E) F h := by
  rw [sep_assoc]
  exact sep_mono f g h a

theorem Ent.ok {H As R : List HProp} (t : Ent H As R) : ∀ h, seps H h → sep (seps As) (seps R) h := by
  induction t with
  | nil => intro h a; simp only [seps, emp_sep]; exact a
  | cons t _ ih => intro h a; rw [t.seps] at a; exact fold_of a (fun _ h => h) ih
  | conv c _ ih => intro h a; exact sep_mono (sep_mono c (fun _ h => h)) (fun _ h => h) h (ih h a)
  | grp _ _ i1 i2 => intro h a; exact fold_of (i1 h a) (fun _ h => h) i2
  | f1 e x1 _ _ hp i1 i2 => intro h a; subst e; exact fold_of (i1 h a) (fun _ h => ⟨x1, hp, h⟩) i2
  | f2 e x1 x2 _ _ hp i1 i2 => intro h a; subst e; exact fold_of (i1 h a) (fun _ h => ⟨x1, x2, hp, h⟩) i2
  | f3 e x1 x2 x3 _ _ hp i1 i2 => intro h a; subst e; exact fold_of (i1 h a) (fun _ h => ⟨x1, x2, x3, hp, h⟩) i2
  | f4 e x1 x2 x3 x4 _ _ hp i1 i2 => intro h a; subst e; exact fold_of (i1 h a) (fun _ h => ⟨x1, x2, x3, x4, hp, h⟩) i2
  | f5 e x1 x2 x3 x4 x5 _ _ hp i1 i2 => intro h a; subst e; exact fold_of (i1 h a) (fun _ h => ⟨x1, x2, x3, x4, x5, hp, h⟩) i2
  | f6 e x1 x2 x3 x4 x5 x6 _ _ hp i1 i2 => intro h a; subst e; exact fold_of (i1 h a) (fun _ h => ⟨x1, x2, x3, x4, x5, x6, hp, h⟩) i2
  | f7 e x1 x2 x3 x4 x5 x6 x7 _ _ hp i1 i2 => intro h a; subst e; exact fold_of (i1 h a) (fun _ h => ⟨x1, x2, x3, x4, x5, x6, x7, hp, h⟩) i2
  | f8 e x1 x2 x3 x4 x5 x6 x7 x8 _ _ hp i1 i2 => intro h a; subst e; exact fold_of (i1 h a) (fun _ h => ⟨x1, x2, x3, x4, x5, x6, x7, x8, hp, h⟩) i2
  | f9 e x1 x2 x3 x4 x5 x6 x7 x8 x9 _ _ hp i1 i2 => intro h a; subst e; exact fold_of (i1 h a) (fun _ h => ⟨x1, x2, x3, x4, x5, x6, x7, x8, x9, hp, h⟩) i2
  | f10 e x1 x2 x3 x4 x5 x6 x7 x8 x9 x10 _ _ hp i1 i2 => intro h a; subst e; exact fold_of (i1 h a) (fun _ h => ⟨x1, x2, x3, x4, x5, x6, x7, x8, x9, x10, hp, h⟩) i2
  | f11 e x1 x2 x3 x4 x5 x6 x7 x8 x9 x10 x11 _ _ hp i1 i2 => intro h a; subst e; exact fold_of (i1 h a) (fun _ h => ⟨x1, x2, x3, x4, x5, x6, x7, x8, x9, x10, x11, hp, h⟩) i2
  | f12 e x1 x2 x3 x4 x5 x6 x7 x8 x9 x10 x11 x12 _ _ hp i1 i2 => intro h a; subst e; exact fold_of (i1 h a) (fun _ h => ⟨x1, x2, x3, x4, x5, x6, x7, x8, x9, x10, x11, x12, hp, h⟩) i2

theorem Takes.all (pre R : List HProp) : Takes (pre ++ R) pre R := by
  induction pre with
  | nil => exact .nil
  | cons A r ih => exact .cons .here ih
section
variable {P : Program} {W : World} {N : Nat} {Q : Exit → Act → World → Prop} {L : List (Nat × Option Value)} {H R K : List HProp} {O : Array Oper} {T : TypeId} {ks : List Nat} {ops : List Oper} {C : HProp} {X1 X2 X3 X4 X5 X6 X7 X8 X9 X10 X11 X12 : Type}

theorem Ent.sat {w : World} {As : List HProp} (t : Ent H As R) (s : Sat W w (seps H)) : Sat W w (seps (As ++ R)) := by
  rw [seps_append]; exact s.mono t.ok
/-- What is kept, or handed on: a part of what there is. -/
theorem Ent.kept {As : List HProp} (t : Ent H As R) : ∀ w, Sat W w (seps H) → Sat W w (seps As) := fun w s => by
  have := t.sat s
  rw [seps_append] at this
  exact this.left
theorem finE {w : World} {A : List HProp} {F : HProp} {R : List HProp} (t : Ent H (A ++ [F]) R) (s : Sat W w (seps H)) : Sat W w (sep (seps A) F) := by
  have := t.kept w s
  rw [seps_append] at this
  exact this.eq (by simp only [seps, sep_emp])

theorem Does.callE {f : FuncId} {xs : Array Operand} {ts : Array TypeId} {pos : String} {after : Array Edge} {guard : Option (Nat × Bool)} {d : Nat} {args : List Value} {pre R : List HProp} {X : Type} {val : X → Value} {fact : X → Prop} {post : X → List HProp} (hN : Nat.blt d N = true)
    (hc : ∀ args w, (callFunc f args).run P w = .ok (.enter f args) w) (hx : evs L xs.toList = some args) (hfn : Fn P W f args pre X val fact post) (ht : Ent H pre R) :
    Does P W N ⟨some d, .call ⟨.value (.func f), xs, ts⟩, T, pos, after, guard⟩ L H (fun L1 H1 => ∃ x, fact x ∧ L1 = (d, some (val x)) :: L ∧ H1 = post x ++ R) := fun a w ha hs =>
  Does.call (H := pre ++ R) hN hc hx hfn (Takes.all pre R) a w ha (ht.sat hs)
theorem Does.call_E {f : FuncId} {xs : Array Operand} {ts : Array TypeId} {pos : String} {after : Array Edge} {guard : Option (Nat × Bool)} {args : List Value} {pre R : List HProp} {X : Type} {val : X → Value} {fact : X → Prop} {post : X → List HProp}
    (hc : ∀ args w, (callFunc f args).run P w = .ok (.enter f args) w) (hx : evs L xs.toList = some args) (hfn : Fn P W f args pre X val fact post) (ht : Ent H pre R) :
    Does P W N ⟨none, .call ⟨.value (.func f), xs, ts⟩, T, pos, after, guard⟩ L H (fun L1 H1 => ∃ x, fact x ∧ L1 = L ∧ H1 = post x ++ R) := fun a w ha hs =>
  Does.call_ (H := pre ++ R) hc hx hfn (Takes.all pre R) a w ha (ht.sat hs)
theorem Does.callvE {f : FuncId} {g : Operand} {us cap : List Value} {xs : Array Operand} {ts : Array TypeId} {pos : String} {after : Array Edge} {guard : Option (Nat × Bool)} {d : Nat} {args : List Value} {pre R : List HProp} {X : Type} {val : X → Value} {fact : X → Prop} {post : X → List HProp} (hN : Nat.blt d N = true)
    (hg : ev L g = some (.func (.func f) us.toArray cap.toArray)) (hc : ∀ args w, (callFunc f args).run P w = .ok (.enter f args) w) (hx : evs L xs.toList = some args) (hfn : Fn P W f (us ++ args ++ cap) pre X val fact post) (ht : Ent H pre R) :
    Does P W N ⟨some d, .call ⟨.value g, xs, ts⟩, T, pos, after, guard⟩ L H (fun L1 H1 => ∃ x, fact x ∧ L1 = (d, some (val x)) :: L ∧ H1 = post x ++ R) := fun a w ha hs =>
  Does.callv (H := pre ++ R) hN hg hc hx hfn (Takes.all pre R) a w ha (ht.sat hs)

theorem GoC.ent {c : Code} {As : List HProp} (t : Ent H As R) (k : GoC P W N Q c L (As ++ R)) : GoC P W N Q c L H := fun a w ha hs => k a w ha (t.sat hs)
theorem GoC.ungrp {c : Code} {As : List HProp} (t : Take H (seps As) R) (k : GoC P W N Q c L (As ++ R)) : GoC P W N Q c L H := fun a w ha hs => k a w ha (by rw [seps_append, ← t.seps]; exact hs)
theorem GoC.o1 {c : Code} {p : X1 → Prop} {A : X1 → List HProp} (t : Take H C R) (e : C = exP1 p A) (k : ∀ x1, p x1 → GoC P W N Q c L (A x1 ++ R)) : GoC P W N Q c L H := fun a w ha hs => by
  rw [t.seps] at hs
  subst e
  obtain ⟨h, ⟨h1, h2, ⟨x1, hp, a1⟩, r, d, e'⟩, hin⟩ := hs.own
  exact k x1 hp a w ha (by rw [seps_append]; exact { hs with own := ⟨h, ⟨h1, h2, a1, r, d, e'⟩, hin⟩ })
theorem GoC.o2 {c : Code} {p : X1 → X2 → Prop} {A : X1 → X2 → List HProp} (t : Take H C R) (e : C = exP2 p A) (k : ∀ x1 x2, p x1 x2 → GoC P W N Q c L (A x1 x2 ++ R)) : GoC P W N Q c L H := fun a w ha hs => by
  rw [t.seps] at hs
  subst e
  obtain ⟨h, ⟨h1, h2, ⟨x1, x2, hp, a1⟩, r, d, e'⟩, hin⟩ := hs.own
  exact k x1 x2 hp a w ha (by rw [seps_append]; exact { hs with own := ⟨h, ⟨h1, h2, a1, r, d, e'⟩, hin⟩ })
theorem GoC.o3 {c : Code} {p : X1 → X2 → X3 → Prop} {A : X1 → X2 → X3 → List HProp} (t : Take H C R) (e : C = exP3 p A) (k : ∀ x1 x2 x3, p x1 x2 x3 → GoC P W N Q c L (A x1 x2 x3 ++ R)) : GoC P W N Q c L H := fun a w ha hs => by
  rw [t.seps] at hs
  subst e
  obtain ⟨h, ⟨h1, h2, ⟨x1, x2, x3, hp, a1⟩, r, d, e'⟩, hin⟩ := hs.own
  exact k x1 x2 x3 hp a w ha (by rw [seps_append]; exact { hs with own := ⟨h, ⟨h1, h2, a1, r, d, e'⟩, hin⟩ })
theorem GoC.o4 {c : Code} {p : X1 → X2 → X3 → X4 → Prop} {A : X1 → X2 → X3 → X4 → List HProp} (t : Take H C R) (e : C = exP4 p A) (k : ∀ x1 x2 x3 x4, p x1 x2 x3 x4 → GoC P W N Q c L (A x1 x2 x3 x4 ++ R)) : GoC P W N Q c L H := fun a w ha hs => by
  rw [t.seps] at hs
  subst e
  obtain ⟨h, ⟨h1, h2, ⟨x1, x2, x3, x4, hp, a1⟩, r, d, e'⟩, hin⟩ := hs.own
  exact k x1 x2 x3 x4 hp a w ha (by rw [seps_append]; exact { hs with own := ⟨h, ⟨h1, h2, a1, r, d, e'⟩, hin⟩ })
theorem GoC.o5 {c : Code} {p : X1 → X2 → X3 → X4 → X5 → Prop} {A : X1 → X2 → X3 → X4 → X5 → List HProp} (t : Take H C R) (e : C = exP5 p A) (k : ∀ x1 x2 x3 x4 x5, p x1 x2 x3 x4 x5 → GoC P W N Q c L (A x1 x2 x3 x4 x5 ++ R)) : GoC P W N Q c L H := fun a w ha hs => by
  rw [t.seps] at hs
  subst e
  obtain ⟨h, ⟨h1, h2, ⟨x1, x2, x3, x4, x5, hp, a1⟩, r, d, e'⟩, hin⟩ := hs.own
  exact k x1 x2 x3 x4 x5 hp a w ha (by rw [seps_append]; exact { hs with own := ⟨h, ⟨h1, h2, a1, r, d, e'⟩, hin⟩ })
theorem GoC.o6 {c : Code} {p : X1 → X2 → X3 → X4 → X5 → X6 → Prop} {A : X1 → X2 → X3 → X4 → X5 → X6 → List HProp} (t : Take H C R) (e : C = exP6 p A) (k : ∀ x1 x2 x3 x4 x5 x6, p x1 x2 x3 x4 x5 x6 → GoC P W N Q c L (A x1 x2 x3 x4 x5 x6 ++ R)) : GoC P W N Q c L H := fun a w ha hs => by
  rw [t.seps] at hs
  subst e
  obtain ⟨h, ⟨h1, h2, ⟨x1, x2, x3, x4, x5, x6, hp, a1⟩, r, d, e'⟩, hin⟩ := hs.own
  exact k x1 x2 x3 x4 x5 x6 hp a w ha (by rw [seps_append]; exact { hs with own := ⟨h, ⟨h1, h2, a1, r, d, e'⟩, hin⟩ })
theorem GoC.o7 {c : Code} {p : X1 → X2 → X3 → X4 → X5 → X6 → X7 → Prop} {A : X1 → X2 → X3 → X4 → X5 → X6 → X7 → List HProp} (t : Take H C R) (e : C = exP7 p A) (k : ∀ x1 x2 x3 x4 x5 x6 x7, p x1 x2 x3 x4 x5 x6 x7 → GoC P W N Q c L (A x1 x2 x3 x4 x5 x6 x7 ++ R)) : GoC P W N Q c L H := fun a w ha hs => by
  rw [t.seps] at hs
  subst e
  obtain ⟨h, ⟨h1, h2, ⟨x1, x2, x3, x4, x5, x6, x7, hp, a1⟩, r, d, e'⟩, hin⟩ := hs.own
  exact k x1 x2 x3 x4 x5 x6 x7 hp a w ha (by rw [seps_append]; exact { hs with own := ⟨h, ⟨h1, h2, a1, r, d, e'⟩, hin⟩ })
theorem GoC.o8 {c : Code} {p : X1 → X2 → X3 → X4 → X5 → X6 → X7 → X8 → Prop} {A : X1 → X2 → X3 → X4 → X5 → X6 → X7 → X8 → List HProp} (t : Take H C R) (e : C = exP8 p A) (k : ∀ x1 x2 x3 x4 x5 x6 x7 x8, p x1 x2 x3 x4 x5 x6 x7 x8 → GoC P W N Q c L (A x1 x2 x3 x4 x5 x6 x7 x8 ++ R)) : GoC P W N Q c L H := fun a w ha hs => by
  rw [t.seps] at hs
  subst e
  obtain ⟨h, ⟨h1, h2, ⟨x1, x2, x3, x4, x5, x6, x7, x8, hp, a1⟩, r, d, e'⟩, hin⟩ := hs.own
  exact k x1 x2 x3 x4 x5 x6 x7 x8 hp a w ha (by rw [seps_append]; exact { hs with own := ⟨h, ⟨h1, h2, a1, r, d, e'⟩, hin⟩ })
theorem GoC.o9 {c : Code} {p : X1 → X2 → X3 → X4 → X5 → X6 → X7 → X8 → X9 → Prop} {A : X1 → X2 → X3 → X4 → X5 → X6 → X7 → X8 → X9 → List HProp} (t : Take H C R) (e : C = exP9 p A) (k : ∀ x1 x2 x3 x4 x5 x6 x7 x8 x9, p x1 x2 x3 x4 x5 x6 x7 x8 x9 → GoC P W N Q c L (A x1 x2 x3 x4 x5 x6 x7 x8 x9 ++ R)) : GoC P W N Q c L H := fun a w ha hs => by
  rw [t.seps] at hs
  subst e
  obtain ⟨h, ⟨h1, h2, ⟨x1, x2, x3, x4, x5, x6, x7, x8, x9, hp, a1⟩, r, d, e'⟩, hin⟩ := hs.own
  exact k x1 x2 x3 x4 x5 x6 x7 x8 x9 hp a w ha (by rw [seps_append]; exact { hs with own := ⟨h, ⟨h1, h2, a1, r, d, e'⟩, hin⟩ })
theorem GoC.o10 {c : Code} {p : X1 → X2 → X3 → X4 → X5 → X6 → X7 → X8 → X9 → X10 → Prop} {A : X1 → X2 → X3 → X4 → X5 → X6 → X7 → X8 → X9 → X10 → List HProp} (t : Take H C R) (e : C = exP10 p A) (k : ∀ x1 x2 x3 x4 x5 x6 x7 x8 x9 x10, p x1 x2 x3 x4 x5 x6 x7 x8 x9 x10 → GoC P W N Q c L (A x1 x2 x3 x4 x5 x6 x7 x8 x9 x10 ++ R)) : GoC P W N Q c L H := fun a w ha hs => by
  rw [t.seps] at hs
  subst e
  obtain ⟨h, ⟨h1, h2, ⟨x1, x2, x3, x4, x5, x6, x7, x8, x9, x10, hp, a1⟩, r, d, e'⟩, hin⟩ := hs.own
  exact k x1 x2 x3 x4 x5 x6 x7 x8 x9 x10 hp a w ha (by rw [seps_append]; exact { hs with own := ⟨h, ⟨h1, h2, a1, r, d, e'⟩, hin⟩ })
theorem GoC.o11 {c : Code} {p : X1 → X2 → X3 → X4 → X5 → X6 → X7 → X8 → X9 → X10 → X11 → Prop} {A : X1 → X2 → X3 → X4 → X5 → X6 → X7 → X8 → X9 → X10 → X11 → List HProp} (t : Take H C R) (e : C = exP11 p A) (k : ∀ x1 x2 x3 x4 x5 x6 x7 x8 x9 x10 x11, p x1 x2 x3 x4 x5 x6 x7 x8 x9 x10 x11 → GoC P W N Q c L (A x1 x2 x3 x4 x5 x6 x7 x8 x9 x10 x11 ++ R)) : GoC P W N Q c L H := fun a w ha hs => by
  rw [t.seps] at hs
  subst e
  obtain ⟨h, ⟨h1, h2, ⟨x1, x2, x3, x4, x5, x6, x7, x8, x9, x10, x11, hp, a1⟩, r, d, e'⟩, hin⟩ := hs.own
  exact k x1 x2 x3 x4 x5 x6 x7 x8 x9 x10 x11 hp a w ha (by rw [seps_append]; exact { hs with own := ⟨h, ⟨h1, h2, a1, r, d, e'⟩, hin⟩ })
theorem GoC.o12 {c : Code} {p : X1 → X2 → X3 → X4 → X5 → X6 → X7 → X8 → X9 → X10 → X11 → X12 → Prop} {A : X1 → X2 → X3 → X4 → X5 → X6 → X7 → X8 → X9 → X10 → X11 → X12 → List HProp} (t : Take H C R) (e : C = exP12 p A) (k : ∀ x1 x2 x3 x4 x5 x6 x7 x8 x9 x10 x11 x12, p x1 x2 x3 x4 x5 x6 x7 x8 x9 x10 x11 x12 → GoC P W N Q c L (A x1 x2 x3 x4 x5 x6 x7 x8 x9 x10 x11 x12 ++ R)) : GoC P W N Q c L H := fun a w ha hs => by
  rw [t.seps] at hs
  subst e
  obtain ⟨h, ⟨h1, h2, ⟨x1, x2, x3, x4, x5, x6, x7, x8, x9, x10, x11, x12, hp, a1⟩, r, d, e'⟩, hin⟩ := hs.own
  exact k x1 x2 x3 x4 x5 x6 x7 x8 x9 x10 x11 x12 hp a w ha (by rw [seps_append]; exact { hs with own := ⟨h, ⟨h1, h2, a1, r, d, e'⟩, hin⟩ })
theorem GoL.ent {As : List HProp} (t : Ent H As R) (k : GoL P W N O Q ops L (As ++ R)) : GoL P W N O Q ops L H := fun a w ha hs => k a w ha (t.sat hs)
theorem GoL.ungrp {As : List HProp} (t : Take H (seps As) R) (k : GoL P W N O Q ops L (As ++ R)) : GoL P W N O Q ops L H := fun a w ha hs => k a w ha (by rw [seps_append, ← t.seps]; exact hs)
theorem GoL.o1 {p : X1 → Prop} {A : X1 → List HProp} (t : Take H C R) (e : C = exP1 p A) (k : ∀ x1, p x1 → GoL P W N O Q ops L (A x1 ++ R)) : GoL P W N O Q ops L H := fun a w ha hs => by
  rw [t.seps] at hs
  subst e
  obtain ⟨h, ⟨h1, h2, ⟨x1, hp, a1⟩, r, d, e'⟩, hin⟩ := hs.own
  exact k x1 hp a w ha (by rw [seps_append]; exact { hs with own := ⟨h, ⟨h1, h2, a1, r, d, e'⟩, hin⟩ })
theorem GoL.o2 {p : X1 → X2 → Prop} {A : X1 → X2 → List HProp} (t : Take H C R) (e : C = exP2 p A) (k : ∀ x1 x2, p x1 x2 → GoL P W N O Q ops L (A x1 x2 ++ R)) : GoL P W N O Q ops L H := fun a w ha hs => by
  rw [t.seps] at hs
  subst e
  obtain ⟨h, ⟨h1, h2, ⟨x1, x2, hp, a1⟩, r, d, e'⟩, hin⟩ := hs.own
  exact k x1 x2 hp a w ha (by rw [seps_append]; exact { hs with own := ⟨h, ⟨h1, h2, a1, r, d, e'⟩, hin⟩ })
theorem GoL.o3 {p : X1 → X2 → X3 → Prop} {A : X1 → X2 → X3 → List HProp} (t : Take H C R) (e : C = exP3 p A) (k : ∀ x1 x2 x3, p x1 x2 x3 → GoL P W N O Q ops L (A x1 x2 x3 ++ R)) : GoL P W N O Q ops L H := fun a w ha hs => by
  rw [t.seps] at hs
  subst e
  obtain ⟨h, ⟨h1, h2, ⟨x1, x2, x3, hp, a1⟩, r, d, e'⟩, hin⟩ := hs.own
  exact k x1 x2 x3 hp a w ha (by rw [seps_append]; exact { hs with own := ⟨h, ⟨h1, h2, a1, r, d, e'⟩, hin⟩ })
theorem GoL.o4 {p : X1 → X2 → X3 → X4 → Prop} {A : X1 → X2 → X3 → X4 → List HProp} (t : Take H C R) (e : C = exP4 p A) (k : ∀ x1 x2 x3 x4, p x1 x2 x3 x4 → GoL P W N O Q ops L (A x1 x2 x3 x4 ++ R)) : GoL P W N O Q ops L H := fun a w ha hs => by
  rw [t.seps] at hs
  subst e
  obtain ⟨h, ⟨h1, h2, ⟨x1, x2, x3, x4, hp, a1⟩, r, d, e'⟩, hin⟩ := hs.own
  exact k x1 x2 x3 x4 hp a w ha (by rw [seps_append]; exact { hs with own := ⟨h, ⟨h1, h2, a1, r, d, e'⟩, hin⟩ })
theorem GoL.o5 {p : X1 → X2 → X3 → X4 → X5 → Prop} {A : X1 → X2 → X3 → X4 → X5 → List HProp} (t : Take H C R) (e : C = exP5 p A) (k : ∀ x1 x2 x3 x4 x5, p x1 x2 x3 x4 x5 → GoL P W N O Q ops L (A x1 x2 x3 x4 x5 ++ R)) : GoL P W N O Q ops L H := fun a w ha hs => by
  rw [t.seps] at hs
  subst e
  obtain ⟨h, ⟨h1, h2, ⟨x1, x2, x3, x4, x5, hp, a1⟩, r, d, e'⟩, hin⟩ := hs.own
  exact k x1 x2 x3 x4 x5 hp a w ha (by rw [seps_append]; exact { hs with own := ⟨h, ⟨h1, h2, a1, r, d, e'⟩, hin⟩ })
theorem GoL.o6 {p : X1 → X2 → X3 → X4 → X5 → X6 → Prop} {A : X1 → X2 → X3 → X4 → X5 → X6 → List HProp} (t : Take H C R) (e : C = exP6 p A) (k : ∀ x1 x2 x3 x4 x5 x6, p x1 x2 x3 x4 x5 x6 → GoL P W N O Q ops L (A x1 x2 x3 x4 x5 x6 ++ R)) : GoL P W N O Q ops L H := fun a w ha hs => by
  rw [t.seps] at hs
  subst e
  obtain ⟨h, ⟨h1, h2, ⟨x1, x2, x3, x4, x5, x6, hp, a1⟩, r, d, e'⟩, hin⟩ := hs.own
  exact k x1 x2 x3 x4 x5 x6 hp a w ha (by rw [seps_append]; exact { hs with own := ⟨h, ⟨h1, h2, a1, r, d, e'⟩, hin⟩ })
theorem GoL.o7 {p : X1 → X2 → X3 → X4 → X5 → X6 → X7 → Prop} {A : X1 → X2 → X3 → X4 → X5 → X6 → X7 → List HProp} (t : Take H C R) (e : C = exP7 p A) (k : ∀ x1 x2 x3 x4 x5 x6 x7, p x1 x2 x3 x4 x5 x6 x7 → GoL P W N O Q ops L (A x1 x2 x3 x4 x5 x6 x7 ++ R)) : GoL P W N O Q ops L H := fun a w ha hs => by
  rw [t.seps] at hs
  subst e
  obtain ⟨h, ⟨h1, h2, ⟨x1, x2, x3, x4, x5, x6, x7, hp, a1⟩, r, d, e'⟩, hin⟩ := hs.own
  exact k x1 x2 x3 x4 x5 x6 x7 hp a w ha (by rw [seps_append]; exact { hs with own := ⟨h, ⟨h1, h2, a1, r, d, e'⟩, hin⟩ })
theorem GoL.o8 {p : X1 → X2 → X3 → X4 → X5 → X6 → X7 → X8 → Prop} {A : X1 → X2 → X3 → X4 → X5 → X6 → X7 → X8 → List HProp} (t : Take H C R) (e : C = exP8 p A) (k : ∀ x1 x2 x3 x4 x5 x6 x7 x8, p x1 x2 x3 x4 x5 x6 x7 x8 → GoL P W N O Q ops L (A x1 x2 x3 x4 x5 x6 x7 x8 ++ R)) : GoL P W N O Q ops L H := fun a w ha hs => by
  rw [t.seps] at hs
  subst e
  obtain ⟨h, ⟨h1, h2, ⟨x1, x2, x3, x4, x5, x6, x7, x8, hp, a1⟩, r, d, e'⟩, hin⟩ := hs.own
  exact k x1 x2 x3 x4 x5 x6 x7 x8 hp a w ha (by rw [seps_append]; exact { hs with own := ⟨h, ⟨h1, h2, a1, r, d, e'⟩, hin⟩ })
theorem GoL.o9 {p : X1 → X2 → X3 → X4 → X5 → X6 → X7 → X8 → X9 → Prop} {A : X1 → X2 → X3 → X4 → X5 → X6 → X7 → X8 → X9 → List HProp} (t : Take H C R) (e : C = exP9 p A) (k : ∀ x1 x2 x3 x4 x5 x6 x7 x8 x9, p x1 x2 x3 x4 x5 x6 x7 x8 x9 → GoL P W N O Q ops L (A x1 x2 x3 x4 x5 x6 x7 x8 x9 ++ R)) : GoL P W N O Q ops L H := fun a w ha hs => by
  rw [t.seps] at hs
  subst e
  obtain ⟨h, ⟨h1, h2, ⟨x1, x2, x3, x4, x5, x6, x7, x8, x9, hp, a1⟩, r, d, e'⟩, hin⟩ := hs.own
  exact k x1 x2 x3 x4 x5 x6 x7 x8 x9 hp a w ha (by rw [seps_append]; exact { hs with own := ⟨h, ⟨h1, h2, a1, r, d, e'⟩, hin⟩ })
theorem GoL.o10 {p : X1 → X2 → X3 → X4 → X5 → X6 → X7 → X8 → X9 → X10 → Prop} {A : X1 → X2 → X3 → X4 → X5 → X6 → X7 → X8 → X9 → X10 → List HProp} (t : Take H C R) (e : C = exP10 p A) (k : ∀ x1 x2 x3 x4 x5 x6 x7 x8 x9 x10, p x1 x2 x3 x4 x5 x6 x7 x8 x9 x10 → GoL P W N O Q ops L (A x1 x2 x3 x4 x5 x6 x7 x8 x9 x10 ++ R)) : GoL P W N O Q ops L H := fun a w ha hs => by
  rw [t.seps] at hs
  subst e
  obtain ⟨h, ⟨h1, h2, ⟨x1, x2, x3, x4, x5, x6, x7, x8, x9, x10, hp, a1⟩, r, d, e'⟩, hin⟩ := hs.own
  exact k x1 x2 x3 x4 x5 x6 x7 x8 x9 x10 hp a w ha (by rw [seps_append]; exact { hs with own := ⟨h, ⟨h1, h2, a1, r, d, e'⟩, hin⟩ })
theorem GoL.o11 {p : X1 → X2 → X3 → X4 → X5 → X6 → X7 → X8 → X9 → X10 → X11 → Prop} {A : X1 → X2 → X3 → X4 → X5 → X6 → X7 → X8 → X9 → X10 → X11 → List HProp} (t : Take H C R) (e : C = exP11 p A) (k : ∀ x1 x2 x3 x4 x5 x6 x7 x8 x9 x10 x11, p x1 x2 x3 x4 x5 x6 x7 x8 x9 x10 x11 → GoL P W N O Q ops L (A x1 x2 x3 x4 x5 x6 x7 x8 x9 x10 x11 ++ R)) : GoL P W N O Q ops L H := fun a w ha hs => by
  rw [t.seps] at hs
  subst e
  obtain ⟨h, ⟨h1, h2, ⟨x1, x2, x3, x4, x5, x6, x7, x8, x9, x10, x11, hp, a1⟩, r, d, e'⟩, hin⟩ := hs.own
  exact k x1 x2 x3 x4 x5 x6 x7 x8 x9 x10 x11 hp a w ha (by rw [seps_append]; exact { hs with own := ⟨h, ⟨h1, h2, a1, r, d, e'⟩, hin⟩ })
theorem GoL.o12 {p : X1 → X2 → X3 → X4 → X5 → X6 → X7 → X8 → X9 → X10 → X11 → X12 → Prop} {A : X1 → X2 → X3 → X4 → X5 → X6 → X7 → X8 → X9 → X10 → X11 → X12 → List HProp} (t : Take H C R) (e : C = exP12 p A) (k : ∀ x1 x2 x3 x4 x5 x6 x7 x8 x9 x10 x11 x12, p x1 x2 x3 x4 x5 x6 x7 x8 x9 x10 x11 x12 → GoL P W N O Q ops L (A x1 x2 x3 x4 x5 x6 x7 x8 x9 x10 x11 x12 ++ R)) : GoL P W N O Q ops L H := fun a w ha hs => by
  rw [t.seps] at hs
  subst e
  obtain ⟨h, ⟨h1, h2, ⟨x1, x2, x3, x4, x5, x6, x7, x8, x9, x10, x11, x12, hp, a1⟩, r, d, e'⟩, hin⟩ := hs.own
  exact k x1 x2 x3 x4 x5 x6 x7 x8 x9 x10 x11 x12 hp a w ha (by rw [seps_append]; exact { hs with own := ⟨h, ⟨h1, h2, a1, r, d, e'⟩, hin⟩ })
theorem GoK.ent {As : List HProp} (t : Ent H As R) (k : GoK P W N K O Q ks ops L (As ++ R)) : GoK P W N K O Q ks ops L H := fun a w ha hs => k a w ha (t.sat hs)
theorem GoK.ungrp {As : List HProp} (t : Take H (seps As) R) (k : GoK P W N K O Q ks ops L (As ++ R)) : GoK P W N K O Q ks ops L H := fun a w ha hs => k a w ha (by rw [seps_append, ← t.seps]; exact hs)
theorem GoK.o1 {p : X1 → Prop} {A : X1 → List HProp} (t : Take H C R) (e : C = exP1 p A) (k : ∀ x1, p x1 → GoK P W N K O Q ks ops L (A x1 ++ R)) : GoK P W N K O Q ks ops L H := fun a w ha hs => by
  rw [t.seps] at hs
  subst e
  obtain ⟨h, ⟨h1, h2, ⟨x1, hp, a1⟩, r, d, e'⟩, hin⟩ := hs.own
  exact k x1 hp a w ha (by rw [seps_append]; exact { hs with own := ⟨h, ⟨h1, h2, a1, r, d, e'⟩, hin⟩ })
theorem GoK.o2 {p : X1 → X2 → Prop} {A : X1 → X2 → List HProp} (t : Take H C R) (e : C = exP2 p A) (k : ∀ x1 x2, p x1 x2 → GoK P W N K O Q ks ops L (A x1 x2 ++ R)) : GoK P W N K O Q ks ops L H := fun a w ha hs => by
  rw [t.seps] at hs
  subst e
  obtain ⟨h, ⟨h1, h2, ⟨x1, x2, hp, a1⟩, r, d, e'⟩, hin⟩ := hs.own
  exact k x1 x2 hp a w ha (by rw [seps_append]; exact { hs with own := ⟨h, ⟨h1, h2, a1, r, d, e'⟩, hin⟩ })
theorem GoK.o3 {p : X1 → X2 → X3 → Prop} {A : X1 → X2 → X3 → List HProp} (t : Take H C R) (e : C = exP3 p A) (k : ∀ x1 x2 x3, p x1 x2 x3 → GoK P W N K O Q ks ops L (A x1 x2 x3 ++ R)) : GoK P W N K O Q ks ops L H := fun a w ha hs => by
  rw [t.seps] at hs
  subst e
  obtain ⟨h, ⟨h1, h2, ⟨x1, x2, x3, hp, a1⟩, r, d, e'⟩, hin⟩ := hs.own
  exact k x1 x2 x3 hp a w ha (by rw [seps_append]; exact { hs with own := ⟨h, ⟨h1, h2, a1, r, d, e'⟩, hin⟩ })
theorem GoK.o4 {p : X1 → X2 → X3 → X4 → Prop} {A : X1 → X2 → X3 → X4 → List HProp} (t : Take H C R) (e : C = exP4 p A) (k : ∀ x1 x2 x3 x4, p x1 x2 x3 x4 → GoK P W N K O Q ks ops L (A x1 x2 x3 x4 ++ R)) : GoK P W N K O Q ks ops L H := fun a w ha hs => by
  rw [t.seps] at hs
  subst e
  obtain ⟨h, ⟨h1, h2, ⟨x1, x2, x3, x4, hp, a1⟩, r, d, e'⟩, hin⟩ := hs.own
  exact k x1 x2 x3 x4 hp a w ha (by rw [seps_append]; exact { hs with own := ⟨h, ⟨h1, h2, a1, r, d, e'⟩, hin⟩ })
theorem GoK.o5 {p : X1 → X2 → X3 → X4 → X5 → Prop} {A : X1 → X2 → X3 → X4 → X5 → List HProp} (t : Take H C R) (e : C = exP5 p A) (k : ∀ x1 x2 x3 x4 x5, p x1 x2 x3 x4 x5 → GoK P W N K O Q ks ops L (A x1 x2 x3 x4 x5 ++ R)) : GoK P W N K O Q ks ops L H := fun a w ha hs => by
  rw [t.seps] at hs
  subst e
  obtain ⟨h, ⟨h1, h2, ⟨x1, x2, x3, x4, x5, hp, a1⟩, r, d, e'⟩, hin⟩ := hs.own
  exact k x1 x2 x3 x4 x5 hp a w ha (by rw [seps_append]; exact { hs with own := ⟨h, ⟨h1, h2, a1, r, d, e'⟩, hin⟩ })
theorem GoK.o6 {p : X1 → X2 → X3 → X4 → X5 → X6 → Prop} {A : X1 → X2 → X3 → X4 → X5 → X6 → List HProp} (t : Take H C R) (e : C = exP6 p A) (k : ∀ x1 x2 x3 x4 x5 x6, p x1 x2 x3 x4 x5 x6 → GoK P W N K O Q ks ops L (A x1 x2 x3 x4 x5 x6 ++ R)) : GoK P W N K O Q ks ops L H := fun a w ha hs => by
  rw [t.seps] at hs
  subst e
  obtain ⟨h, ⟨h1, h2, ⟨x1, x2, x3, x4, x5, x6, hp, a1⟩, r, d, e'⟩, hin⟩ := hs.own
  exact k x1 x2 x3 x4 x5 x6 hp a w ha (by rw [seps_append]; exact { hs with own := ⟨h, ⟨h1, h2, a1, r, d, e'⟩, hin⟩ })
theorem GoK.o7 {p : X1 → X2 → X3 → X4 → X5 → X6 → X7 → Prop} {A : X1 → X2 → X3 → X4 → X5 → X6 → X7 → List HProp} (t : Take H C R) (e : C = exP7 p A) (k : ∀ x1 x2 x3 x4 x5 x6 x7, p x1 x2 x3 x4 x5 x6 x7 → GoK P W N K O Q ks ops L (A x1 x2 x3 x4 x5 x6 x7 ++ R)) : GoK P W N K O Q ks ops L H := fun a w ha hs => by
  rw [t.seps] at hs
  subst e
  obtain ⟨h, ⟨h1, h2, ⟨x1, x2, x3, x4, x5, x6, x7, hp, a1⟩, r, d, e'⟩, hin⟩ := hs.own
  exact k x1 x2 x3 x4 x5 x6 x7 hp a w ha (by rw [seps_append]; exact { hs with own := ⟨h, ⟨h1, h2, a1, r, d, e'⟩, hin⟩ })
theorem GoK.o8 {p : X1 → X2 → X3 → X4 → X5 → X6 → X7 → X8 → Prop} {A : X1 → X2 → X3 → X4 → X5 → X6 → X7 → X8 → List HProp} (t : Take H C R) (e : C = exP8 p A) (k : ∀ x1 x2 x3 x4 x5 x6 x7 x8, p x1 x2 x3 x4 x5 x6 x7 x8 → GoK P W N K O Q ks ops L (A x1 x2 x3 x4 x5 x6 x7 x8 ++ R)) : GoK P W N K O Q ks ops L H := fun a w ha hs => by
  rw [t.seps] at hs
  subst e
  obtain ⟨h, ⟨h1, h2, ⟨x1, x2, x3, x4, x5, x6, x7, x8, hp, a1⟩, r, d, e'⟩, hin⟩ := hs.own
  exact k x1 x2 x3 x4 x5 x6 x7 x8 hp a w ha (by rw [seps_append]; exact { hs with own := ⟨h, ⟨h1, h2, a1, r, d, e'⟩, hin⟩ })
theorem GoK.o9 {p : X1 → X2 → X3 → X4 → X5 → X6 → X7 → X8 → X9 → Prop} {A : X1 → X2 → X3 → X4 → X5 → X6 → X7 → X8 → X9 → List HProp} (t : Take H C R) (e : C = exP9 p A) (k : ∀ x1 x2 x3 x4 x5 x6 x7 x8 x9, p x1 x2 x3 x4 x5 x6 x7 x8 x9 → GoK P W N K O Q ks ops L (A x1 x2 x3 x4 x5 x6 x7 x8 x9 ++ R)) : GoK P W N K O Q ks ops L H := fun a w ha hs => by
  rw [t.seps] at hs
  subst e
  obtain ⟨h, ⟨h1, h2, ⟨x1, x2, x3, x4, x5, x6, x7, x8, x9, hp, a1⟩, r, d, e'⟩, hin⟩ := hs.own
  exact k x1 x2 x3 x4 x5 x6 x7 x8 x9 hp a w ha (by rw [seps_append]; exact { hs with own := ⟨h, ⟨h1, h2, a1, r, d, e'⟩, hin⟩ })
theorem GoK.o10 {p : X1 → X2 → X3 → X4 → X5 → X6 → X7 → X8 → X9 → X10 → Prop} {A : X1 → X2 → X3 → X4 → X5 → X6 → X7 → X8 → X9 → X10 → List HProp} (t : Take H C R) (e : C = exP10 p A) (k : ∀ x1 x2 x3 x4 x5 x6 x7 x8 x9 x10, p x1 x2 x3 x4 x5 x6 x7 x8 x9 x10 → GoK P W N K O Q ks ops L (A x1 x2 x3 x4 x5 x6 x7 x8 x9 x10 ++ R)) : GoK P W N K O Q ks ops L H := fun a w ha hs => by
  rw [t.seps] at hs
  subst e
  obtain ⟨h, ⟨h1, h2, ⟨x1, x2, x3, x4, x5, x6, x7, x8, x9, x10, hp, a1⟩, r, d, e'⟩, hin⟩ := hs.own
  exact k x1 x2 x3 x4 x5 x6 x7 x8 x9 x10 hp a w ha (by rw [seps_append]; exact { hs with own := ⟨h, ⟨h1, h2, a1, r, d, e'⟩, hin⟩ })
theorem GoK.o11 {p : X1 → X2 → X3 → X4 → X5 → X6 → X7 → X8 → X9 → X10 → X11 → Prop} {A : X1 → X2 → X3 → X4 → X5 → X6 → X7 → X8 → X9 → X10 → X11 → List HProp} (t : Take H C R) (e : C = exP11 p A) (k : ∀ x1 x2 x3 x4 x5 x6 x7 x8 x9 x10 x11, p x1 x2 x3 x4 x5 x6 x7 x8 x9 x10 x11 → GoK P W N K O Q ks ops L (A x1 x2 x3 x4 x5 x6 x7 x8 x9 x10 x11 ++ R)) : GoK P W N K O Q ks ops L H := fun a w ha hs => by
  rw [t.seps] at hs
  subst e
  obtain ⟨h, ⟨h1, h2, ⟨x1, x2, x3, x4, x5, x6, x7, x8, x9, x10, x11, hp, a1⟩, r, d, e'⟩, hin⟩ := hs.own
  exact k x1 x2 x3 x4 x5 x6 x7 x8 x9 x10 x11 hp a w ha (by rw [seps_append]; exact { hs with own := ⟨h, ⟨h1, h2, a1, r, d, e'⟩, hin⟩ })
theorem GoK.o12 {p : X1 → X2 → X3 → X4 → X5 → X6 → X7 → X8 → X9 → X10 → X11 → X12 → Prop} {A : X1 → X2 → X3 → X4 → X5 → X6 → X7 → X8 → X9 → X10 → X11 → X12 → List HProp} (t : Take H C R) (e : C = exP12 p A) (k : ∀ x1 x2 x3 x4 x5 x6 x7 x8 x9 x10 x11 x12, p x1 x2 x3 x4 x5 x6 x7 x8 x9 x10 x11 x12 → GoK P W N K O Q ks ops L (A x1 x2 x3 x4 x5 x6 x7 x8 x9 x10 x11 x12 ++ R)) : GoK P W N K O Q ks ops L H := fun a w ha hs => by
  rw [t.seps] at hs
  subst e
  obtain ⟨h, ⟨h1, h2, ⟨x1, x2, x3, x4, x5, x6, x7, x8, x9, x10, x11, x12, hp, a1⟩, r, d, e'⟩, hin⟩ := hs.own
  exact k x1 x2 x3 x4 x5 x6 x7 x8 x9 x10 x11 x12 hp a w ha (by rw [seps_append]; exact { hs with own := ⟨h, ⟨h1, h2, a1, r, d, e'⟩, hin⟩ })
theorem GoE.ent {en : Exit} {As : List HProp} (t : Ent H As R) (k : GoE W N Q en L (As ++ R)) : GoE W N Q en L H := fun a w ha hs => k a w ha (t.sat hs)
theorem GoE.ungrp {en : Exit} {As : List HProp} (t : Take H (seps As) R) (k : GoE W N Q en L (As ++ R)) : GoE W N Q en L H := fun a w ha hs => k a w ha (by rw [seps_append, ← t.seps]; exact hs)
theorem GoE.o1 {en : Exit} {p : X1 → Prop} {A : X1 → List HProp} (t : Take H C R) (e : C = exP1 p A) (k : ∀ x1, p x1 → GoE W N Q en L (A x1 ++ R)) : GoE W N Q en L H := fun a w ha hs => by
  rw [t.seps] at hs
  subst e
  obtain ⟨h, ⟨h1, h2, ⟨x1, hp, a1⟩, r, d, e'⟩, hin⟩ := hs.own
  exact k x1 hp a w ha (by rw [seps_append]; exact { hs with own := ⟨h, ⟨h1, h2, a1, r, d, e'⟩, hin⟩ })
theorem GoE.o2 {en : Exit} {p : X1 → X2 → Prop} {A : X1 → X2 → List HProp} (t : Take H C R) (e : C = exP2 p A) (k : ∀ x1 x2, p x1 x2 → GoE W N Q en L (A x1 x2 ++ R)) : GoE W N Q en L H := fun a w ha hs => by
  rw [t.seps] at hs
  subst e
  obtain ⟨h, ⟨h1, h2, ⟨x1, x2, hp, a1⟩, r, d, e'⟩, hin⟩ := hs.own
  exact k x1 x2 hp a w ha (by rw [seps_append]; exact { hs with own := ⟨h, ⟨h1, h2, a1, r, d, e'⟩, hin⟩ })
theorem GoE.o3 {en : Exit} {p : X1 → X2 → X3 → Prop} {A : X1 → X2 → X3 → List HProp} (t : Take H C R) (e : C = exP3 p A) (k : ∀ x1 x2 x3, p x1 x2 x3 → GoE W N Q en L (A x1 x2 x3 ++ R)) : GoE W N Q en L H := fun a w ha hs => by
  rw [t.seps] at hs
  subst e
  obtain ⟨h, ⟨h1, h2, ⟨x1, x2, x3, hp, a1⟩, r, d, e'⟩, hin⟩ := hs.own
  exact k x1 x2 x3 hp a w ha (by rw [seps_append]; exact { hs with own := ⟨h, ⟨h1, h2, a1, r, d, e'⟩, hin⟩ })
theorem GoE.o4 {en : Exit} {p : X1 → X2 → X3 → X4 → Prop} {A : X1 → X2 → X3 → X4 → List HProp} (t : Take H C R) (e : C = exP4 p A) (k : ∀ x1 x2 x3 x4, p x1 x2 x3 x4 → GoE W N Q en L (A x1 x2 x3 x4 ++ R)) : GoE W N Q en L H := fun a w ha hs => by
  rw [t.seps] at hs
  subst e
  obtain ⟨h, ⟨h1, h2, ⟨x1, x2, x3, x4, hp, a1⟩, r, d, e'⟩, hin⟩ := hs.own
  exact k x1 x2 x3 x4 hp a w ha (by rw [seps_append]; exact { hs with own := ⟨h, ⟨h1, h2, a1, r, d, e'⟩, hin⟩ })
theorem GoE.o5 {en : Exit} {p : X1 → X2 → X3 → X4 → X5 → Prop} {A : X1 → X2 → X3 → X4 → X5 → List HProp} (t : Take H C R) (e : C = exP5 p A) (k : ∀ x1 x2 x3 x4 x5, p x1 x2 x3 x4 x5 → GoE W N Q en L (A x1 x2 x3 x4 x5 ++ R)) : GoE W N Q en L H := fun a w ha hs => by
  rw [t.seps] at hs
  subst e
  obtain ⟨h, ⟨h1, h2, ⟨x1, x2, x3, x4, x5, hp, a1⟩, r, d, e'⟩, hin⟩ := hs.own
  exact k x1 x2 x3 x4 x5 hp a w ha (by rw [seps_append]; exact { hs with own := ⟨h, ⟨h1, h2, a1, r, d, e'⟩, hin⟩ })
theorem GoE.o6 {en : Exit} {p : X1 → X2 → X3 → X4 → X5 → X6 → Prop} {A : X1 → X2 → X3 → X4 → X5 → X6 → List HProp} (t : Take H C R) (e : C = exP6 p A) (k : ∀ x1 x2 x3 x4 x5 x6, p x1 x2 x3 x4 x5 x6 → GoE W N Q en L (A x1 x2 x3 x4 x5 x6 ++ R)) : GoE W N Q en L H := fun a w ha hs => by
  rw [t.seps] at hs
  subst e
  obtain ⟨h, ⟨h1, h2, ⟨x1, x2, x3, x4, x5, x6, hp, a1⟩, r, d, e'⟩, hin⟩ := hs.own
  exact k x1 x2 x3 x4 x5 x6 hp a w ha (by rw [seps_append]; exact { hs with own := ⟨h, ⟨h1, h2, a1, r, d, e'⟩, hin⟩ })
theorem GoE.o7 {en : Exit} {p : X1 → X2 → X3 → X4 → X5 → X6 → X7 → Prop} {A : X1 → X2 → X3 → X4 → X5 → X6 → X7 → List HProp} (t : Take H C R) (e : C = exP7 p A) (k : ∀ x1 x2 x3 x4 x5 x6 x7, p x1 x2 x3 x4 x5 x6 x7 → GoE W N Q en L (A x1 x2 x3 x4 x5 x6 x7 ++ R)) : GoE W N Q en L H := fun a w ha hs => by
  rw [t.seps] at hs
  subst e
  obtain ⟨h, ⟨h1, h2, ⟨x1, x2, x3, x4, x5, x6, x7, hp, a1⟩, r, d, e'⟩, hin⟩ := hs.own
  exact k x1 x2 x3 x4 x5 x6 x7 hp a w ha (by rw [seps_append]; exact { hs with own := ⟨h, ⟨h1, h2, a1, r, d, e'⟩, hin⟩ })
theorem GoE.o8 {en : Exit} {p : X1 → X2 → X3 → X4 → X5 → X6 → X7 → X8 → Prop} {A : X1 → X2 → X3 → X4 → X5 → X6 → X7 → X8 → List HProp} (t : Take H C R) (e : C = exP8 p A) (k : ∀ x1 x2 x3 x4 x5 x6 x7 x8, p x1 x2 x3 x4 x5 x6 x7 x8 → GoE W N Q en L (A x1 x2 x3 x4 x5 x6 x7 x8 ++ R)) : GoE W N Q en L H := fun a w ha hs => by
  rw [t.seps] at hs
  subst e
  obtain ⟨h, ⟨h1, h2, ⟨x1, x2, x3, x4, x5, x6, x7, x8, hp, a1⟩, r, d, e'⟩, hin⟩ := hs.own
  exact k x1 x2 x3 x4 x5 x6 x7 x8 hp a w ha (by rw [seps_append]; exact { hs with own := ⟨h, ⟨h1, h2, a1, r, d, e'⟩, hin⟩ })
theorem GoE.o9 {en : Exit} {p : X1 → X2 → X3 → X4 → X5 → X6 → X7 → X8 → X9 → Prop} {A : X1 → X2 → X3 → X4 → X5 → X6 → X7 → X8 → X9 → List HProp} (t : Take H C R) (e : C = exP9 p A) (k : ∀ x1 x2 x3 x4 x5 x6 x7 x8 x9, p x1 x2 x3 x4 x5 x6 x7 x8 x9 → GoE W N Q en L (A x1 x2 x3 x4 x5 x6 x7 x8 x9 ++ R)) : GoE W N Q en L H := fun a w ha hs => by
  rw [t.seps] at hs
  subst e
  obtain ⟨h, ⟨h1, h2, ⟨x1, x2, x3, x4, x5, x6, x7, x8, x9, hp, a1⟩, r, d, e'⟩, hin⟩ := hs.own
  exact k x1 x2 x3 x4 x5 x6 x7 x8 x9 hp a w ha (by rw [seps_append]; exact { hs with own := ⟨h, ⟨h1, h2, a1, r, d, e'⟩, hin⟩ })
theorem GoE.o10 {en : Exit} {p : X1 → X2 → X3 → X4 → X5 → X6 → X7 → X8 → X9 → X10 → Prop} {A : X1 → X2 → X3 → X4 → X5 → X6 → X7 → X8 → X9 → X10 → List HProp} (t : Take H C R) (e : C = exP10 p A) (k : ∀ x1 x2 x3 x4 x5 x6 x7 x8 x9 x10, p x1 x2 x3 x4 x5 x6 x7 x8 x9 x10 → GoE W N Q en L (A x1 x2 x3 x4 x5 x6 x7 x8 x9 x10 ++ R)) : GoE W N Q en L H := fun a w ha hs => by
  rw [t.seps] at hs
  subst e
  obtain ⟨h, ⟨h1, h2, ⟨x1, x2, x3, x4, x5, x6, x7, x8, x9, x10, hp, a1⟩, r, d, e'⟩, hin⟩ := hs.own
  exact k x1 x2 x3 x4 x5 x6 x7 x8 x9 x10 hp a w ha (by rw [seps_append]; exact { hs with own := ⟨h, ⟨h1, h2, a1, r, d, e'⟩, hin⟩ })
theorem GoE.o11 {en : Exit} {p : X1 → X2 → X3 → X4 → X5 → X6 → X7 → X8 → X9 → X10 → X11 → Prop} {A : X1 → X2 → X3 → X4 → X5 → X6 → X7 → X8 → X9 → X10 → X11 → List HProp} (t : Take H C R) (e : C = exP11 p A) (k : ∀ x1 x2 x3 x4 x5 x6 x7 x8 x9 x10 x11, p x1 x2 x3 x4 x5 x6 x7 x8 x9 x10 x11 → GoE W N Q en L (A x1 x2 x3 x4 x5 x6 x7 x8 x9 x10 x11 ++ R)) : GoE W N Q en L H := fun a w ha hs => by
  rw [t.seps] at hs
  subst e
  obtain ⟨h, ⟨h1, h2, ⟨x1, x2, x3, x4, x5, x6, x7, x8, x9, x10, x11, hp, a1⟩, r, d, e'⟩, hin⟩ := hs.own
  exact k x1 x2 x3 x4 x5 x6 x7 x8 x9 x10 x11 hp a w ha (by rw [seps_append]; exact { hs with own := ⟨h, ⟨h1, h2, a1, r, d, e'⟩, hin⟩ })
theorem GoE.o12 {en : Exit} {p : X1 → X2 → X3 → X4 → X5 → X6 → X7 → X8 → X9 → X10 → X11 → X12 → Prop} {A : X1 → X2 → X3 → X4 → X5 → X6 → X7 → X8 → X9 → X10 → X11 → X12 → List HProp} (t : Take H C R) (e : C = exP12 p A) (k : ∀ x1 x2 x3 x4 x5 x6 x7 x8 x9 x10 x11 x12, p x1 x2 x3 x4 x5 x6 x7 x8 x9 x10 x11 x12 → GoE W N Q en L (A x1 x2 x3 x4 x5 x6 x7 x8 x9 x10 x11 x12 ++ R)) : GoE W N Q en L H := fun a w ha hs => by
  rw [t.seps] at hs
  subst e
  obtain ⟨h, ⟨h1, h2, ⟨x1, x2, x3, x4, x5, x6, x7, x8, x9, x10, x11, x12, hp, a1⟩, r, d, e'⟩, hin⟩ := hs.own
  exact k x1 x2 x3 x4 x5 x6 x7 x8 x9 x10 x11 x12 hp a w ha (by rw [seps_append]; exact { hs with own := ⟨h, ⟨h1, h2, a1, r, d, e'⟩, hin⟩ })
end
end Go.SLYtkflpgknieoknaa
