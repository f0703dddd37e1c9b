/- How the layers' things lie in memory. Conditions: none, this text proves no statement. -/
import Derived.Test.YtkflpgknieoknaaSLm
import Derived.Test.YtkflpgknieoknaaK1
namespace Go.SLYtkflpgknieoknaa
open Go Go.RowKit

abbrev ptr (b : Nat) : Value := .pointer (some ⟨b, 0, none⟩)
def ptrO (o : Option Nat) : Value := .pointer (o.map fun b => ⟨b, 0, none⟩)
def valE (v : Value) : List Value := [v]
def intE (n : Int) : List Value := [.int .i64 n]
def wrdE (n : Int) : List Value := [.int .u64 n]
def insE (i : Ins) : List Value := [.int .i64 i.op, .int .i64 i.a, .int .i64 i.b, .int .i64 i.c, .int .u64 i.n]
def oneE (o : Bool × Int) : List Value := [.bool o.1, .int .u64 o.2]
def wtrE (w : Wtr) : List Value := [.int .i64 w.who, .int .i64 w.mutex]
def putE (p : Ptr) : List Value := [.int .i64 p.who, .int .u64 p.x]
def rqsE (r : Rqs) : List Value := [.int .i64 r.who, .int .i64 r.block, .bool r.write, .int .u64 r.x]
def recE (r : Rec) : List Value := [.int .u64 r.thread, .int .i64 r.op, .int .u64 r.x, .int .u64 r.y, .int .i64 r.result, .bool r.fin]
def evE (e : Ev) : List Value := [.int .i64 e.kind, .int .i64 e.thread, .int .i64 e.mode]

/-! things in a row that bear things -/
def allH {α : Type} (f : α → HProp) (xs : List α) : HProp := seps (xs.map f)
theorem allH_nil {α : Type} (f : α → HProp) : allH f [] = emp := rfl
theorem allH_cons {α : Type} (f : α → HProp) (x : α) (xs : List α) : allH f (x :: xs) = sep (f x) (allH f xs) := rfl
theorem allH_app {α : Type} (f : α → HProp) (xs ys : List α) : allH f (xs ++ ys) = sep (allH f xs) (allH f ys) := by unfold allH; rw [List.map_append, seps_append]
theorem allH_snoc {α : Type} (f : α → HProp) (xs : List α) (y : α) : allH f (xs ++ [y]) = sep (f y) (allH f xs) := by
  rw [allH_app, sep_comm]
  congr 1
  show sep (f y) emp = f y
  exact sep_emp _
theorem allH_get {α : Type} (f : α → HProp) {xs : List α} {i : Nat} {x : α} (h : xs[i]? = some x) : allH f xs = sep (f x) (allH f (xs.eraseIdx i)) := by
  induction xs generalizing i with
  | nil => simp at h
  | cons y ys ih =>
    cases i with
    | zero => simp at h; subst h; rfl
    | succ i =>
      have := ih (i := i) (by simpa using h)
      rw [allH_cons, this, List.eraseIdx_cons_succ, allH_cons, sep_left_comm]
theorem allH_set {α : Type} (f : α → HProp) {xs : List α} {i : Nat} (y : α) (h : i < xs.length) : allH f (xs.set i y) = sep (f y) (allH f (xs.eraseIdx i)) := by
  induction xs generalizing i with
  | nil => simp at h
  | cons z zs ih =>
    cases i with
    | zero => rfl
    | succ i =>
      have := ih (i := i) (by simpa using h)
      simp only [List.set_cons_succ, List.eraseIdx_cons_succ, allH_cons, this]
      exact sep_left_comm _ _ _

/-! programs -/
structure PrgV where
  fv : Value
  fs : List (Value × List Ins)
  words : Int
  mutexes : Int
  conds : Int
  sv : Value
  sems : List Int
  pv : Value
  pipes : List Int
  blocks : Int
  prio : Int
def PrgV.p (v : PrgV) : Prg := ⟨v.fs.map (·.2), v.words, v.mutexes, v.conds, v.sems, v.pipes, v.blocks, v.prio⟩
def prgE (v : PrgV) : List Value := [v.fv, .int .i64 v.words, .int .i64 v.mutexes, .int .i64 v.conds, v.sv, v.pv, .int .i64 v.blocks, .int .i64 v.prio]
def fstE {α : Type} (x : Value × α) : List Value := [x.1]
def ptrE {α : Type} (x : Nat × α) : List Value := [ptr x.1]
structure PrgRd (W : World) (H : List HProp) (v : PrgV) : Prop where
  fs : Rd W H fstE 1 v.fv v.fs
  ins : ∀ x ∈ v.fs, Rd W H insE 5 x.1 x.2
  sems : Rd W H intE 1 v.sv v.sems
  pipes : Rd W H intE 1 v.pv v.pipes

/-! a space's parts -/
def tblH (b : Nat) (l : List (Bool × Int)) : HProp := exP1 (fun _ => True) fun v => [arr b 0 [v], sl oneE 2 v l]
def rowH (b o : Nat) (l : List Wtr) : HProp := exP1 (fun _ => True) fun v => [arr b o [v], sl wtrE 2 v l]
def mtxE (x : Value × Mtx) : List Value := [x.1, .bool x.2.held, .int .i64 x.2.owner]
def smpE (x : Value × Smp) : List Value := [x.1, .int .i64 x.2.count]
def mtxsH (v : Value) (l : List Mtx) : HProp := exP1 (fun xs : List (Value × Mtx) => xs.map (·.2) = l) fun xs => [sl mtxE 3 v xs, allH (fun x => sl wtrE 2 x.1 x.2.wait) xs]
def cndsH (v : Value) (l : List (List Wtr)) : HProp := exP1 (fun xs : List (Value × List Wtr) => xs.map (·.2) = l) fun xs => [sl fstE 1 v xs, allH (fun x => sl wtrE 2 x.1 x.2) xs]
def smpsH (v : Value) (l : List Smp) : HProp := exP1 (fun xs : List (Value × Smp) => xs.map (·.2) = l) fun xs => [sl smpE 2 v xs, allH (fun x => sl wtrE 2 x.1 x.2.wait) xs]
def gatesH (b : Nat) (g : Gates) : HProp := exP3 (fun _ _ _ => True) fun vm vc vs => [arr b 0 [vm, vc, vs], mtxsH vm g.mtx, cndsH vc g.cnd, smpsH vs g.sem]
def tubH (b : Nat) (t : Tub) : HProp := exP3 (fun _ _ _ => True) fun vw vp vg => [arr b 0 [.int .i64 t.room, vw, vp, vg], sl wrdE 1 vw t.words, sl putE 2 vp t.puts, sl intE 1 vg t.gets]
def tubsH (v : Value) (l : List Tub) : HProp := exP1 (fun xs : List (Nat × Tub) => xs.map (·.2) = l) fun xs => [sl ptrE 1 v xs, allH (fun x => tubH x.1 x.2) xs]
def dskH (b : Nat) (d : Dsk) : HProp := exP2 (fun _ _ => True) fun vb vw => [arr b 0 [vb, vw], sl wrdE 1 vb d.blocks, sl rqsE 4 vw d.wait]
def codeH (v : Value) (l : List (List Ins)) : HProp := exP1 (fun xs : List (Value × List Ins) => xs.map (·.2) = l) fun xs => [sl fstE 1 v xs, allH (fun x => sl insE 5 x.1 x.2) xs]
/-- What a map of numbers holds: its entries, in the order in which they came. -/
def mapOk (es : List MapEntry) (clock : Nat) (l : List (Int × Int)) : Prop :=
  es.map (fun e => (e.key, e.val)) = l.map (fun p => (Value.int .i64 p.1, Value.int .i64 p.2)) ∧ (l.map (·.1)).Nodup ∧ (∀ e ∈ es, e.born < clock) ∧ (es.map (·.born)).Nodup
def mapH (m : Nat) (l : List (Int × Int)) : HProp := exP2 (fun (es : List MapEntry) clock => mapOk es clock l) fun es clock => [objAt m (.map es.toArray clock)]
def whlH (b : Nat) (w : Whl) : HProp := exP1 (fun _ => True) fun m => [arr b 0 [.int .i64 w.now, .map (some m)], mapH m w.till]

def thrC (t : Thr) : List Value := [.int .i64 t.fn, .int .i64 t.pc, .int .u64 (t.regs.getD 0 0), .int .u64 (t.regs.getD 1 0), .int .u64 (t.regs.getD 2 0), .int .u64 (t.regs.getD 3 0), .int .u64 (t.regs.getD 4 0), .int .u64 (t.regs.getD 5 0), .int .u64 (t.regs.getD 6 0), .int .u64 (t.regs.getD 7 0),
  .int .u64 t.handle, .int .i64 t.why, .int .u64 t.value, .bool t.detached, .int .i64 t.joiner, .int .i64 t.op, .int .i64 t.into, .int .u64 0]
def thrsH : List (Option Nat) → List (Option Thr) → HProp
  | [], [] => emp
  | some p :: ps, some t :: ts => sep (arr p 0 (thrC t)) (thrsH ps ts)
  | none :: ps, none :: ts => thrsH ps ts
  | _, _ => fun _ => False

theorem thrs_len : ∀ {ps : List (Option Nat)} {ts : List (Option Thr)} {h : Heap}, thrsH ps ts h → ps.length = ts.length
  | [], [], _, _ => rfl
  | [], _ :: _, _, a => a.elim
  | some _ :: _, [], _, a => a.elim
  | none :: _, [], _, a => a.elim
  | some p :: ps, some t :: ts, h, ⟨_, h2, _, a, _⟩ => by simp [thrs_len a]
  | none :: ps, none :: ts, h, a => by simp [thrs_len (show thrsH ps ts h from a)]
  | some _ :: _, none :: _, _, a => a.elim
  | none :: _, some _ :: _, _, a => a.elim
theorem thrs_get : ∀ {ps : List (Option Nat)} {ts : List (Option Thr)} {n : Nat} {t : Thr}, ts[n]? = some (some t) → ∀ h, thrsH ps ts h → ∃ p, ps[n]? = some (some p) ∧ sep (arr p 0 (thrC t)) (thrsH (ps.set n none) (ts.set n none)) h
  | [], [], _, _, e, _, _ => by simp at e
  | [], _ :: _, _, _, _, _, a => a.elim
  | some _ :: _, [], _, _, _, _, a => a.elim
  | none :: _, [], _, _, _, _, a => a.elim
  | some _ :: _, none :: _, _, _, _, _, a => a.elim
  | none :: _, some _ :: _, _, _, _, _, a => a.elim
  | some p :: ps, some t :: ts, 0, u, e, h, a => by
    simp at e; subst e
    exact ⟨p, rfl, a⟩
  | none :: ps, none :: ts, 0, u, e, h, a => by simp at e
  | some p :: ps, some t :: ts, n + 1, u, e, h, ⟨h1, h2, a1, a2, d, e'⟩ => by
    obtain ⟨q, hq, a⟩ := thrs_get (n := n) (by simpa using e) h2 a2
    refine ⟨q, by simpa using hq, ?_⟩
    show sep _ (sep (arr p 0 (thrC t)) (thrsH (ps.set n none) (ts.set n none))) h
    rw [sep_left_comm]
    exact ⟨h1, h2, a1, a, d, e'⟩
  | none :: ps, none :: ts, n + 1, u, e, h, a => by
    obtain ⟨q, hq, a⟩ := thrs_get (ps := ps) (n := n) (by simpa using e) h a
    exact ⟨q, by simpa using hq, a⟩
theorem thrs_none : ∀ {ps : List (Option Nat)} {ts : List (Option Thr)} {n : Nat}, ts[n]? = some none → ∀ h, thrsH ps ts h → ps[n]? = some none
  | [], [], _, e, _, _ => by simp at e
  | [], _ :: _, _, _, _, a => a.elim
  | some _ :: _, [], _, _, _, a => a.elim
  | none :: _, [], _, _, _, a => a.elim
  | some _ :: _, none :: _, _, _, _, a => a.elim
  | none :: _, some _ :: _, _, _, _, a => a.elim
  | some p :: ps, some t :: ts, 0, e, h, a => by simp at e
  | none :: ps, none :: ts, 0, e, h, a => rfl
  | some p :: ps, some t :: ts, n + 1, e, h, ⟨h1, h2, a1, a2, d, e'⟩ => by
    have := thrs_none (n := n) (by simpa using e) h2 a2
    simpa using this
  | none :: ps, none :: ts, n + 1, e, h, a => by
    have := thrs_none (ps := ps) (n := n) (by simpa using e) h a
    simpa using this
/-- A thread is laid into a slot that holds none. -/
theorem thrs_put : ∀ {ps : List (Option Nat)} {ts : List (Option Thr)} {n : Nat} {p : Nat} {t : Thr}, ts[n]? = some none → ∀ h, sep (arr p 0 (thrC t)) (thrsH ps ts) h → thrsH (ps.set n (some p)) (ts.set n (some t)) h
  | [], [], _, _, _, e, _, _ => by simp at e
  | [], _ :: _, _, _, _, _, _, ⟨_, _, _, a, _⟩ => a.elim
  | some _ :: _, [], _, _, _, _, _, ⟨_, _, _, a, _⟩ => a.elim
  | none :: _, [], _, _, _, _, _, ⟨_, _, _, a, _⟩ => a.elim
  | some _ :: _, none :: _, _, _, _, _, _, ⟨_, _, _, a, _⟩ => a.elim
  | none :: _, some _ :: _, _, _, _, _, _, ⟨_, _, _, a, _⟩ => a.elim
  | some q :: ps, some u :: ts, 0, p, t, e, h, a => by simp at e
  | none :: ps, none :: ts, 0, p, t, e, h, a => a
  | some q :: ps, some u :: ts, n + 1, p, t, e, h, a => by
    show sep (arr q 0 (thrC u)) (thrsH (ps.set n (some p)) (ts.set n (some t))) h
    have : sep (arr p 0 (thrC t)) (sep (arr q 0 (thrC u)) (thrsH ps ts)) h := a
    rw [sep_left_comm] at this
    exact sep_mono (fun _ h => h) (fun h' a' => thrs_put (by simpa using e) h' a') h this
  | none :: ps, none :: ts, n + 1, p, t, e, h, a => thrs_put (ps := ps) (ts := ts) (n := n) (by simpa using e) h a
theorem thrs_back {ps : List (Option Nat)} {ts : List (Option Thr)} {n p : Nat} {t : Thr} (hn : n < ts.length) (hp : ps[n]? = some (some p)) : ∀ h, sep (arr p 0 (thrC t)) (thrsH (ps.set n none) (ts.set n none)) h → thrsH ps (ts.set n (some t)) h := fun h a => by
  have := thrs_put (n := n) (by simp [hn]) h a
  rw [List.set_set, List.set_set] at this
  rwa [show ps.set n (some p) = ps from by
    apply List.ext_getElem?
    intro i
    by_cases e : n = i
    · subst e
      rw [List.getElem?_set_self (List.getElem?_eq_some_iff.1 hp).1, hp]
    · rw [List.getElem?_set_ne e]] at this

def spcC (fv sv pv : Value) (p : Prg) (bt : Nat) (ps : List (Option Nat)) (vm : Value) (bg : Nat) (vt : Value) (bd bw : Nat) (vr : Value) : List Value :=
  [fv, .int .i64 p.words, .int .i64 p.mutexes, .int .i64 p.conds, sv, pv, .int .i64 p.blocks, .int .i64 p.prio, ptr bt,
    ptrO (ps.getD 0 none), ptrO (ps.getD 1 none), ptrO (ps.getD 2 none), ptrO (ps.getD 3 none), ptrO (ps.getD 4 none), ptrO (ps.getD 5 none), ptrO (ps.getD 6 none), ptrO (ps.getD 7 none),
    ptrO (ps.getD 8 none), ptrO (ps.getD 9 none), ptrO (ps.getD 10 none), ptrO (ps.getD 11 none), ptrO (ps.getD 12 none), ptrO (ps.getD 13 none), ptrO (ps.getD 14 none), ptrO (ps.getD 15 none),
    vm, ptr bg, vt, ptr bd, ptr bw, vr]
/-- A space; where its threads lie. -/
def spcX (b : Nat) (ps : List (Option Nat)) (s : Spc) : HProp := exP10 (fun _ _ _ _ _ _ _ _ _ _ => True) fun (fv sv pv : Value) (bt : Nat) (vm : Value) (bg : Nat) (vt : Value) (bd bw : Nat) (vr : Value) =>
  [arr b 0 (spcC fv sv pv s.prg bt ps vm bg vt bd bw vr), codeH fv s.prg.funcs, tblH bt s.table, thrsH ps s.thr, sl wrdE 1 vm s.mem, gatesH bg s.gates, tubsH vt s.tubes, dskH bd s.disk, whlH bw s.wheel, sl recE 6 vr s.recs]
def spcH (b : Nat) (s : Spc) : HProp := exP1 (fun _ => True) fun ps => [spcX b ps s]

/-! a library, processors -/
def dqH (b : Nat) (l : List Int) : HProp := exP1 (fun _ => True) fun v => [arr b 0 [v], sl intE 1 v l]
def rwsH (b : Nat) (l : List (List Int)) : HProp := exP2 (fun _ (xs : List (Nat × List Int)) => xs.map (·.2) = l) fun v xs => [arr b 0 [v], sl ptrE 1 v xs, allH (fun x => dqH x.1 x.2) xs]
def vslE (x : Value × Vsl) : List Value := [.int .i64 x.2.mode, .int .i64 x.2.thread, x.1]
def vslsH (v : Value) (l : List Vsl) : HProp := exP1 (fun xs : List (Value × Vsl) => xs.map (·.2) = l) fun xs => [sl vslE 3 v xs, allH (fun x => sl evE 3 x.1 x.2.evs) xs]
def libC (bs br : Nat) (vv vw : Value) (lk : Bool) : List Value := [ptr bs, ptr br, vv, vw, .bool lk]
/-- A library; where its space and its rows lie. -/
def libX (b bs br : Nat) (l : Lib) : HProp := exP2 (fun _ _ => True) fun vv vw => [arr b 0 (libC bs br vv vw l.locked), spcH bs l.spc, rwsH br l.rows, vslsH vv l.vs, sl evE 3 vw l.waiting]
def libH (b : Nat) (l : Lib) : HProp := exP2 (fun _ _ => True) fun bs br => [libX b bs br l]

/-! chunks turned -/
section
variable {P : Program} {W : World} {N : Nat} {Q : Exit → Act → World → Prop} {L : List (Nat × Option Value)} {H R K : List HProp} {O : Array Oper} {T : TypeId} {ks : List Nat} {ops : List Oper} {C : HProp}
theorem sat_fr {w : World} {A : HProp} {Bs : List HProp} (t : Take H A R) (e : ∀ h, A h → seps Bs h) (s : Sat W w (seps H)) : Sat W w (seps (Bs ++ R)) := by
  rw [t.seps] at s
  rw [seps_append]
  exact s.mono (sep_mono e fun _ r => r)
theorem sat_to {w : World} {A : HProp} {Bs : List HProp} (t : Ent H Bs R) (e : ∀ h, seps Bs h → A h) (s : Sat W w (seps H)) : Sat W w (seps (A :: R)) := by
  have := t.sat s
  rw [seps_append] at this
  exact this.mono (sep_mono e fun _ r => r)
theorem GoL.fr {A : HProp} {Bs : List HProp} (t : Take H A R) (e : ∀ h, A h → seps Bs h) (k : GoL P W N O Q ops L (Bs ++ R)) : GoL P W N O Q ops L H := fun a w ha hs => k a w ha (sat_fr t e hs)
theorem GoC.fr {c : Code} {A : HProp} {Bs : List HProp} (t : Take H A R) (e : ∀ h, A h → seps Bs h) (k : GoC P W N Q c L (Bs ++ R)) : GoC P W N Q c L H := fun a w ha hs => k a w ha (sat_fr t e hs)
theorem GoK.fr {A : HProp} {Bs : List HProp} (t : Take H A R) (e : ∀ h, A h → seps Bs h) (k : GoK P W N K O Q ks ops L (Bs ++ R)) : GoK P W N K O Q ks ops L H := fun a w ha hs => k a w ha (sat_fr t e hs)
theorem GoE.fr {en : Exit} {A : HProp} {Bs : List HProp} (t : Take H A R) (e : ∀ h, A h → seps Bs h) (k : GoE W N Q en L (Bs ++ R)) : GoE W N Q en L H := fun a w ha hs => k a w ha (sat_fr t e hs)
theorem GoL.to {A : HProp} {Bs : List HProp} (t : Ent H Bs R) (e : ∀ h, seps Bs h → A h) (k : GoL P W N O Q ops L (A :: R)) : GoL P W N O Q ops L H := fun a w ha hs => k a w ha (sat_to t e hs)
theorem GoC.to {c : Code} {A : HProp} {Bs : List HProp} (t : Ent H Bs R) (e : ∀ h, seps Bs h → A h) (k : GoC P W N Q c L (A :: R)) : GoC P W N Q c L H := fun a w ha hs => k a w ha (sat_to t e hs)
theorem GoK.to {A : HProp} {Bs : List HProp} (t : Ent H Bs R) (e : ∀ h, seps Bs h → A h) (k : GoK P W N K O Q ks ops L (A :: R)) : GoK P W N K O Q ks ops L H := fun a w ha hs => k a w ha (sat_to t e hs)
theorem GoE.to {en : Exit} {A : HProp} {Bs : List HProp} (t : Ent H Bs R) (e : ∀ h, seps Bs h → A h) (k : GoE W N Q en L (A :: R)) : GoE W N Q en L H := fun a w ha hs => k a w ha (sat_to t e hs)
theorem sat_fx {w : World} {A : HProp} {X : Type} {p : X → Prop} {Bs : X → List HProp} (t : Take H A R) (e : ∀ h, A h → ∃ x, p x ∧ seps (Bs x) h) (s : Sat W w (seps H)) : ∃ x, p x ∧ Sat W w (seps (Bs x ++ R)) := by
  rw [t.seps] at s
  obtain ⟨h, ⟨h1, h2, a, r, d, e'⟩, hin⟩ := s.own
  obtain ⟨x, hp, a'⟩ := e h1 a
  exact ⟨x, hp, by rw [seps_append]; exact { s with own := ⟨h, ⟨h1, h2, a', r, d, e'⟩, hin⟩ }⟩
theorem GoL.fx {A : HProp} {X : Type} {p : X → Prop} {Bs : X → List HProp} (t : Take H A R) (e : ∀ h, A h → ∃ x, p x ∧ seps (Bs x) h) (k : ∀ x, p x → GoL P W N O Q ops L (Bs x ++ R)) : GoL P W N O Q ops L H := fun a w ha hs => let ⟨x, hp, s⟩ := sat_fx t e hs; k x hp a w ha s
theorem GoC.fx {c : Code} {A : HProp} {X : Type} {p : X → Prop} {Bs : X → List HProp} (t : Take H A R) (e : ∀ h, A h → ∃ x, p x ∧ seps (Bs x) h) (k : ∀ x, p x → GoC P W N Q c L (Bs x ++ R)) : GoC P W N Q c L H := fun a w ha hs => let ⟨x, hp, s⟩ := sat_fx t e hs; k x hp a w ha s
theorem GoK.fx {A : HProp} {X : Type} {p : X → Prop} {Bs : X → List HProp} (t : Take H A R) (e : ∀ h, A h → ∃ x, p x ∧ seps (Bs x) h) (k : ∀ x, p x → GoK P W N K O Q ks ops L (Bs x ++ R)) : GoK P W N K O Q ks ops L H := fun a w ha hs => let ⟨x, hp, s⟩ := sat_fx t e hs; k x hp a w ha s
theorem GoE.fx {en : Exit} {A : HProp} {X : Type} {p : X → Prop} {Bs : X → List HProp} (t : Take H A R) (e : ∀ h, A h → ∃ x, p x ∧ seps (Bs x) h) (k : ∀ x, p x → GoE W N Q en L (Bs x ++ R)) : GoE W N Q en L H := fun a w ha hs => let ⟨x, hp, s⟩ := sat_fx t e hs; k x hp a w ha s
theorem thrs_open {ps : List (Option Nat)} {ts : List (Option Thr)} {n : Nat} {t : Thr} (ht : ts[n]? = some (some t)) : ∀ h, thrsH ps ts h → ∃ p, ps[n]? = some (some p) ∧ seps [arr p 0 (thrC t), thrsH (ps.set n none) (ts.set n none)] h := fun h a => by
  obtain ⟨p, hp, a'⟩ := thrs_get ht h a
  exact ⟨p, hp, by simpa only [seps, sep_emp] using a'⟩
theorem thrs_shut {ps : List (Option Nat)} {ts : List (Option Thr)} {n p : Nat} {t : Thr} (hn : n < ts.length) (hp : ps[n]? = some (some p)) : ∀ h, seps [arr p 0 (thrC t), thrsH (ps.set n none) (ts.set n none)] h → thrsH ps (ts.set n (some t)) h := fun h a =>
  thrs_back hn hp h (by simpa only [seps, sep_emp] using a)
theorem pair_of {A B C D : HProp} (e : A = sep B C) (hD : D = C) : ∀ h, A h → seps [B, D] h := fun h a => by subst hD; rw [e] at a; simpa only [seps, sep_emp] using a
theorem of_pair {A B C D : HProp} (e : A = sep B C) (hD : D = C) : ∀ h, seps [B, D] h → A h := fun h a => by subst hD; rw [e]; simpa only [seps, sep_emp] using a
end
end Go.SLYtkflpgknieoknaa
