/- The program's inner layers as plain functions, over numbers and lists: instructions, slots, gates, pipes, the disk, the clock, a space. Conditions: none, this text proves no statement. -/
import GoSem.Core.Float
namespace Go.SLYtkflpgknieoknaa

def geti {α : Type} (l : List α) (i : Int) : Option α := if i < 0 then none else l[i.toNat]?
def pick (k : Int) (n : Nat) : Nat := ((k.tmod n + n).tmod n).toNat

structure Ins where
  op : Int
  a : Int
  b : Int
  c : Int
  n : Int
deriving DecidableEq
def Ins.z : Ins := ⟨0, 0, 0, 0, 0⟩

structure Prg where
  funcs : List (List Ins)
  words : Int
  mutexes : Int
  conds : Int
  sems : List Int
  pipes : List Int
  blocks : Int
  prio : Int

/-! instructions -/
def cls (op : Int) : Int := if 1 ≤ op ∧ op ≤ 19 then 1 else if 20 ≤ op ∧ op ≤ 32 then 2 else if 33 ≤ op ∧ op ≤ 38 then 3 else 0
def regOk (n : Int) (b : Bool) : Bool := decide (n = 0) || (b && decide (0 < n) && decide (n < 8))

structure Form where
  regs : Int
  mutex : Bool
  n : Int
  any : Bool
def formOf (p : Prg) (op : Int) : Form :=
  if op = 1 then ⟨1, false, 0, true⟩
  else if op = 2 ∨ op = 14 ∨ op = 15 ∨ op = 18 ∨ op = 19 ∨ op = 21 ∨ op = 33 ∨ op = 34 then ⟨2, false, -1, false⟩
  else if op = 16 then ⟨0, false, 257, false⟩
  else if op = 17 then ⟨1, false, 257, false⟩
  else if op = 20 then ⟨2, false, p.funcs.length, false⟩
  else if op = 22 ∨ op = 23 ∨ op = 32 ∨ op = 37 ∨ op = 38 then ⟨1, false, -1, false⟩
  else if op = 24 then ⟨0, false, -1, false⟩
  else if op = 25 ∨ op = 26 then ⟨0, false, p.mutexes, false⟩
  else if op = 27 then ⟨0, true, p.conds, false⟩
  else if op = 28 ∨ op = 29 then ⟨0, false, p.conds, false⟩
  else if op = 30 ∨ op = 31 then ⟨0, false, p.sems.length, false⟩
  else if op = 35 ∨ op = 36 then ⟨1, false, p.pipes.length, false⟩
  else ⟨3, false, -1, false⟩
def Form.below (f : Form) (n : Int) : Bool :=
  if f.any = true then true else if f.n = -1 then decide (n = 0) else decide (0 < f.n) && decide (n < f.n)
def soundI (p : Prg) (i : Ins) : Bool :=
  if cls i.op = 0 then false else
    let f := formOf p i.op
    regOk i.a (decide (0 < f.regs)) && regOk i.b (decide (1 < f.regs)) && (if f.mutex = true then decide (0 ≤ i.c) && decide (i.c < p.mutexes) else regOk i.c (decide (2 < f.regs))) && f.below i.n
def within (n most : Int) : Bool := decide (0 ≤ n) && decide (n ≤ most)
def capsI (p : Prg) : Bool :=
  decide (0 < p.funcs.length) && decide (p.funcs.length ≤ 8) && within p.words 64 && within p.mutexes 4 && within p.conds 4 && within p.blocks 64 && within p.prio 7 && decide (p.sems.length ≤ 4) && decide (p.pipes.length ≤ 4) &&
    p.funcs.all (fun f => decide (f.length ≤ 256)) && p.sems.all (fun n => within n 1048576) && p.pipes.all (fun n => decide (0 < n) && within n 8)
def checkI (p : Prg) : Int := if capsI p = true then (if p.funcs.all (fun f => f.all (soundI p)) = true then 0 else 8) else 9

/-! slots -/
def slotH (taken : Int) (n : Nat) : Int := taken * 65536 + n + 1
def slotFree? : List (Bool × Int) → Nat → Option Nat
  | [], _ => none
  | o :: l, k => if o.1 = true then slotFree? l (k + 1) else some k
def slotFind (l : List (Bool × Int)) (h : Int) : Option Nat :=
  if h % 65536 = 0 then none else
    match l[(h % 65536 - 1).toNat]? with
    | none => none
    | some o => if o.1 = true ∧ slotH o.2 (h % 65536 - 1).toNat = h then some (h % 65536 - 1).toNat else none
def slotFreed (l : List (Bool × Int)) (h : Int) : List (Bool × Int) :=
  match slotFind l h with
  | none => l
  | some n => l.set n (false, (l.getD n (false, 0)).2)

/-! gates -/
structure Wtr where
  who : Int
  mutex : Int
deriving DecidableEq
structure Mtx where
  wait : List Wtr
  held : Bool
  owner : Int
structure Smp where
  wait : List Wtr
  count : Int
structure Gates where
  mtx : List Mtx
  cnd : List (List Wtr)
  sem : List Smp
def hasW (l : List Wtr) (who : Int) : Bool := l.any fun w => decide (w.who = who)
/-- Who is taken out of a row by choice (nobody: zeros), whether somebody is, what is left. -/
def takeW (l : List Wtr) (choice : Int) : Wtr × Bool × List Wtr :=
  if l.length = 0 then (⟨0, 0⟩, false, l) else (l.getD (pick choice l.length) ⟨0, 0⟩, true, l.eraseIdx (pick choice l.length))
def Gates.waits (g : Gates) (who : Int) : Bool := g.mtx.any (fun m => hasW m.wait who) || g.cnd.any (fun r => hasW r who) || g.sem.any (fun s => hasW s.wait who)
def Mtx.is (m : Mtx) (who : Int) : Bool := m.held && decide (m.owner = who)
def Mtx.lock (m : Mtx) (who : Int) : Bool × Mtx := if m.held = true then (false, { m with wait := m.wait ++ [⟨who, 0⟩] }) else (true, { m with held := true, owner := who })
def Mtx.unlock (m : Mtx) (choice : Int) : Int × Bool × Mtx := ((takeW m.wait choice).1.who, (takeW m.wait choice).2.1, ⟨(takeW m.wait choice).2.2, (takeW m.wait choice).2.1, (takeW m.wait choice).1.who⟩)
def Gates.lock (g : Gates) (who m : Int) : Bool × Int × Gates :=
  match geti g.mtx m with
  | none => (false, 1, g)
  | some x => if g.waits who = true ∨ x.is who = true then (false, 4, g) else ((x.lock who).1, 0, { g with mtx := g.mtx.set m.toNat (x.lock who).2 })
def Gates.unlock (g : Gates) (who m choice : Int) : Int × Bool × Int × Gates :=
  match geti g.mtx m with
  | none => (0, false, 1, g)
  | some x => if x.is who = true then ((x.unlock choice).1, (x.unlock choice).2.1, 0, { g with mtx := g.mtx.set m.toNat (x.unlock choice).2.2 }) else (0, false, 5, g)
def Gates.wait (g : Gates) (who c m choice : Int) : Int × Bool × Int × Gates :=
  match geti g.mtx m, geti g.cnd c with
  | some x, some r =>
    if g.waits who = true then (0, false, 4, g) else
    if x.is who = true then ((x.unlock choice).1, (x.unlock choice).2.1, 0, { g with mtx := g.mtx.set m.toNat (x.unlock choice).2.2, cnd := g.cnd.set c.toNat (r ++ [⟨who, m⟩]) }) else (0, false, 5, g)
  | _, _ => (0, false, 1, g)
def sigLoop : Nat → Int → List Wtr → List Mtx → List Int → List Wtr × List Mtx × List Int
  | 0, _, r, ms, out => (r, ms, out)
  | n + 1, choice, r, ms, out =>
    let w := (takeW r choice).1
    let l := (ms.getD w.mutex.toNat ⟨[], false, 0⟩).lock w.who
    sigLoop n choice (takeW r choice).2.2 (ms.set w.mutex.toNat l.2) (if l.1 = true then out ++ [w.who] else out)
def Gates.signal (g : Gates) (c choice : Int) (all : Bool) : List Int × Int × Gates :=
  match geti g.cnd c with
  | none => ([], 1, g)
  | some r =>
    let z := sigLoop (if all = true then r.length else min r.length 1) (if all = true then 0 else choice) r g.mtx []
    (z.2.2, 0, { g with mtx := z.2.1, cnd := g.cnd.set c.toNat z.1 })
def Gates.down (g : Gates) (who s : Int) : Bool × Int × Gates :=
  match geti g.sem s with
  | none => (false, 1, g)
  | some x =>
    if g.waits who = true then (false, 4, g) else
    if 0 < x.count then (true, 0, { g with sem := g.sem.set s.toNat { x with count := x.count - 1 } }) else (false, 0, { g with sem := g.sem.set s.toNat { x with wait := x.wait ++ [⟨who, 0⟩] } })
def Gates.up (g : Gates) (s choice : Int) : Int × Bool × Int × Gates :=
  match geti g.sem s with
  | none => (0, false, 1, g)
  | some x =>
    if (takeW x.wait choice).2.1 = true then ((takeW x.wait choice).1.who, true, 0, { g with sem := g.sem.set s.toNat { x with wait := (takeW x.wait choice).2.2 } }) else
    if 1048576 ≤ x.count then (0, false, 2, g) else (0, false, 0, { g with sem := g.sem.set s.toNat { x with count := x.count + 1 } })
def clamp (n most : Int) : Int := min (max n 0) most
def Gates.new (mutexes conds : Int) (sems : List Int) : Gates :=
  ⟨List.replicate (clamp mutexes 4).toNat ⟨[], false, 0⟩, List.replicate (clamp conds 4).toNat [], (sems.take 4).map fun n => ⟨[], clamp n 1048576⟩⟩

/-! pipes -/
structure Ptr where
  who : Int
  x : Int
deriving DecidableEq
structure Tub where
  room : Int
  words : List Int
  puts : List Ptr
  gets : List Int
def Tub.new (room : Int) : Tub := ⟨min (max room 1) 8, [], [], []⟩
def Tub.waits (t : Tub) (who : Int) : Bool := t.gets.contains who || t.puts.any fun p => decide (p.who = who)
def Tub.put (t : Tub) (who x : Int) : Bool × Int × Bool × Tub :=
  if t.waits who = true then (false, 0, false, t) else
  match t.gets with
  | w :: r => (true, w, true, { t with gets := r })
  | [] => if (t.words.length : Int) < t.room then (true, 0, false, { t with words := t.words ++ [x] }) else (false, 0, false, { t with puts := t.puts ++ [⟨who, x⟩] })
def Tub.get (t : Tub) (who : Int) : Int × Bool × Int × Bool × Tub :=
  if t.waits who = true then (0, false, 0, false, t) else
  match t.words with
  | [] => (0, false, 0, false, { t with gets := t.gets ++ [who] })
  | x :: r =>
    match t.puts with
    | [] => (x, true, 0, false, { t with words := r })
    | p :: q => (x, true, p.who, true, { t with words := r ++ [p.x], puts := q })

/-! the disk -/
structure Rqs where
  who : Int
  block : Int
  write : Bool
  x : Int
deriving DecidableEq
structure Dsk where
  blocks : List Int
  wait : List Rqs
def Dsk.new (blocks : Int) : Dsk := ⟨List.replicate (clamp blocks 64).toNat 0, []⟩
def Dsk.ask (d : Dsk) (r : Rqs) : Int × Dsk :=
  if r.block < 0 ∨ (d.blocks.length : Int) ≤ r.block then (1, d) else
  if d.wait.any (fun x => decide (x.who = r.who)) = true then (4, d) else (0, { d with wait := d.wait ++ [r] })
def Dsk.done (d : Dsk) (k : Int) : Rqs × Int × Bool × Dsk :=
  if d.wait.length = 0 then (⟨0, 0, false, 0⟩, 0, false, d) else
    let r := d.wait.getD (pick k d.wait.length) ⟨0, 0, false, 0⟩
    let d' : Dsk := { d with wait := d.wait.eraseIdx (pick k d.wait.length) }
    if r.write = true then (r, 0, true, { d' with blocks := d'.blocks.set r.block.toNat r.x }) else (r, d.blocks.getD r.block.toNat 0, true, d')

/-! the clock: who waits until when, in no order that counts -/
structure Whl where
  now : Int
  till : List (Int × Int)
def mapGet (l : List (Int × Int)) (k : Int) : Option Int := (l.find? fun p => decide (p.1 = k)).map (·.2)
def mapSet : List (Int × Int) → Int → Int → List (Int × Int)
  | [], k, v => [(k, v)]
  | p :: l, k, v => if p.1 = k then (k, v) :: l else p :: mapSet l k v
def mapDel (l : List (Int × Int)) (k : Int) : List (Int × Int) := l.filter fun p => !decide (p.1 = k)
def insSorted (x : Int) : List Int → List Int
  | [] => [x]
  | y :: l => if x ≤ y then x :: y :: l else y :: insSorted x l
def sortI (l : List Int) : List Int := l.foldr insSorted []
def Whl.new : Whl := ⟨0, []⟩
def Whl.sleep (w : Whl) (who n : Int) : Int × Whl :=
  if n < 1 ∨ 1099511627776 < n then (1, w) else
  if 0 < (mapGet w.till who).getD 0 then (4, w) else (0, { w with till := mapSet w.till who (min (w.now + n) 1099511627776) })
def Whl.due (w : Whl) : List Int := sortI ((w.till.filter fun p => decide (p.2 ≤ min (w.now + 1) 1099511627776)).map (·.1))
def Whl.tick (w : Whl) : List Int × Whl := (w.due, ⟨min (w.now + 1) 1099511627776, w.due.foldl mapDel w.till⟩)

/-! words -/
def w64 (n : Int) : Int := n % 18446744073709551616
def fNone : Int := 9221120237041090560
def fIsNone (a : Int) : Bool := Ieee.double.order a.toNat a.toNat == none
def fWord : Option Nat → Int
  | some r => if fIsNone (r : Int) = true then fNone else r
  | none => fNone

/-! a space -/
structure Rec where
  thread : Int
  op : Int
  x : Int
  y : Int
  result : Int
  fin : Bool
deriving DecidableEq
structure Thr where
  fn : Int
  pc : Int
  regs : List Int
  handle : Int
  why : Int
  value : Int
  detached : Bool
  joiner : Int
  op : Int
  into : Int
structure Spc where
  prg : Prg
  table : List (Bool × Int)
  thr : List (Option Thr)
  mem : List Int
  gates : Gates
  tubes : List Tub
  disk : Dsk
  wheel : Whl
  recs : List Rec
def readyFrom : List (Option Thr) → Nat → List Int
  | [], _ => []
  | none :: l, n => readyFrom l (n + 1)
  | some t :: l, n => if t.why = 0 then (n : Int) :: readyFrom l (n + 1) else readyFrom l (n + 1)
def Spc.ready (s : Spc) : List Int := readyFrom s.thr 0
def thr0 (f arg : Int) (handle : Int) : Thr := ⟨f, 0, [arg, 0, 0, 0, 0, 0, 0, 0], handle, 0, 0, false, -1, 0, -1⟩
def Spc.begin (s : Spc) (f arg : Int) : Int × Int × Spc :=
  match slotFree? s.table 0 with
  | none => (0, 2, s)
  | some n => ((n : Int), 0, { s with table := s.table.set n (true, (s.table.getD n (false, 0)).2 + 1), thr := s.thr.set n (some (thr0 f arg (slotH ((s.table.getD n (false, 0)).2 + 1) n))) })
def Spc.new (p : Prg) : Spc :=
  (Spc.begin ⟨p, List.replicate 16 (false, 0), List.replicate 16 none, List.replicate p.words.toNat 0, Gates.new p.mutexes p.conds p.sems, p.pipes.map Tub.new, Dsk.new p.blocks, Whl.new, []⟩ 0 0).2.2

/-! events, vessels, rows, a library -/
structure Ev where
  kind : Int
  thread : Int
  mode : Int
deriving DecidableEq
structure Vsl where
  mode : Int
  thread : Int
  evs : List Ev
def Vsl.z : Vsl := ⟨0, 0, []⟩
def evRuns (e : Ev) : Bool := decide (0 ≤ e.thread) && decide (e.mode ≤ 0) && (decide (e.kind = 3) || decide (e.kind = 4))
def evKeep (l : List Ev) : List Ev := l.filter fun e => evRuns e || decide (0 < e.mode)
def Vsl.holds (v : Vsl) : Bool := decide (v.mode = 2) || decide (v.mode = 4) || decide (v.mode = 7)
def Vsl.runs (v : Vsl) : Bool := (decide (v.mode = 5) || decide (v.mode = 6) || decide (v.mode = 7)) && decide (0 ≤ v.thread)
def Vsl.strip (v : Vsl) : List Ev :=
  (if v.holds = true then [⟨4, if v.runs = true then v.thread else -1, v.mode⟩] else if v.runs = true then [⟨4, v.thread, 0⟩] else []) ++ evKeep v.evs
def Vsl.new (l : List Ev) : Vsl := ⟨1, -1, l⟩
def Vsl.told (v : Vsl) (more : List Ev) : Vsl := Vsl.new (v.strip ++ more)
structure Lib where
  spc : Spc
  rows : List (List Int)
  vs : List Vsl
  waiting : List Ev
  locked : Bool
def unblocked (l : List Int) : List Ev := l.map fun n => ⟨3, n, 0⟩
def Lib.new (s : Spc) (procs : Int) : Lib :=
  ⟨s, List.replicate (clamp procs 64).toNat [], List.replicate (clamp procs 64).toNat Vsl.z, unblocked s.ready, false⟩
def Lib.has (l : Lib) (p : Int) : Bool := match geti l.vs p with | none => false | some v => !decide (v.mode = 0)
def procsFrom : List Vsl → Nat → List Int
  | [], _ => []
  | v :: l, n => if v.mode = 0 then procsFrom l (n + 1) else (n : Int) :: procsFrom l (n + 1)
def Lib.procs (l : Lib) : List Int := procsFrom l.vs 0
def Lib.grant (l : Lib) (p : Int) : Bool × Lib :=
  match geti l.vs p with
  | none => (false, l)
  | some v => if v.mode = 0 then (true, { l with vs := l.vs.set p.toNat (Vsl.new (⟨1, -1, 0⟩ :: l.waiting)), waiting := [] }) else (false, l)
def Lib.tell (l : Lib) (list : List Ev) : Lib :=
  if list = [] then l else
  match l.procs with
  | [] => { l with waiting := l.waiting ++ list }
  | p :: _ => { l with vs := l.vs.set p.toNat ((l.vs.getD p.toNat Vsl.z).told list) }
def Lib.revoke (l : Lib) (p : Int) : Bool × Lib :=
  if l.has p = true then (true, ({ l with vs := l.vs.set p.toNat Vsl.z } : Lib).tell (l.vs.getD p.toNat Vsl.z).strip) else (false, l)
def Lib.preempt (l : Lib) (p : Int) : Bool × Lib :=
  if l.has p = true then (true, { l with vs := l.vs.set p.toNat ((l.vs.getD p.toNat Vsl.z).told []) }) else (false, l)

/-! processors -/
structure Krn where
  owner : List Int
  libs : List Lib
def Krn.lib (k : Krn) (n : Int) : Option Lib := geti k.libs n
def freeFrom : List Int → Nat → List Int
  | [], _ => []
  | o :: l, n => if o = -1 then (n : Int) :: freeFrom l (n + 1) else freeFrom l (n + 1)
def Krn.free (k : Krn) : List Int := freeFrom k.owner 0
def Krn.demand (k : Krn) : List Int := k.libs.map fun l => (l.spc.ready.length : Int)
def Krn.ownerOf (k : Krn) (p : Int) : Int × Bool :=
  match geti k.owner p with
  | none => (0, false)
  | some o => if o = -1 then (0, false) else (o, true)
def Krn.give (k : Krn) (p n : Int) : Int × Krn :=
  match geti k.owner p, geti k.libs n with
  | some o, some l => if o = -1 then (0, ⟨k.owner.set p.toNat n, k.libs.set n.toNat (l.grant p).2⟩) else (4, k)
  | _, _ => (1, k)
def libZ : Lib := ⟨⟨⟨[], 0, 0, 0, [], [], 0, 0⟩, [], [], [], ⟨[], [], []⟩, [], ⟨[], []⟩, ⟨0, []⟩, []⟩, [], [], [], false⟩
def Krn.take (k : Krn) (p : Int) : Int × Krn :=
  match geti k.owner p with
  | none => (1, k)
  | some o => if o = -1 then (11, k) else (0, ⟨k.owner.set p.toNat (-1), k.libs.set o.toNat ((k.libs.getD o.toNat libZ).revoke p).2⟩)
/-- The error of the first program that may not be. -/
def checkAll : List Prg → Int
  | [] => 0
  | p :: l => if checkI p = 0 then checkAll l else checkI p
def Krn.new (procs : Int) (l : List Prg) : Krn := ⟨List.replicate procs.toNat (-1), l.map fun p => Lib.new (Spc.new p) procs⟩
def krnErr (procs : Int) (l : List Prg) : Int := if procs < 1 ∨ 64 < procs ∨ (l.length : Int) < 1 ∨ 8 < (l.length : Int) then 1 else checkAll l

/-! who gets how many -/
structure Deal where
  left : Int
  demand : List Int
  prio : List Int
  out : List Int
def Deal.wants (d : Deal) (n : Nat) (prio : Int) : Bool := decide (d.prio.getD n 0 = prio) && decide (d.out.getD n 0 < d.demand.getD n 0)
def Deal.step (d : Deal) (prio : Int) (n : Nat) : Deal × Bool :=
  if 0 < d.left ∧ d.wants n prio = true then ({ d with out := d.out.set n (d.out.getD n 0 + 1), left := d.left - 1 }, true) else (d, false)
/-- so many rounds are left; which one is looked at first -/
def Deal.go (prio : Int) (first : Nat) : Nat → Nat → Deal → Bool → Deal × Bool
  | 0, _, d, any => (d, any)
  | m + 1, k, d, any => Deal.go prio first m (k + 1) (d.step prio ((first + k) % d.demand.length)).1 (any || (d.step prio ((first + k) % d.demand.length)).2)
def Deal.round (d : Deal) (prio : Int) (first : Nat) : Deal × Bool := Deal.go prio first d.demand.length 0 d false
def Deal.rounds (prio : Int) (first : Nat) : Nat → Deal → Deal
  | 0, d => d
  | f + 1, d => if (d.round prio first).2 = true then Deal.rounds prio first f (d.round prio first).1 else (d.round prio first).1
def Deal.prios (first : Nat) : Nat → Deal → Deal
  | 0, d => Deal.rounds 0 first (d.left.toNat + 1) d
  | p + 1, d => Deal.prios first p (Deal.rounds ((p : Int) + 1) first (d.left.toNat + 1) d)
def fair? (procs : Int) (demand prio : List Int) (turn : Int) : Option (List Int) :=
  if demand.length ≠ prio.length ∨ 8 < demand.length ∨ within procs 64 = false ∨ prio.all (fun p => within p 7) = false then none else
  if demand.length = 0 then some [] else
  some (Deal.prios (pick turn demand.length) 7 ⟨procs, demand, prio, List.replicate demand.length 0⟩).out
def Krn.targets (k : Krn) (prio : List Int) (turn : Int) : List Int := (fair? (k.owner.length : Int) k.demand prio turn).getD []
def takeAll : List Int → Krn → Krn
  | [], k => k
  | p :: l, k => takeAll l (k.take p).2
def giveTo : Nat → Int → Krn → Krn
  | 0, _, k => k
  | m + 1, n, k => giveTo m n (k.give (k.free.headD 0) n).2
def libProcs (k : Krn) (n : Nat) : List Int := (k.libs.getD n libZ).procs
def takeFrom : List Int → Nat → Krn × Nat → Krn × Nat
  | [], _, z => z
  | w :: l, n, (k, m) => takeFrom l (n + 1) (takeAll ((libProcs k n).drop w.toNat) k, m + ((libProcs k n).drop w.toNat).length)
def giveFrom : List Int → Nat → Krn × Nat → Krn × Nat
  | [], _, z => z
  | w :: l, n, (k, m) => giveFrom l (n + 1) (giveTo (w.toNat - (libProcs k n).length) n k, m + (w.toNat - (libProcs k n).length))
def Krn.share (k : Krn) (prio : List Int) (turn : Int) : Krn × Nat :=
  giveFrom (k.targets prio turn) 0 (takeFrom (k.targets prio turn) 0 (k, 0))
def Krn.fair (k : Krn) (prio : List Int) (turn : Int) : Bool :=
  decide ((k.targets prio turn).length = k.libs.length) && decide ((k.libs.map fun l => (l.procs.length : Int)) = k.targets prio turn)
end Go.SLYtkflpgknieoknaa
