/- Where a thread is. Conditions: none, this text proves no statement. -/
import Derived.Test.YtkflpgknieoknaaK12
namespace Go.SLYtkflpgknieoknaa
open Go Go.RowKit

structure Plc where
  kind : Int
  at_ : Int
deriving DecidableEq
def plcE (p : Plc) : List Value := [.int .i64 p.kind, .int .i64 p.at_]
def lookV (l : Lib) (p : Int) : Vsl := if l.has p = true then l.vs.getD p.toNat Vsl.z else Vsl.z
def isTold (slot : Int) (e : Ev) : Bool := decide (e.thread = slot) && (evRuns e || decide (e.mode > 0))
def toldN (l : List Ev) (slot : Int) : Nat := (l.filter (isTold slot)).length
def whereFrom (t : Int) : List (List Int) → Nat → Int × Bool
  | [], _ => (0, false)
  | r :: l, n => if t ∈ r then ((n : Int), true) else whereFrom t l (n + 1)
def atProc (l : Lib) (slot p : Int) : List Plc :=
  (if ((lookV l p).runs = true ∧ (lookV l p).thread = slot) then [⟨1, p⟩] else []) ++ List.replicate (toldN (lookV l p).evs slot) ⟨3, p⟩
def placeOf (l : Lib) (slot : Int) : List Plc :=
  l.procs.flatMap (atProc l slot) ++ (if (whereFrom slot l.rows 0).2 = true then [⟨2, (whereFrom slot l.rows 0).1⟩] else []) ++ List.replicate (toldN l.waiting slot) ⟨4, -1⟩
theorem told_yes {l : List Ev} {k : Nat} {e : Ev} {slot : Int} (h : l[k]? = some e) (ht : isTold slot e = true) : toldN (l.take (k + 1)) slot = toldN (l.take k) slot + 1 := by
  unfold toldN; rw [take_snoc h, List.filter_append, List.length_append, List.filter_cons, if_pos ht]; rfl
theorem told_no {l : List Ev} {k : Nat} {e : Ev} {slot : Int} (h : l[k]? = some e) (ht : isTold slot e = false) : toldN (l.take (k + 1)) slot = toldN (l.take k) slot := by
  unfold toldN; rw [take_snoc h, List.filter_append, List.length_append, List.filter_cons, if_neg (by rw [ht]; simp)]; rfl
theorem told_le (l : List Ev) (slot : Int) : toldN l slot ≤ l.length := List.length_filter_le _ _
theorem look_no {l : Lib} {p : Int} (h : l.has p = false) : lookV l p = Vsl.z := by unfold lookV; rw [if_neg (by rw [h]; simp)]
theorem look_yes {l : Lib} {i : Nat} {v : Vsl} (h : l.has (i : Int) = true) (hv : l.vs[i]? = some v) : lookV l (i : Int) = v := by unfold lookV; rw [if_pos h, Int.toNat_natCast, getD_of hv]
theorem where_yes {t : Int} {rs : List (List Int)} {n : Nat} {r : List Int} (h : rs[n]? = some r) (ht : t ∈ r) : whereFrom t (rs.drop n) n = ((n : Int), true) := by rw [drop_cons h, whereFrom, if_pos ht]
theorem where_no {t : Int} {rs : List (List Int)} {n : Nat} {r : List Int} (h : rs[n]? = some r) (ht : t ∉ r) : whereFrom t (rs.drop n) n = whereFrom t (rs.drop (n + 1)) (n + 1) := by rw [drop_cons h, whereFrom, if_neg ht]
theorem where_end {t : Int} {rs : List (List Int)} {n : Nat} (h : rs.length ≤ n) : whereFrom t (rs.drop n) n = (0, false) := by rw [List.drop_of_length_le h]; rfl
theorem look_ev {m : Nat} {l : Lib} (h : ∀ v ∈ l.vs, v.evs.length ≤ m) (p : Int) : (lookV l p).evs.length ≤ m := by
  unfold lookV
  split
  · rw [List.getD_eq_getElem?_getD]
    cases e : l.vs[p.toNat]? with
    | none => exact Nat.zero_le _
    | some v => exact h v (List.mem_of_getElem? e)
  · exact Nat.zero_le _
theorem at_yes {l : Lib} {slot p : Int} {ys : List Plc} (h : ((lookV l p).runs && decide (runsT (lookV l p) = slot)) = true) : ys ++ atProc l slot p = (ys ++ List.replicate 1 ⟨1, p⟩) ++ List.replicate (toldN (lookV l p).evs slot) ⟨3, p⟩ := by
  simp only [Bool.and_eq_true, decide_eq_true_eq] at h
  have h2 := h.2
  unfold runsT at h2
  rw [if_pos h.1] at h2
  unfold atProc; rw [if_pos ⟨h.1, h2⟩, ← List.append_assoc]; rfl
theorem at_no {l : Lib} {slot p : Int} {ys : List Plc} (h : ((lookV l p).runs && decide (runsT (lookV l p) = slot)) = false) : ys ++ atProc l slot p = ys ++ List.replicate (toldN (lookV l p).evs slot) ⟨3, p⟩ := by
  unfold atProc
  rw [if_neg, List.nil_append]
  rintro ⟨h1, h2⟩
  unfold runsT at h
  rw [if_pos h1, h1, decide_eq_true h2] at h
  cases h
/-! bounds, and where everything is -/
structure POk (k : Krn) : Prop where
  ev : ∀ l ∈ k.libs, (∀ v ∈ l.vs, v.evs.length ≤ 1000000) ∧ l.waiting.length ≤ 1000000 ∧ l.rows.length ≤ 64 ∧ ∀ r ∈ l.rows, r.length ≤ 1000000
def wherePart (l : Lib) (slot : Int) : List Plc := if (whereFrom slot l.rows 0).2 = true then [⟨2, (whereFrom slot l.rows 0).1⟩] else []
theorem placeOf_eq (l : Lib) (slot : Int) : placeOf l slot = (l.procs.flatMap (atProc l slot) ++ wherePart l slot) ++ List.replicate (toldN l.waiting slot) ⟨4, -1⟩ := rfl
theorem atp_snoc {l : Lib} {slot p : Int} {k : Nat} (h : l.procs[k]? = some p) : (l.procs.take (k + 1)).flatMap (atProc l slot) = (l.procs.take k).flatMap (atProc l slot) ++ atProc l slot p := by rw [take_snoc h, List.flatMap_append]; simp
theorem at_len {m : Nat} {l : Lib} (h : ∀ v ∈ l.vs, v.evs.length ≤ m) (slot p : Int) : (atProc l slot p).length ≤ m + 1 := by
  have := told_le (lookV l p).evs slot
  have := look_ev h p
  unfold atProc
  rw [List.length_append, List.length_replicate]
  split <;> simp <;> omega
theorem flat_len {m : Nat} {l : Lib} (h : ∀ v ∈ l.vs, v.evs.length ≤ m) (slot : Int) : ∀ ps : List Int, (ps.flatMap (atProc l slot)).length ≤ ps.length * (m + 1)
  | [] => by simp
  | p :: ps => by
    have := at_len h slot p
    have := flat_len h slot ps
    rw [List.flatMap_cons, List.length_append, List.length_cons, Nat.add_mul]
    omega
theorem flat_len' {l : Lib} (hv : l.vs.length ≤ 64) (h : ∀ v ∈ l.vs, v.evs.length ≤ 1000000) (slot : Int) (k : Nat) : ((l.procs.take k).flatMap (atProc l slot)).length ≤ 70000000 := by
  have h1 := flat_len h slot (l.procs.take k)
  have h2 : (l.procs.take k).length ≤ 64 := by rw [List.length_take]; have := procs_len l.vs 0; have : l.procs.length ≤ l.vs.length := this; omega
  have h3 : (l.procs.take k).length * (1000000 + 1) ≤ 64 * (1000000 + 1) := Nat.mul_le_mul_right _ h2
  omega
/-- Every thread of every space is at one place if it is ready, else at none. -/
def rightIn (l : Lib) : Nat → Bool
  | 0 => true
  | n + 1 => rightIn l n && decide ((placeOf l (n : Int)).length = if l.spc.ready.contains (n : Int) then 1 else 0)
def rightTo (k : Krn) : Nat → Bool
  | 0 => true
  | n + 1 => rightTo k n && rightIn (k.libs.getD n libZ) 16
def ownIn (k : Krn) (p : Nat) : Nat → Bool
  | 0 => true
  | n + 1 => ownIn k p n && decide ((k.libs.getD n libZ).procs.contains (p : Int) = ((k.ownerOf (p : Int)).2 && decide ((n : Int) = (k.ownerOf (p : Int)).1)))
def ownTo (k : Krn) : Nat → Bool
  | 0 => true
  | p + 1 => ownTo k p && ownIn k p k.libs.length
def ownAll (k : Krn) : Bool := ownTo k k.owner.length
def rightAll (k : Krn) : Bool := rightTo k k.libs.length && ownAll k
theorem ownIn_mono {k : Krn} {p : Nat} : ∀ {m n : Nat}, n ≤ m → ownIn k p n = false → ownIn k p m = false
  | 0, n, h, e => by obtain rfl : n = 0 := by omega
                     exact e
  | m + 1, n, h, e => by
    by_cases c : n = m + 1
    · rw [← c]; exact e
    · rw [ownIn, ownIn_mono (by omega) e, Bool.false_and]
theorem ownTo_mono {k : Krn} : ∀ {m n : Nat}, n ≤ m → ownTo k n = false → ownTo k m = false
  | 0, n, h, e => by obtain rfl : n = 0 := by omega
                     exact e
  | m + 1, n, h, e => by
    by_cases c : n = m + 1
    · rw [← c]; exact e
    · rw [ownTo, ownTo_mono (by omega) e, Bool.false_and]
theorem rightIn_mono {l : Lib} : ∀ {m n : Nat}, n ≤ m → rightIn l n = false → rightIn l m = false
  | 0, n, h, e => by obtain rfl : n = 0 := by omega
                     exact e
  | m + 1, n, h, e => by
    by_cases c : n = m + 1
    · rw [← c]; exact e
    · rw [rightIn, rightIn_mono (by omega) e, Bool.false_and]
theorem rightTo_mono {k : Krn} : ∀ {m n : Nat}, n ≤ m → rightTo k n = false → rightTo k m = false
  | 0, n, h, e => by obtain rfl : n = 0 := by omega
                     exact e
  | m + 1, n, h, e => by
    by_cases c : n = m + 1
    · rw [← c]; exact e
    · rw [rightTo, rightTo_mono (by omega) e, Bool.false_and]
theorem own_bad {k : Krn} {p n : Nat} {l : Lib} (hp : p < k.owner.length) (hn : n < k.libs.length) (hl : k.libs[n]? = some l) (h : ¬ l.procs.contains (p : Int) = ((k.ownerOf (p : Int)).2 && decide ((n : Int) = (k.ownerOf (p : Int)).1))) : ownAll k = false := by
  unfold ownAll
  refine ownTo_mono (n := p + 1) (by omega) ?_
  rw [ownTo, ownIn_mono (n := n + 1) (by omega) (by rw [ownIn, getD_of hl, decide_eq_false h, Bool.and_false]), Bool.and_false]
theorem right_bad {k : Krn} {n s : Nat} {l : Lib} (hs : s < 16) (hn : n < k.libs.length) (hl : k.libs[n]? = some l) (h : ¬ (placeOf l (s : Int)).length = if l.spc.ready.contains (s : Int) then 1 else 0) : rightAll k = false := by
  unfold rightAll
  rw [rightTo_mono (n := n + 1) (by omega) (by rw [rightTo, getD_of hl, rightIn_mono (n := s + 1) (by omega) (by rw [rightIn, decide_eq_false h, Bool.and_false]), Bool.and_false]), Bool.false_and]
end Go.SLYtkflpgknieoknaa
