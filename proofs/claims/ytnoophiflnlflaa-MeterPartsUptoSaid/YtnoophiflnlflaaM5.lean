/- Walks of functions, and what they compute. Conditions: none, this text proves no statement. -/
import Derived.Test.YtnoophiflnlflaaM4
import Derived.Test.YtnoophiflnlflaaSLh
namespace Go.SLYtnoophiflnlflaa
open Go Go.RowKit Go.Proofs Go.Proofs.YtnoophiflnlflaaX

def w64 (n : Int) : Int := IntKind.i64.wrap n
structure RecV where
  thread : Int
  op : Int
  x : Int
  y : Int
  result : Int
  fin : Bool
def recE (r : RecV) : List Value := [.int .u64 r.thread, .int .i64 r.op, .int .u64 r.x, .int .u64 r.y, .int .i64 r.result, .bool r.fin]
structure Cnt where
  ops : List Int
  begun : Int
  over : Int
  errors : Int
def Cnt.zero : Cnt := ⟨List.replicate 39 0, 0, 0, 0⟩
def cntV (c : Cnt) : List Value := c.ops.map (Value.int .i64) ++ [.int .i64 c.begun, .int .i64 c.over, .int .i64 c.errors]
def st1 (c : Cnt) (r : RecV) : Cnt := if 0 ≤ r.op ∧ r.op < 39 then { c with ops := c.ops.set r.op.toNat (w64 (c.ops.getD r.op.toNat 0 + 1)) } else c
def st2 (c : Cnt) (r : RecV) : Cnt := if r.fin = true then { c with over := w64 (c.over + 1) } else { c with begun := w64 (c.begun + 1) }
def st3 (c : Cnt) (r : RecV) : Cnt := if r.result ≠ 0 then { c with errors := w64 (c.errors + 1) } else c
def addC (c : Cnt) (r : RecV) : Cnt := st3 (st2 (st1 c r) r) r
def countC (l : List RecV) : Cnt := l.foldl addC Cnt.zero

def stO (c : Cnt) (r : RecV) : Cnt := if r.fin = true then { c with over := w64 (c.over + 1) } else c
def stB (c : Cnt) (r : RecV) : Cnt := if r.fin = true then c else { c with begun := w64 (c.begun + 1) }
theorem addC_alt (c : Cnt) (r : RecV) : addC c r = st3 (stB (stO (st1 c r) r) r) r := by
  unfold addC st2 stB stO
  by_cases h : r.fin = true <;> simp [h]
theorem lenO {c : Cnt} {r : RecV} (h : c.ops.length = 39) : (stO c r).ops.length = 39 := by unfold stO; split <;> simp [h]
theorem lenB {c : Cnt} {r : RecV} (h : c.ops.length = 39) : (stB c r).ops.length = 39 := by unfold stB; split <;> simp [h]
def sumC (a b : Cnt) : Cnt := ⟨List.zipWith (fun x y => w64 (x + y)) a.ops b.ops, w64 (a.begun + b.begun), w64 (a.over + b.over), w64 (a.errors + b.errors)⟩
theorem cntV_length {c : Cnt} (h : c.ops.length = 39) : (cntV c).length = 42 := by unfold cntV; simp [h]
theorem cnt_op {c : Cnt} (h : c.ops.length = 39) {i : Nat} (hi : i < 39) : (cntV c)[i]? = some (.int .i64 (c.ops.getD i 0)) := by
  unfold cntV
  rw [List.getElem?_append_left (by simp; omega), List.getElem?_map, List.getD_eq_getElem?_getD, List.getElem?_eq_getElem (by omega)]; rfl
theorem cnt_b {c : Cnt} (h : c.ops.length = 39) : (cntV c)[39]? = some (.int .i64 c.begun) := by
  unfold cntV; rw [List.getElem?_append_right (by simp; omega)]; simp [h]
theorem cnt_o {c : Cnt} (h : c.ops.length = 39) : (cntV c)[40]? = some (.int .i64 c.over) := by
  unfold cntV; rw [List.getElem?_append_right (by simp; omega)]; simp [h]
theorem cnt_e {c : Cnt} (h : c.ops.length = 39) : (cntV c)[41]? = some (.int .i64 c.errors) := by
  unfold cntV; rw [List.getElem?_append_right (by simp; omega)]; simp [h]
theorem set_op {c : Cnt} (h : c.ops.length = 39) {i : Nat} (hi : i < 39) (v : Int) : (cntV c).set i (.int .i64 v) = cntV { c with ops := c.ops.set i v } := by
  unfold cntV; rw [List.set_append_left _ _ (by simp; omega), ← List.map_set]
theorem set_b {c : Cnt} (h : c.ops.length = 39) (v : Int) : (cntV c).set 39 (.int .i64 v) = cntV { c with begun := v } := by
  unfold cntV; rw [List.set_append_right _ _ (by simp; omega)]; simp [h]
theorem set_o {c : Cnt} (h : c.ops.length = 39) (v : Int) : (cntV c).set 40 (.int .i64 v) = cntV { c with over := v } := by
  unfold cntV; rw [List.set_append_right _ _ (by simp; omega)]; simp [h]
theorem set_e {c : Cnt} (h : c.ops.length = 39) (v : Int) : (cntV c).set 41 (.int .i64 v) = cntV { c with errors := v } := by
  unfold cntV; rw [List.set_append_right _ _ (by simp; omega)]; simp [h]
theorem cnt_blt {c : Cnt} (h : c.ops.length = 39) {i : Nat} (hi : i < 42) : Nat.blt i (cntV c).length = true := by rw [cntV_length h]; exact Nat.blt_eq.mpr hi
theorem len1 {c : Cnt} {r : RecV} (h : c.ops.length = 39) : (st1 c r).ops.length = 39 := by unfold st1; split <;> simp [h]
theorem len2 {c : Cnt} {r : RecV} (h : c.ops.length = 39) : (st2 c r).ops.length = 39 := by unfold st2; split <;> simp [h]
theorem len3 {c : Cnt} {r : RecV} (h : c.ops.length = 39) : (st3 c r).ops.length = 39 := by unfold st3; split <;> simp [h]
theorem lenA {c : Cnt} {r : RecV} (h : c.ops.length = 39) : (addC c r).ops.length = 39 := len3 (len2 (len1 h))
theorem cntV_one (c : Cnt) : (cntV c).all (·.oneCell') = true := by unfold cntV; rw [List.all_append, Bool.and_eq_true]; exact ⟨by simp [Value.oneCell'], rfl⟩
theorem take_snoc {α : Type} {l : List α} {k : Nat} {x : α} (h : l[k]? = some x) : l.take (k + 1) = l.take k ++ [x] := by
  have hi := (List.getElem?_eq_some_iff.1 h).1
  have he := (List.getElem?_eq_some_iff.1 h).2
  rw [List.take_succ_eq_append_getElem hi, he]
theorem zero_len : Cnt.zero.ops.length = 39 := rfl
theorem count_snoc' (l : List RecV) (r : RecV) : countC (l ++ [r]) = addC (countC l) r := by unfold countC; rw [List.foldl_append]; rfl
theorem lenC (l : List RecV) : (countC l).ops.length = 39 := by
  have : ∀ (l : List RecV) (c : Cnt), c.ops.length = 39 → (l.foldl addC c).ops.length = 39 := by
    intro l
    induction l with
    | nil => intro c h; exact h
    | cons r l ih => intro c h; exact ih _ (lenA h)
  exact this l _ zero_len

def mixC (a b : Cnt) (k : Nat) : Cnt := { a with ops := (sumC a b).ops.take k ++ a.ops.drop k }
theorem sumC_len {a b : Cnt} (ha : a.ops.length = 39) (hb : b.ops.length = 39) : (sumC a b).ops.length = 39 := by unfold sumC; simp [ha, hb]
theorem mix_len {a b : Cnt} (ha : a.ops.length = 39) (hb : b.ops.length = 39) {k : Nat} (hk : k ≤ 39) : (mixC a b k).ops.length = 39 := by
  have := sumC_len ha hb
  unfold mixC; simp only [List.length_append, List.length_take, List.length_drop]; omega
theorem mix_zero (a b : Cnt) : mixC a b 0 = a := by unfold mixC; simp
theorem mix_all {a b : Cnt} (ha : a.ops.length = 39) (hb : b.ops.length = 39) : mixC a b 39 = { a with ops := (sumC a b).ops } := by
  unfold mixC; rw [List.take_of_length_le (by rw [sumC_len ha hb]; omega), List.drop_of_length_le (by omega), List.append_nil]
theorem mix_get {a b : Cnt} (ha : a.ops.length = 39) (hb : b.ops.length = 39) {k : Nat} (hk : k < 39) : (mixC a b k).ops.getD k 0 = a.ops.getD k 0 := by
  have := sumC_len ha hb
  unfold mixC
  rw [List.getD_eq_getElem?_getD, List.getD_eq_getElem?_getD, List.getElem?_append_right (by rw [List.length_take]; omega), List.getElem?_drop, List.length_take]
  congr 2; omega
theorem mix_set {a b : Cnt} (ha : a.ops.length = 39) (hb : b.ops.length = 39) {k : Nat} (hk : k < 39) : { mixC a b k with ops := (mixC a b k).ops.set k (w64 (a.ops.getD k 0 + b.ops.getD k 0)) } = mixC a b (k + 1) := by
  have hs := sumC_len ha hb
  unfold mixC
  congr 1
  simp only
  rw [List.set_append_right _ _ (by rw [List.length_take]; omega), List.length_take, show k - min k (sumC a b).ops.length = 0 from by omega, List.drop_eq_getElem_cons (by omega : k < a.ops.length), List.set_cons_zero,
    List.take_succ_eq_append_getElem (by omega), List.append_assoc]
  congr 1
  simp only [List.singleton_append, List.cons.injEq, and_true]
  have : (sumC a b).ops[k]'(by omega) = w64 (a.ops[k]'(by omega) + b.ops[k]'(by omega)) := by simp [sumC]
  rw [this, List.getD_eq_getElem?_getD, List.getD_eq_getElem?_getD, List.getElem?_eq_getElem (by omega), List.getElem?_eq_getElem (by omega)]
  rfl

section
variable {P : Program} {W : World} {N : Nat} {L : List (Nat × Option Value)} {H : List HProp} {T : TypeId}
theorem Y.ixA1 {x y : Operand} {t e n b : Nat} {kd : IntKind} {j : Int} (i : Nat) (hu : P.underlying t = some (.array n e)) (hz : ∀ w, (sizeOf e).run P w = .ok 1 w) (hx : ev L x = some (.pointer (some ⟨b, 0, none⟩))) (hy : ev L y = some (.int kd j)) (hj : j = (i : Int)) (hi : i < n) :
    Yields P W N (.indexAddr t x y) T L H (.pointer (some ⟨b, i, none⟩)) := by
  have := Y.ixArr (P := P) (W := W) (N := N) (H := H) (T := T) i hu hz hx hy hj hi
  rwa [Nat.zero_add, Nat.mul_one] at this
theorem Cells.left {b o : Nat} {l r : List Value} (h : Cells W H b o (l ++ r)) : Cells W H b o l := fun j v hv => h j v (by
  rw [List.getElem?_append_left (List.getElem?_eq_some_iff.1 hv).1]; exact hv)
theorem Y.indexA {x y : Operand} {t e n : Nat} {xs : Array Value} {kd : IntKind} {j : Int} {v : Value} (i : Nat) (hu : P.underlying t = some (.array n e)) (ha : ∀ w, (isAgg e).run P w = .ok false w) (hz : ∀ w, (sizeOf e).run P w = .ok 1 w) (hx : ev L x = some (.agg xs)) (hy : ev L y = some (.int kd j)) (hj : j = (i : Int)) (hi : i < n) (hv : xs[i]? = some v) :
    Yields P W N (.index t x y) T L H v := fun dst pos after guard a w he hs => by
  subst hj
  simp only [execOp, he.eval hx, he.eval hy]
  refine value_run ?_
  simp [Instr.index, asIntOf, run_underlying hu, hi, hz, part, ha, hv]
end
end Go.SLYtnoophiflnlflaa
