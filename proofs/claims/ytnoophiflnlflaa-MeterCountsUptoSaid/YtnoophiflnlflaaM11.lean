/- Counts of records: when two are one; a sum of counts. Conditions: none, this text proves no statement. -/
import Derived.Test.YtnoophiflnlflaaM8
namespace Go.SLYtnoophiflnlflaa
open Go Go.RowKit Go.Proofs Go.Proofs.YtnoophiflnlflaaX

theorem run_eqFields_one {P : Program} {d : Nat} {xs ys : Array Value} {f : Field} {fs : List Field} {a b : Value} {w : World} (hn : f.name ≠ "_") (h1 : Part P f.type xs f.offset a) (h2 : Part P f.type ys f.offset b) (h3 : ∀ w, (Op.equalIn d f.type a b).run P w = .ok true w) :
    (Op.eqFields d xs ys (f :: fs)).run P w = (Op.eqFields d xs ys fs).run P w := by
  simp only [Op.eqFields, if_pos hn, Sem.run_bind, h1 w, h2 w, h3, Result.andThen_ok]
  simp

theorem run_eq_struct {P : Program} {t : TypeId} {fs : Array Field} (hu : P.underlying t = some (.struct fs)) (hs : P.stoodInHeld t = false) (d : Nat) (xs ys : Array Value) (w : World) :
    (Op.equalIn (d + 1) t (.agg xs) (.agg ys)).run P w = (Op.eqFields d xs ys fs.toList).run P w := by
  have e : P.fieldsOf t = fs := by unfold Program.fieldsOf; rw [hu]
  have := run_equalIn_struct w d t xs ys (by rw [e]; exact hu) hs
  rwa [e] at this

theorem cnt_ops {c : Cnt} (h : c.ops.length = 39) : (cntV c).toArray.extract 0 (0 + 39) = (c.ops.map (Value.int .i64)).toArray := by
  unfold cntV
  rw [List.extract_toArray, List.extract_eq_take_drop]
  congr 1
  exact List.take_left' (by rw [List.length_map, h])
theorem cnt_p0 {c : Cnt} (h : c.ops.length = 39) : Part Try.prog 23 (cntV c).toArray 0 (.agg (c.ops.map (Value.int .i64)).toArray) := by
  have := Part.agg (P := Try.prog) (cs := (cntV c).toArray) (off := 0) Try.isAgg23 Try.sizeOf23
  rwa [cnt_ops h] at this
theorem cnt_p1 {c : Cnt} {i : Nat} {n : Int} (h : (cntV c)[i]? = some (.int .i64 n)) : Part Try.prog 3 (cntV c).toArray i (.int .i64 n) := Part.one Try.isAgg3 (by rw [List.getElem?_toArray]; exact h)
theorem cnt_q0 {ops : List Int} (h : ops.length = 39) (d : Nat) (w : World) : (Op.equalIn (d + 3) 23 (.agg (ops.map (Value.int .i64)).toArray) (.agg (ops.map (Value.int .i64)).toArray)).run Try.prog w = .ok true w := by
  have := (EqV.arrI Try.underlying23 Try.underlying3 Try.isAgg3 Try.sizeOf3 h h).up (show 2 ≤ 3 by omega) d w
  rwa [decide_eq_true rfl] at this
theorem cnt_q1 (d : Nat) (n : Int) (w : World) : (Op.equalIn (d + 3) 3 (.int .i64 n) (.int .i64 n)).run Try.prog w = .ok true w := by
  have := (EqV.int (k := .i64) (a := n) (b := n) Try.underlying3).up (show 1 ≤ 3 by omega) d w
  rwa [decide_eq_true rfl] at this
theorem eqCnt {c : Cnt} (h : c.ops.length = 39) : EqV Try.prog 25 4 (.agg (cntV c).toArray) (.agg (cntV c).toArray) true := fun d w => by
  have p0 := cnt_p0 h
  have p1 := cnt_p1 (cnt_b h)
  have p2 := cnt_p1 (cnt_o h)
  have p3 := cnt_p1 (cnt_e h)
  have q0 := cnt_q0 h d
  have q1 := cnt_q1 d
  generalize (cntV c).toArray = xs at *
  generalize Value.agg (c.ops.map (Value.int .i64)).toArray = x0 at *
  have hs : Try.prog.stoodInHeld 25 = false := by kernel_rfl
  refine (run_eq_struct Try.underlying25 hs (d + 3) xs xs w).trans ?_
  show (Op.eqFields (d + 3) xs xs [_, _, _, _]).run Try.prog w = _
  refine (run_eqFields_one (by decide) p0 p0 q0).trans ?_
  refine (run_eqFields_one (by decide) p1 p1 (q1 _)).trans ?_
  refine (run_eqFields_one (by decide) p2 p2 (q1 _)).trans ?_
  refine (run_eqFields_one (by decide) p3 p3 (q1 _)).trans ?_
  simp [Op.eqFields]

/-! the sum of two lists' counts is the count of both -/
theorem w64_add (a b : Int) : w64 (w64 a + w64 b) = w64 (a + b) := by
  simp only [w64, IntKind.wrap, IntKind.bits, IntKind.signed, Bool.true_and]
  split <;> split <;> split <;> simp_all <;> omega
theorem w64_w64 (a : Int) : w64 (w64 a) = w64 a := by
  have := w64_add a 0
  rwa [show w64 0 = 0 from rfl, Int.add_zero, Int.add_zero] at this
theorem w64_swap (a b c : Int) : w64 (a + w64 (b + c)) = w64 (w64 (a + b) + c) := by
  have h1 := w64_add a (b + c)
  have h2 := w64_add (a + b) c
  have h3 : ∀ x y : Int, w64 (w64 x + y) = w64 (x + y) := fun x y => by
    simp only [w64, IntKind.wrap, IntKind.bits, IntKind.signed, Bool.true_and]
    split <;> split <;> split <;> simp_all <;> omega
  rw [h3, Int.add_comm a (w64 (b + c)), h3, Int.add_comm (b + c) a, Int.add_assoc]
theorem sum_comm (a b : Cnt) : sumC a b = sumC b a := by
  unfold sumC
  rw [List.zipWith_comm]
  simp only [Int.add_comm]
theorem sum_add {a b : Cnt} (ha : a.ops.length = 39) (hb : b.ops.length = 39) (r : RecV) : sumC a (addC b r) = addC (sumC a b) r := by
  have h1 : sumC a (st1 b r) = st1 (sumC a b) r := by
    unfold st1
    split
    · rename_i h
      unfold sumC
      simp only [Cnt.mk.injEq, and_true]
      apply List.ext_getElem?
      intro i
      have hr : r.op.toNat < 39 := by omega
      by_cases hi : i < 39
      · simp only [List.getElem?_zipWith]
        by_cases e : r.op.toNat = i
        · subst e
          rw [List.getElem?_set_self (by rw [hb]; exact hr), List.getElem?_set_self (by simp [ha, hb, hr]), List.getElem?_eq_getElem (by omega : r.op.toNat < a.ops.length), List.getD_eq_getElem?_getD, List.getD_eq_getElem?_getD, List.getElem?_zipWith,
            List.getElem?_eq_getElem (by omega : r.op.toNat < a.ops.length), List.getElem?_eq_getElem (by omega : r.op.toNat < b.ops.length)]
          simp only [Option.getD_some]
          rw [w64_swap]
        · rw [List.getElem?_set_ne e, List.getElem?_set_ne e, List.getElem?_zipWith]
      · rw [List.getElem?_eq_none (by simp [ha, hb]; omega), List.getElem?_eq_none (by simp [ha, hb]; omega)]
    · rfl
  have h2 : ∀ b : Cnt, sumC a (st2 b r) = st2 (sumC a b) r := fun b => by
    unfold st2 sumC
    split <;> simp only [w64_swap]
  have h3 : ∀ b : Cnt, sumC a (st3 b r) = st3 (sumC a b) r := fun b => by
    unfold st3 sumC
    split <;> simp only [w64_swap]
  unfold addC
  rw [h3, h2, h1]
def Ok64 (c : Cnt) : Prop := (∀ x ∈ c.ops, w64 x = x) ∧ w64 c.begun = c.begun ∧ w64 c.over = c.over ∧ w64 c.errors = c.errors
theorem ok_add {c : Cnt} (h : Ok64 c) (r : RecV) : Ok64 (addC c r) := by
  have h1 : Ok64 (st1 c r) := by
    unfold st1; split
    · refine ⟨fun x hx => ?_, h.2⟩
      rcases List.mem_or_eq_of_mem_set hx with h' | h'
      · exact h.1 x h'
      · rw [h']; exact w64_w64 _
    · exact h
  have h2 : Ok64 (st2 (st1 c r) r) := by
    unfold st2; split
    · exact ⟨h1.1, h1.2.1, w64_w64 _, h1.2.2.2⟩
    · exact ⟨h1.1, w64_w64 _, h1.2.2.1, h1.2.2.2⟩
  unfold addC
  generalize st2 (st1 c r) r = d at h2
  unfold st3; split
  · exact ⟨h2.1, h2.2.1, h2.2.2.1, w64_w64 _⟩
  · exact h2
theorem ok_count (l : List RecV) : Ok64 (countC l) := by
  have : ∀ (l : List RecV) (c : Cnt), Ok64 c → Ok64 (l.foldl addC c) := by
    intro l
    induction l with
    | nil => intro c h; exact h
    | cons r l ih => intro c h; exact ih _ (ok_add h r)
  refine this l _ ⟨fun x hx => ?_, rfl, rfl, rfl⟩
  rw [List.eq_of_mem_replicate hx]; rfl
theorem sum_zero {c : Cnt} (hl : c.ops.length = 39) (h : Ok64 c) : sumC c Cnt.zero = c := by
  obtain ⟨ops, b, o, e⟩ := c
  obtain ⟨h1, h2, h3, h4⟩ := h
  unfold sumC Cnt.zero
  simp only [Int.add_zero, Cnt.mk.injEq] at *
  refine ⟨?_, h2, h3, h4⟩
  apply List.ext_getElem?
  intro i
  by_cases hi : i < 39
  · rw [List.getElem?_zipWith, List.getElem?_replicate, if_pos hi, List.getElem?_eq_getElem (by omega)]
    simp only [Int.add_zero]
    rw [h1 _ (List.getElem_mem _)]
  · rw [List.getElem?_eq_none (by simp [hl]; omega), List.getElem?_eq_none (by omega)]
theorem count_app (a b : List RecV) : countC (a ++ b) = sumC (countC a) (countC b) := by
  have : ∀ (n : Nat) (b : List RecV), b.length = n → countC (a ++ b) = sumC (countC a) (countC b) := by
    intro n
    induction n with
    | zero =>
      intro b hb
      have := List.eq_nil_of_length_eq_zero hb
      subst this
      rw [List.append_nil]; exact (sum_zero (lenC a) (ok_count a)).symm
    | succ n ih =>
      intro b hb
      have hne : b ≠ [] := fun e => by subst e; cases hb
      obtain ⟨b', r, rfl⟩ : ∃ b' r, b = b' ++ [r] := ⟨b.dropLast, b.getLast hne, (List.dropLast_concat_getLast hne).symm⟩
      rw [← List.append_assoc, count_snoc', count_snoc', ih b' (by simp at hb; omega), sum_add (lenC a) (lenC b')]
  exact this _ b rfl
end Go.SLYtnoophiflnlflaa
