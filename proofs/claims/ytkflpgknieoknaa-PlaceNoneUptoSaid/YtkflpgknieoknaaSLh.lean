/- Comparing structs and arrays; parts of slices; effects under a guard. Conditions: none, this text proves no statement. -/
import Derived.Test.YtkflpgknieoknaaSLg
import Derived.Laws.StructEq
import Derived.Laws.Tables
namespace Go.SLYtkflpgknieoknaa
open Go Go.RowKit
section
variable {P : Program}
def EqV (P : Program) (t : TypeId) (k : Nat) (x y : Value) (b : Bool) : Prop := ∀ d w, (Op.equalIn (d + k) t x y).run P w = .ok b w
def Part (P : Program) (t : TypeId) (cs : Array Value) (off : Nat) (v : Value) : Prop := ∀ w, (part t cs off).run P w = .ok v w

theorem Part.one {t : TypeId} {cs : Array Value} {off : Nat} {v : Value} (ha : ∀ w, (isAgg t).run P w = .ok false w) (h : cs[off]? = some v) : Part P t cs off v := fun w => by
  simp [part, ha, h]
theorem Part.agg {t : TypeId} {cs : Array Value} {off n : Nat} (ha : ∀ w, (isAgg t).run P w = .ok true w) (hz : ∀ w, (sizeOf t).run P w = .ok n w) : Part P t cs off (.agg (cs.extract off (off + n))) := fun w => by
  simp [part, ha, hz]
theorem EqV.int {t : TypeId} {k k' : IntKind} {a b : Int} (h : P.underlying t = some (.int k')) : EqV P t 1 (.int k a) (.int k b) (decide (a = b)) := fun d w => by
  rw [run_equalIn_int w d t k k' a b h]; congr 1
theorem EqV.bool {t : TypeId} {a b : Bool} (h : P.underlying t = some .bool) : EqV P t 1 (.bool a) (.bool b) (decide (a = b)) := fun d w => by
  rw [run_equalIn_bool w d t a b h]; cases a <;> cases b <;> rfl
theorem EqV.up {t : TypeId} {k m : Nat} {x y : Value} {b : Bool} (h : EqV P t k x y b) (hm : k ≤ m) : EqV P t m x y b := fun d w => by
  have := h (d + (m - k)) w
  rwa [show d + (m - k) + k = d + m from by omega] at this

theorem eqLoop {e : TypeId} {kd : IntKind} {m : Nat} (hm : ∀ a b w, (Op.equalIn m e (.int kd a) (.int kd b)).run P w = .ok (decide (a = b)) w) (ha : ∀ w, (isAgg e).run P w = .ok false w) (xs ys : List Int) (hl : xs.length = ys.length) (w : World) :
    ∀ (n i : Nat), i + n = xs.length → ∃ r : Option Bool × Unit, (forIn (m := Sem) (List.range' i n) ((none, ()) : Option Bool × Unit) fun i __s => do
        let a ← part e (xs.map (Value.int kd)).toArray (i * 1)
        let b ← part e (ys.map (Value.int kd)).toArray (i * 1)
        let r ← Op.equalIn m e a b
        if (!r) = true then pure (ForInStep.done (some false, ())) else pure (ForInStep.yield (none, ()))).run P w = .ok r w ∧
      r.1.getD true = decide (xs.drop i = ys.drop i)
  | 0, i, h => ⟨(none, ()), by simp, by rw [List.drop_of_length_le (by omega), List.drop_of_length_le (by omega)]; rfl⟩
  | n + 1, i, h => by
    obtain ⟨r, h1, h2⟩ := eqLoop hm ha xs ys hl w n (i + 1) (by omega)
    have hx : i < xs.length := by omega
    have hy : i < ys.length := by omega
    have p1 : Part P e (xs.map (Value.int kd)).toArray (i * 1) (.int kd xs[i]) := Part.one ha (by simp [hx])
    have p2 : Part P e (ys.map (Value.int kd)).toArray (i * 1) (.int kd ys[i]) := Part.one ha (by simp [hy])
    have dx : xs.drop i = xs[i] :: xs.drop (i + 1) := List.drop_eq_getElem_cons hx
    have dy : ys.drop i = ys[i] :: ys.drop (i + 1) := List.drop_eq_getElem_cons hy
    by_cases e : xs[i] = ys[i]
    · refine ⟨r, ?_, ?_⟩
      · rw [List.range'_succ, List.forIn_cons]
        simp only [Sem.run_bind, p1 w, p2 w, Result.andThen_ok, hm, e]
        simpa using h1
      · rw [h2, dx, dy, e, decide_eq_decide, List.cons.injEq]; exact ⟨fun h => ⟨rfl, h⟩, fun h => h.2⟩
    · refine ⟨(some false, ()), ?_, ?_⟩
      · rw [List.range'_succ, List.forIn_cons]
        simp only [Sem.run_bind, p1 w, p2 w, Result.andThen_ok, hm, e]
        simp
      · rw [dx, dy, decide_eq_false (fun h => e (List.cons.inj h).1)]; rfl
theorem EqV.arrI {t e : TypeId} {n : Nat} {kd : IntKind} (hu : P.underlying t = some (.array n e)) (he : P.underlying e = some (.int kd)) (ha : ∀ w, (isAgg e).run P w = .ok false w) (hz : ∀ w, (sizeOf e).run P w = .ok 1 w) {xs ys : List Int} (hx : xs.length = n) (hy : ys.length = n) :
    EqV P t 2 (.agg (xs.map (Value.int kd)).toArray) (.agg (ys.map (Value.int kd)).toArray) (decide (xs = ys)) := fun d w => by
  have hm : ∀ a b w, (Op.equalIn (d + 1) e (.int kd a) (.int kd b)).run P w = .ok (decide (a = b)) w := fun a b w => EqV.int he d w
  show (Op.equalIn ((d + 1) + 1) t _ _).run P w = _
  generalize d + 1 = m at hm
  obtain ⟨r, h1, h2⟩ := eqLoop hm ha xs ys (hx.trans hy.symm) w n 0 (by omega)
  simp only [Op.equalIn, Sem.run_bind, run_underlying hu, Result.andThen_ok, hz]
  rw [Std.Legacy.Range.forIn_eq_forIn_range', show ([:n].size) = n from by simp [Std.Legacy.Range.size]]
  rw [h1]
  rcases r with ⟨_ | b, _⟩
  · simp at h2 ⊢; exact h2
  · simp at h2 ⊢; exact h2
theorem EqV.eql {t : TypeId} {k : Nat} {xs ys : Array Value} {b : Bool} (h : EqV P t k (.agg xs) (.agg ys) b) (hk : k ≤ 10000) (w : World) : (Op.equal t (.agg xs) (.agg ys)).run P w = .ok b w := h.up hk 0 w
end

section
variable {P : Program} {W : World} {N : Nat} {Q : Exit → Act → World → Prop} {L : List (Nat × Option Value)} {H K : List HProp} {O : Array Oper} {T : TypeId} {ks : List Nat} {rest : List Oper} {α : Type}
theorem Y.eqAgg {xT yT : TypeId} {x y : Operand} {xs ys : Array Value} {k : Nat} {b : Bool} (hg : P.eqGuardType P.depth xT = false) (h : EqV P xT k (.agg xs) (.agg ys) b) (hk : Nat.ble k 10000 = true) (hx : ev L x = some (.agg xs)) (hy : ev L y = some (.agg ys)) :
    Yields P W N (.binOp .eql xT x y yT) T L H (.bool b) :=
  Y.bin hx hy fun w => by
    rw [Sem.run_bind, run_eqGuard_agg w .eql xT x y xs ys hg]
    simp only [Result.andThen_ok]
    rw [run_eql_struct, h.up (Nat.le_of_ble_eq_true hk) 0 w]; rfl
theorem Y.neqAgg {xT yT : TypeId} {x y : Operand} {xs ys : Array Value} {k : Nat} {b : Bool} (hg : P.eqGuardType P.depth xT = false) (h : EqV P xT k (.agg xs) (.agg ys) b) (hk : Nat.ble k 10000 = true) (hx : ev L x = some (.agg xs)) (hy : ev L y = some (.agg ys)) :
    Yields P W N (.binOp .neq xT x y yT) T L H (.bool (!b)) :=
  Y.bin hx hy fun w => by
    rw [Sem.run_bind, run_eqGuard_agg w .neq xT x y xs ys hg]
    simp only [Result.andThen_ok]
    rw [run_neq_struct, h.up (Nat.le_of_ble_eq_true hk) 0 w]; rfl

/-! structs and arrays laid out -/
theorem Y.bld0 {t : TypeId} (f : List Value) (h : P.built t [] = some (f).toArray) : Yields P W N (.build t #[]) T L H (.agg (f).toArray) :=
  Y.build (vs := []) (by simp [evParts]) fun w => run_build w t _ _ h
theorem Y.bld1 {t : TypeId} {i1 : Nat} {x1 : Operand} {v1 : Value} (f : Value → List Value) (h1 : ev L x1 = some v1) (h : P.built t [(i1, v1)] = some (f v1).toArray) : Yields P W N (.build t #[(i1, x1)]) T L H (.agg (f v1).toArray) :=
  Y.build (vs := [(i1, v1)]) (by simp [evParts, h1]) fun w => run_build w t _ _ h
theorem Y.bld2 {t : TypeId} {i1 : Nat} {x1 : Operand} {v1 : Value} {i2 : Nat} {x2 : Operand} {v2 : Value} (f : Value → Value → List Value) (h1 : ev L x1 = some v1) (h2 : ev L x2 = some v2) (h : P.built t [(i1, v1), (i2, v2)] = some (f v1 v2).toArray) : Yields P W N (.build t #[(i1, x1), (i2, x2)]) T L H (.agg (f v1 v2).toArray) :=
  Y.build (vs := [(i1, v1), (i2, v2)]) (by simp [evParts, h1, h2]) fun w => run_build w t _ _ h
theorem Y.bld3 {t : TypeId} {i1 : Nat} {x1 : Operand} {v1 : Value} {i2 : Nat} {x2 : Operand} {v2 : Value} {i3 : Nat} {x3 : Operand} {v3 : Value} (f : Value → Value → Value → List Value) (h1 : ev L x1 = some v1) (h2 : ev L x2 = some v2) (h3 : ev L x3 = some v3) (h : P.built t [(i1, v1), (i2, v2), (i3, v3)] = some (f v1 v2 v3).toArray) : Yields P W N (.build t #[(i1, x1), (i2, x2), (i3, x3)]) T L H (.agg (f v1 v2 v3).toArray) :=
  Y.build (vs := [(i1, v1), (i2, v2), (i3, v3)]) (by simp [evParts, h1, h2, h3]) fun w => run_build w t _ _ h
theorem Y.bld4 {t : TypeId} {i1 : Nat} {x1 : Operand} {v1 : Value} {i2 : Nat} {x2 : Operand} {v2 : Value} {i3 : Nat} {x3 : Operand} {v3 : Value} {i4 : Nat} {x4 : Operand} {v4 : Value} (f : Value → Value → Value → Value → List Value) (h1 : ev L x1 = some v1) (h2 : ev L x2 = some v2) (h3 : ev L x3 = some v3) (h4 : ev L x4 = some v4) (h : P.built t [(i1, v1), (i2, v2), (i3, v3), (i4, v4)] = some (f v1 v2 v3 v4).toArray) : Yields P W N (.build t #[(i1, x1), (i2, x2), (i3, x3), (i4, x4)]) T L H (.agg (f v1 v2 v3 v4).toArray) :=
  Y.build (vs := [(i1, v1), (i2, v2), (i3, v3), (i4, v4)]) (by simp [evParts, h1, h2, h3, h4]) fun w => run_build w t _ _ h
theorem Y.bld5 {t : TypeId} {i1 : Nat} {x1 : Operand} {v1 : Value} {i2 : Nat} {x2 : Operand} {v2 : Value} {i3 : Nat} {x3 : Operand} {v3 : Value} {i4 : Nat} {x4 : Operand} {v4 : Value} {i5 : Nat} {x5 : Operand} {v5 : Value} (f : Value → Value → Value → Value → Value → List Value) (h1 : ev L x1 = some v1) (h2 : ev L x2 = some v2) (h3 : ev L x3 = some v3) (h4 : ev L x4 = some v4) (h5 : ev L x5 = some v5) (h : P.built t [(i1, v1), (i2, v2), (i3, v3), (i4, v4), (i5, v5)] = some (f v1 v2 v3 v4 v5).toArray) : Yields P W N (.build t #[(i1, x1), (i2, x2), (i3, x3), (i4, x4), (i5, x5)]) T L H (.agg (f v1 v2 v3 v4 v5).toArray) :=
  Y.build (vs := [(i1, v1), (i2, v2), (i3, v3), (i4, v4), (i5, v5)]) (by simp [evParts, h1, h2, h3, h4, h5]) fun w => run_build w t _ _ h
theorem Y.bld6 {t : TypeId} {i1 : Nat} {x1 : Operand} {v1 : Value} {i2 : Nat} {x2 : Operand} {v2 : Value} {i3 : Nat} {x3 : Operand} {v3 : Value} {i4 : Nat} {x4 : Operand} {v4 : Value} {i5 : Nat} {x5 : Operand} {v5 : Value} {i6 : Nat} {x6 : Operand} {v6 : Value} (f : Value → Value → Value → Value → Value → Value → List Value) (h1 : ev L x1 = some v1) (h2 : ev L x2 = some v2) (h3 : ev L x3 = some v3) (h4 : ev L x4 = some v4) (h5 : ev L x5 = some v5) (h6 : ev L x6 = some v6) (h : P.built t [(i1, v1), (i2, v2), (i3, v3), (i4, v4), (i5, v5), (i6, v6)] = some (f v1 v2 v3 v4 v5 v6).toArray) : Yields P W N (.build t #[(i1, x1), (i2, x2), (i3, x3), (i4, x4), (i5, x5), (i6, x6)]) T L H (.agg (f v1 v2 v3 v4 v5 v6).toArray) :=
  Y.build (vs := [(i1, v1), (i2, v2), (i3, v3), (i4, v4), (i5, v5), (i6, v6)]) (by simp [evParts, h1, h2, h3, h4, h5, h6]) fun w => run_build w t _ _ h
theorem Y.bld7 {t : TypeId} {i1 : Nat} {x1 : Operand} {v1 : Value} {i2 : Nat} {x2 : Operand} {v2 : Value} {i3 : Nat} {x3 : Operand} {v3 : Value} {i4 : Nat} {x4 : Operand} {v4 : Value} {i5 : Nat} {x5 : Operand} {v5 : Value} {i6 : Nat} {x6 : Operand} {v6 : Value} {i7 : Nat} {x7 : Operand} {v7 : Value} (f : Value → Value → Value → Value → Value → Value → Value → List Value) (h1 : ev L x1 = some v1) (h2 : ev L x2 = some v2) (h3 : ev L x3 = some v3) (h4 : ev L x4 = some v4) (h5 : ev L x5 = some v5) (h6 : ev L x6 = some v6) (h7 : ev L x7 = some v7) (h : P.built t [(i1, v1), (i2, v2), (i3, v3), (i4, v4), (i5, v5), (i6, v6), (i7, v7)] = some (f v1 v2 v3 v4 v5 v6 v7).toArray) : Yields P W N (.build t #[(i1, x1), (i2, x2), (i3, x3), (i4, x4), (i5, x5), (i6, x6), (i7, x7)]) T L H (.agg (f v1 v2 v3 v4 v5 v6 v7).toArray) :=
  Y.build (vs := [(i1, v1), (i2, v2), (i3, v3), (i4, v4), (i5, v5), (i6, v6), (i7, v7)]) (by simp [evParts, h1, h2, h3, h4, h5, h6, h7]) fun w => run_build w t _ _ h
theorem Y.bld8 {t : TypeId} {i1 : Nat} {x1 : Operand} {v1 : Value} {i2 : Nat} {x2 : Operand} {v2 : Value} {i3 : Nat} {x3 : Operand} {v3 : Value} {i4 : Nat} {x4 : Operand} {v4 : Value} {i5 : Nat} {x5 : Operand} {v5 : Value} {i6 : Nat} {x6 : Operand} {v6 : Value} {i7 : Nat} {x7 : Operand} {v7 : Value} {i8 : Nat} {x8 : Operand} {v8 : Value} (f : Value → Value → Value → Value → Value → Value → Value → Value → List Value) (h1 : ev L x1 = some v1) (h2 : ev L x2 = some v2) (h3 : ev L x3 = some v3) (h4 : ev L x4 = some v4) (h5 : ev L x5 = some v5) (h6 : ev L x6 = some v6) (h7 : ev L x7 = some v7) (h8 : ev L x8 = some v8) (h : P.built t [(i1, v1), (i2, v2), (i3, v3), (i4, v4), (i5, v5), (i6, v6), (i7, v7), (i8, v8)] = some (f v1 v2 v3 v4 v5 v6 v7 v8).toArray) : Yields P W N (.build t #[(i1, x1), (i2, x2), (i3, x3), (i4, x4), (i5, x5), (i6, x6), (i7, x7), (i8, x8)]) T L H (.agg (f v1 v2 v3 v4 v5 v6 v7 v8).toArray) :=
  Y.build (vs := [(i1, v1), (i2, v2), (i3, v3), (i4, v4), (i5, v5), (i6, v6), (i7, v7), (i8, v8)]) (by simp [evParts, h1, h2, h3, h4, h5, h6, h7, h8]) fun w => run_build w t _ _ h

def builtS (P : Program) (t : TypeId) (n : Nat) (parts : List (Nat × Value)) : Option (TypeId × Array Value) :=
  match P.underlying t with
  | some (.slice e) => match P.info? e with
    | some ie => match ie.zero with
      | some z => if n * ie.size > 2 ^ 24 then none else
        (Instr.fill (fun i => some (i * ie.size, ie.size)) ((Array.range (n * ie.size)).map (z.cells[· % z.cells.size]!)) parts).map fun cs => (e, cs)
      | none => none
    | none => none
  | _ => none
theorem run_buildS (w : World) {t e : TypeId} {n : Nat} {vs : List (Nat × Value)} {cs : Array Value} (h : builtS P t n vs = some (e, cs)) : (Instr.buildSlice t n vs.toArray).run P w = .ok (.slice (some ⟨w.heap.size, 0, none⟩) n n) (w.alloc (.cells cs e)) := by
  unfold builtS at h
  cases hu : P.underlying t with
  | none => simp [hu] at h
  | some d =>
    cases d <;> try (simp [hu] at h; done)
    rename_i e'
    cases hi : P.info? e' with
    | none => simp [hu, hi] at h
    | some ie =>
      cases hz : ie.zero with
      | none => simp [hu, hi, hz] at h
      | some z =>
        simp only [hu, hi, hz] at h
        split at h
        · cases h
        · rename_i hb
          cases hf : Instr.fill (fun i => some (i * ie.size, ie.size)) ((Array.range (n * ie.size)).map (z.cells[· % z.cells.size]!)) vs with
          | none => rw [hf] at h; cases h
          | some cs' =>
            rw [hf] at h
            simp only [Option.map_some, Option.some.injEq, Prod.mk.injEq] at h
            obtain ⟨rfl, rfl⟩ := h
            have hsz : ∀ w, (sizeOf e').run P w = .ok ie.size w := fun w => by simp [sizeOf, typeInfo, hi]
            have hzv : ∀ w, (zeroValue e').run P w = .ok z w := fun w => by simp [zeroValue, typeInfo, hi, hz]
            by_cases h0 : n * ie.size = 0
            · have : (Array.range (n * ie.size)).map (fun x => z.cells[x % z.cells.size]!) = (Array.range (n * ie.size)).map (fun x => (#[] : Array Value)[x % 0]!) := by rw [h0]; simp
              rw [this] at hf
              simp [Instr.buildSlice, run_underlying hu, hsz, hb, h0] at hf ⊢
              simp [hf, newRow, Sem.run]
            · simp [Instr.buildSlice, run_underlying hu, hsz, hb, h0, hzv, hf, newRow, Sem.run]
theorem Does.bsl {t : TypeId} {n : Nat} {ps : Array (Nat × Operand)} {pos : String} {after : Array Edge} {guard : Option (Nat × Bool)} {d : Nat} {vs : List (Nat × Value)} (e : TypeId) (hN : Nat.blt d N = true) (hp : evParts L ps.toList = some vs) (h : builtS P t n vs = some (e, (vs.flatMap fun p => p.2.cells.toList).toArray)) :
    Does P W N ⟨some d, .buildSlice t n ps, T, pos, after, guard⟩ L H (fun L1 H1 => ∃ b, L1 = (d, some (.slice (some ⟨b, 0, none⟩) n n)) :: L ∧ H1 = arr b 0 (vs.flatMap fun p => p.2.cells.toList) :: H) :=
  Does.buildSlice hN hp fun w => run_buildS w h

theorem Y.field {S : TypeId} {fs : Array Field} {f : Nat} {x : Operand} {cs : Array Value} {v : Value} (k t : Nat) (hu : P.underlying S = some (.struct fs)) (hf : fieldIs fs f k t = true) (ha : ∀ w, (isAgg t).run P w = .ok false w) (hx : ev L x = some (.agg cs)) (hv : cs[k]? = some v) :
    Yields P W N (.field S x f) T L H v := fun dst pos after guard a w he hs => by
  simp only [execOp, he.eval hx]
  refine value_run ?_
  unfold fieldIs at hf
  rw [Array.getElem?_toList] at hf
  cases hff : fs[f]? with
  | none => rw [hff] at hf; cases hf
  | some fd =>
    rw [hff] at hf
    simp at hf
    simp [Instr.field, run_underlying hu, hff, part, hf, ha, hv, asAgg]

/-! effects under a guard, beside which something is unordered -/
theorem GoK.d2g {o : Oper} {k : List (Nat × Option Value) → List HProp → Prop} {j t : Nat} {want : Bool} (hg : o.guard = some (j, want)) (hj : (O[j]?).bind (·.dst) = some t) (ht : look L t = some (.bool want)) (hK : ∀ w, Sat W w (seps H) → Sat W w (seps K)) (hd : Does P W N o L H k)
    (hK' : ∀ L' H', k L' H' → ∀ w, Sat W w (seps H') → Sat W w (seps K)) (h : ∀ L' H', k L' H' → GoK P W N K O Q ks rest L' H') : GoK P W N K O Q (2 :: ks) (o :: rest) L H := fun a w ha hs => by
  simp only [wpKL]
  refine ⟨hK w hs, ?_⟩
  rw [if_pos (by rw [wanted_of ha hg hj ht]; simp [boolOf])]
  exact hd a w ha hs _ fun L' H' hk a' w' ha' hs' => ⟨hK' L' H' hk w' hs', h L' H' hk a' w' ha' hs'⟩
theorem GoK.d2skip {op : Op} {pos : String} {after : Array Edge} {d j t : Nat} {want : Bool} {u : Value} (hj : (O[j]?).bind (·.dst) = some t) (ht : look L t = some u) (hb : (boolOf u == some want) = false) (hN : Nat.blt d N = true) (hK : ∀ w, Sat W w (seps H) → Sat W w (seps K))
    (h : GoK P W N K O Q ks rest ((d, some undef) :: L) H) : GoK P W N K O Q (2 :: ks) (⟨some d, op, T, pos, after, some (j, want)⟩ :: rest) L H := fun a w ha hs => by
  simp only [wpKL]
  refine ⟨hK w hs, ?_⟩
  rw [if_neg (by rw [wanted_of ha rfl hj ht, hb]; simp)]
  exact h _ w (ha.put (Nat.blt_eq.mp hN) undef) hs

/-! ### A part of a slice -/
def cut (k lo hi : Nat) : Value → Value
  | .slice a _ cap => .slice (if cap = lo then a else a.map (·.add (lo * k))) (hi - lo) (cap - lo)
  | v => v

theorem RdAt.cut {w : World} {enc : α → List Value} {k : Nat} {v : Value} {xs : List α} (h : RdAt w enc k v xs) {lo hi : Nat} (h1 : lo ≤ hi) (h2 : hi ≤ xs.length) : RdAt w enc k (cut k lo hi v) ((xs.take hi).drop lo) := by
  obtain ⟨⟨a, cap, rfl, hle, hsp, hnn⟩, hk, hc⟩ := h
  have hl : ((xs.take hi).drop lo).length = hi - lo := by rw [List.length_drop, List.length_take]; omega
  refine ⟨⟨_, cap - lo, by rw [hl]; rfl, by omega, ?_, ?_⟩, fun x hx => hk x (List.mem_of_mem_take (List.mem_of_mem_drop hx)), ?_⟩
  · intro b e hne
    have hxs : xs ≠ [] := fun e' => hne (by subst e'; simp)
    split at e
    · exact hsp b e hxs
    · cases a with
      | none => cases e
      | some p =>
        have := hsp p rfl hxs
        obtain ⟨pb, po, ps⟩ := p
        simp only at this
        subst this
        simp only [Option.map_some, Option.some.injEq] at e
        rw [addr_add] at e
        subst e; rfl
  · intro e
    split at e
    · have := hnn e; subst this; simp
    · cases a with
      | none => have := hnn rfl; subst this; simp
      | some p => cases e
  · intro i x hx c u hu
    rw [List.getElem?_drop, List.getElem?_take] at hx
    split at hx
    · rename_i hlt
      have := hc (lo + i) x hx c u hu
      cases a with
      | none => have := hnn rfl; subst this; simp at hx
      | some p =>
        have hs := hsp p rfl (by intro e'; subst e'; simp at hx)
        obtain ⟨pb, po, ps⟩ := p
        simp only at hs
        subst hs
        have hne : cap ≠ lo := by omega
        have he : SLYtkflpgknieoknaa.cut k lo hi (.slice (some ⟨pb, po, none⟩) xs.length cap) = .slice (some ⟨pb, po + lo * k, none⟩) (hi - lo) (cap - lo) := by
          show Value.slice (if cap = lo then _ else _) _ _ = _
          rw [if_neg hne]; simp only [Option.map_some, addr_add]
        rw [he]
        simp only [blk, ofs] at this ⊢
        rw [show po + lo * k + i * k + c = po + (lo + i) * k + c from by rw [Nat.add_mul]; omega]
        exact this
    · cases hx
theorem Rd.cut {enc : α → List Value} {k : Nat} {v : Value} {xs : List α} (h : Rd W H enc k v xs) {lo hi : Nat} (h1 : lo ≤ hi) (h2 : hi ≤ xs.length) : Rd W H enc k (cut k lo hi v) ((xs.take hi).drop lo) := fun w s => (h w s).cut h1 h2

theorem Y.sliceTo {enc : α → List Value} {k : Nat} {t e : TypeId} {x y : Operand} {v : Value} {xs : List α} {kd : IntKind} {j : Int} (hi : Nat) (hu : P.underlying t = some (.slice e)) (hz : ∀ w, (sizeOf e).run P w = .ok k w) (hx : ev L x = some v) (hy : ev L y = some (.int kd j)) (h : Rd W H enc k v xs) (hj : j = (hi : Int)) (hl : hi ≤ xs.length) :
    Yields P W N (.slice t x none (some y) none) T L H (cut k 0 hi v) := fun dst pos after guard a w ha hs => by
  obtain ⟨⟨ad, cap, hv, hle, hsp, hnn⟩, _, _⟩ := h w hs
  subst hj hv
  simp only [execOp, Option.map, ha.eval hx, ha.eval hy]
  refine value_run ?_
  have e1 : hi ≤ cap := by omega
  simp [Instr.sliceAt, Instr.sureAddr, Instr.slice, run_underlying hu, Instr.sliceBounds, Instr.sliceBound, asIntOf, e1, hz, SLYtkflpgknieoknaa.cut]
theorem Y.sliceFrom {enc : α → List Value} {k : Nat} {t e : TypeId} {x y : Operand} {v : Value} {xs : List α} {kd : IntKind} {j : Int} (lo : Nat) (hu : P.underlying t = some (.slice e)) (hz : ∀ w, (sizeOf e).run P w = .ok k w) (hx : ev L x = some v) (hy : ev L y = some (.int kd j)) (h : Rd W H enc k v xs) (hj : j = (lo : Int)) (hl : lo ≤ xs.length) :
    Yields P W N (.slice t x (some y) none none) T L H (cut k lo xs.length v) := fun dst pos after guard a w ha hs => by
  obtain ⟨⟨ad, cap, hv, hle, hsp, hnn⟩, _, _⟩ := h w hs
  subst hj hv
  simp only [execOp, Option.map, ha.eval hx, ha.eval hy]
  refine value_run ?_
  simp [Instr.sliceAt, Instr.sureAddr, Instr.slice, run_underlying hu, Instr.sliceBounds, Instr.sliceBound, asIntOf, hl, hz, SLYtkflpgknieoknaa.cut]
theorem Y.sliceLH {enc : α → List Value} {k : Nat} {t e : TypeId} {x y z : Operand} {v : Value} {xs : List α} {kd kd' : IntKind} {i j : Int} (lo hi : Nat) (hu : P.underlying t = some (.slice e)) (hz : ∀ w, (sizeOf e).run P w = .ok k w) (hx : ev L x = some v) (hy : ev L y = some (.int kd i)) (hy' : ev L z = some (.int kd' j)) (h : Rd W H enc k v xs)
    (hi' : i = (lo : Int)) (hj : j = (hi : Int)) (hl : lo ≤ hi) (hl' : hi ≤ xs.length) : Yields P W N (.slice t x (some y) (some z) none) T L H (cut k lo hi v) := fun dst pos after guard a w ha hs => by
  obtain ⟨⟨ad, cap, hv, hle, hsp, hnn⟩, _, _⟩ := h w hs
  subst hi' hj hv
  simp only [execOp, Option.map, ha.eval hx, ha.eval hy, ha.eval hy']
  refine value_run ?_
  have e1 : hi ≤ cap := by omega
  simp [Instr.sliceAt, Instr.sureAddr, Instr.slice, run_underlying hu, Instr.sliceBounds, Instr.sliceBound, asIntOf, hl, e1, hz, SLYtkflpgknieoknaa.cut]
end
end Go.SLYtkflpgknieoknaa
