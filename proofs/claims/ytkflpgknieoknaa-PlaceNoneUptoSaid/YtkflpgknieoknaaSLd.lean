/- What each operation yields, over the separation logic. Conditions: none, this text proves no statement. -/
import Derived.Test.YtkflpgknieoknaaSLc
namespace Go.SLYtkflpgknieoknaa
open Go Go.RowKit

section
variable {P : Program} {W : World} {N : Nat} {Q : Exit → Act → World → Prop} {L : List (Nat × Option Value)} {H : List HProp} {O : Array Oper} {T : TypeId}

/-- What a cell holds, in each world that bears this memory. -/
def Cell (W : World) (H : List HProp) (b o : Nat) (v : Value) : Prop := ∀ w, Sat W w (seps H) → w.cell? ⟨b, o, none⟩ = some v
def Cells (W : World) (H : List HProp) (b o : Nat) (cs : List Value) : Prop := ∀ i v, cs[i]? = some v → Cell W H b (o + i) v

inductive At : List HProp → HProp → Prop where
  | here {A : HProp} {H : List HProp} : At (A :: H) A
  | there {A B : HProp} {H : List HProp} (h : At H A) : At (B :: H) A

theorem At.take {H : List HProp} {A : HProp} (h : At H A) : ∃ R, Take H A R := by
  induction h with
  | here => exact ⟨_, .here⟩
  | there _ ih => obtain ⟨R, t⟩ := ih; exact ⟨_, .there t⟩

theorem At.sat {H : List HProp} {A : HProp} (h : At H A) {w : World} (s : Sat W w (seps H)) : ∃ R, Sat W w (sep A R) := by
  obtain ⟨R, t⟩ := h.take
  exact ⟨seps R, by rw [← t.seps]; exact s⟩

theorem Cell.arr {b : Nat} {cs : List Value} (h : At H (arr b 0 cs)) {i : Nat} {v : Value} (hv : cs[i]? = some v) : Cell W H b i v := fun w s => by
  obtain ⟨R, s⟩ := h.sat s
  have := (arr_cell s hv).2
  rwa [Nat.zero_add] at this
theorem Cell.arrO {b o : Nat} {cs : List Value} (h : At H (SLYtkflpgknieoknaa.arr b o cs)) {i : Nat} {v : Value} (hv : cs[i]? = some v) : Cell W H b (o + i) v := fun w s => by
  obtain ⟨R, s⟩ := h.sat s
  exact (arr_cell s hv).2
theorem Cell.arrZ {b o : Nat} {cs : List Value} (h : At H (SLYtkflpgknieoknaa.arr b o cs)) {v : Value} (hv : cs[0]? = some v) : Cell W H b o v := Cell.arrO (i := 0) h hv
theorem Cells.arr {b o : Nat} {cs : List Value} (h : At H (SLYtkflpgknieoknaa.arr b o cs)) : Cells W H b o cs := fun i v hv => Cell.arrO h hv
theorem Cells.cell {b o : Nat} {cs : List Value} (h : Cells W H b o cs) {i : Nat} {v : Value} (hv : cs[i]? = some v) : Cell W H b (o + i) v := h i v hv
/-- What lay in memory when the law began lies there still. -/
theorem Cell.old {b o : Nat} {v : Value} (h : W.cell? ⟨b, o, none⟩ = some v) : Cell W H b o v := fun w s => by
  rw [← h]
  exact World.cell?_of_block (w := W) (a := ⟨b, o, none⟩) (s.old b (cell_lt h))

/-! ### The operations that yield -/

theorem Y.move {x : Operand} {v : Value} (hx : ev L x = some v) : Yields P W N (.move x) T L H v := fun dst pos after guard a w ha hs => by
  show (Sem.pure (Next.value (a.eval x))).run P w = _
  rw [ha.eval hx]; rfl
theorem Y.assign {x : Operand} {v : Value} (hx : ev L x = some v) : Yields P W N (.assign x) T L H v := fun dst pos after guard a w ha hs => by
  show (Sem.pure (Next.value (a.eval x))).run P w = _
  rw [ha.eval hx]; rfl

theorem Y.nilCheck {x : Operand} {p : Addr} (hx : ev L x = some (.pointer (some p))) : Yields P W N (.nilCheck x) T L H (.pointer (some p)) := fun dst pos after guard a w ha hs => by
  simp only [execOp, ha.eval hx]; rfl

theorem Y.pickT {c x y : Operand} {v : Value} (hc : ev L c = some (.bool true)) (hx : ev L x = some v) : Yields P W N (.pick c x y) T L H v := fun dst pos after guard a w ha hs => by
  simp only [execOp, ha.eval hc, ha.eval hx]; rfl
theorem Y.pickF {c x y : Operand} {v : Value} (hc : ev L c = some (.bool false)) (hy : ev L y = some v) : Yields P W N (.pick c x y) T L H v := fun dst pos after guard a w ha hs => by
  simp only [execOp, ha.eval hc, ha.eval hy]; rfl

/-- An operation that is 'v' of some computation. -/
theorem value_run {s : Sem Value} {v : Value} {w : World} (h : s.run P w = .ok v w) : (do pure (Next.value (← s)) : Sem Next).run P w = .ok (.value v) w := by
  show (s >>= fun x => pure (Next.value x)).run P w = _
  rw [Sem.run_bind, h]; rfl

theorem addr_add (b o k : Nat) : (⟨b, o, none⟩ : Addr).add k = ⟨b, o + k, none⟩ := by
  unfold Addr.add
  split
  · rename_i h; subst h; rfl
  · rfl

def fieldIs (fs : Array Field) (f k t : Nat) : Bool := match fs.toList[f]? with
  | some fl => Nat.beq fl.offset k && Nat.beq fl.type t
  | none => false

theorem run_fieldAt {S : TypeId} {fs : Array Field} {f n k t : Nat} (hu : P.underlying S = some (.struct fs)) (hf : fieldIs fs f k t = true) (hz : ∀ w, (sizeOf t).run P w = .ok (n + 1) w) (b o : Nat) (w : World) :
    (Instr.fieldAt S (.pointer (some ⟨b, o, none⟩)) f).run P w = .ok (.pointer (some ⟨b, o + k, none⟩)) w := by
  unfold fieldIs at hf
  cases e : fs.toList[f]? with
  | none => rw [e] at hf; cases hf
  | some fld =>
    rw [e] at hf
    simp only [Bool.and_eq_true, Nat.beq_eq] at hf
    obtain ⟨rfl, rfl⟩ := hf
    have e' : fs[f]? = some fld := by simpa using e
    simp [Instr.fieldAt, run_underlying hu, e', Instr.sureAddr, fieldPlace, hz, addr_add]

theorem Y.fieldAddr {S : TypeId} {fs : Array Field} {f n : Nat} {x : Operand} {b o : Nat} (k t : Nat) (hu : P.underlying S = some (.struct fs)) (hf : fieldIs fs f k t = true) (hz : ∀ w, (sizeOf t).run P w = .ok (n + 1) w)
    (hx : ev L x = some (.pointer (some ⟨b, o, none⟩))) : Yields P W N (.fieldAddr S x f) T L H (.pointer (some ⟨b, o + k, none⟩)) := fun dst pos after guard a w ha hs => by
  simp only [execOp, ha.eval hx]
  exact value_run (run_fieldAt hu hf hz b o w)
theorem Y.fieldAddr0 {S : TypeId} {fs : Array Field} {f n : Nat} {x : Operand} {b : Nat} (k t : Nat) (hu : P.underlying S = some (.struct fs)) (hf : fieldIs fs f k t = true) (hz : ∀ w, (sizeOf t).run P w = .ok (n + 1) w)
    (hx : ev L x = some (.pointer (some ⟨b, 0, none⟩))) : Yields P W N (.fieldAddr S x f) T L H (.pointer (some ⟨b, k, none⟩)) := by
  have := Y.fieldAddr (P := P) (W := W) (N := N) (H := H) (T := T) k t hu hf hz hx
  rwa [Nat.zero_add] at this
theorem Y.fieldAddrZ {S : TypeId} {fs : Array Field} {f n : Nat} {x : Operand} {b o : Nat} (t : Nat) (hu : P.underlying S = some (.struct fs)) (hf : fieldIs fs f 0 t = true) (hz : ∀ w, (sizeOf t).run P w = .ok (n + 1) w)
    (hx : ev L x = some (.pointer (some ⟨b, o, none⟩))) : Yields P W N (.fieldAddr S x f) T L H (.pointer (some ⟨b, o, none⟩)) :=
  Y.fieldAddr (P := P) (W := W) (N := N) (H := H) (T := T) 0 t hu hf hz hx

theorem Y.load {x : Operand} {b o : Nat} {v : Value} (ht : ∀ w, (isAgg T).run P w = .ok false w) {T' : TypeId} (hx : ev L x = some (.pointer (some ⟨b, o, none⟩))) (hc : Cell W H b o v) : Yields P W N (.load T x) T' L H v := fun dst pos after guard a w ha hs => by
  simp only [execOp, ha.eval hx]
  refine value_run ?_
  simp [Instr.loadAt, Instr.sureAddr, loadVar, ht, hc w hs]

theorem run_loadAgg {b o : Nat} {cs : List Value} {w : World} (ht : ∀ w, (isAgg T).run P w = .ok true w) (hz : ∀ w, (sizeOf T).run P w = .ok cs.length w) (hc : ∀ i v, cs[i]? = some v → w.cell? ⟨b, o + i, none⟩ = some v) :
    (loadVar T ⟨b, o, none⟩).run P w = .ok (.agg cs.toArray) w := by
  have := run_loadCells_list (P := P) (w := w) ⟨b, o, none⟩ cs (fun j v hv => by rw [addr_add]; exact hc j v hv)
  simp [loadVar, ht, hz, this]

theorem Y.loadAgg {x : Operand} {b o : Nat} {cs : List Value} (ht : ∀ w, (isAgg T).run P w = .ok true w) (hz : ∀ w, (sizeOf T).run P w = .ok cs.length w) {T' : TypeId} (hx : ev L x = some (.pointer (some ⟨b, o, none⟩))) (hc : Cells W H b o cs) :
    Yields P W N (.load T x) T' L H (.agg cs.toArray) := fun dst pos after guard a w ha hs => by
  simp only [execOp, ha.eval hx]
  exact value_run (by simp only [Instr.loadAt, Instr.sureAddr, pure_bind]; exact run_loadAgg ht hz fun i v hv => hc i v hv w hs)

/-! arithmetic and comparisons -/

theorem Y.bin {op : BinOp} {xT yT : TypeId} {x y : Operand} {u v r : Value} (hx : ev L x = some u) (hy : ev L y = some v) (h : ∀ w, (do eqGuard op xT x y u v; binOp op xT u v : Sem Value).run P w = .ok r w) : Yields P W N (.binOp op xT x y yT) T L H r := fun dst pos after guard a w ha hs => by
  simp only [execOp, ha.eval hx, ha.eval hy]
  exact value_run (h w)

theorem wrap_i64 {n : Int} (h : -9223372036854775808 ≤ n ∧ n ≤ 9223372036854775807) : IntKind.i64.wrap n = n := by
  simp only [IntKind.wrap, IntKind.bits, IntKind.signed, Bool.true_and]
  split <;> rename_i h' <;> simp at h' <;> omega
theorem wrap_u64 {n : Int} (h : 0 ≤ n ∧ n ≤ 18446744073709551615) : IntKind.u64.wrap n = n := by
  simp only [IntKind.wrap, IntKind.bits, IntKind.signed, Bool.false_and]
  simp; omega

theorem Y.addW {k : IntKind} {xT yT : TypeId} {x y : Operand} {m n : Int} (hx : ev L x = some (.int k m)) (hy : ev L y = some (.int k n)) : Yields P W N (.binOp .add xT x y yT) T L H (.int k (k.wrap (m + n))) :=
  Y.bin hx hy fun w => by simp [eqGuard, binOp, Op.intArith]
theorem Y.subW {k : IntKind} {xT yT : TypeId} {x y : Operand} {m n : Int} (hx : ev L x = some (.int k m)) (hy : ev L y = some (.int k n)) : Yields P W N (.binOp .sub xT x y yT) T L H (.int k (k.wrap (m - n))) :=
  Y.bin hx hy fun w => by simp [eqGuard, binOp, Op.intArith]
theorem Y.mulW {k : IntKind} {xT yT : TypeId} {x y : Operand} {m n : Int} (hx : ev L x = some (.int k m)) (hy : ev L y = some (.int k n)) : Yields P W N (.binOp .mul xT x y yT) T L H (.int k (k.wrap (m * n))) :=
  Y.bin hx hy fun w => by simp [eqGuard, binOp, Op.intArith]
theorem Y.add {xT yT : TypeId} {x y : Operand} {m n : Int} (hx : ev L x = some (.int .i64 m)) (hy : ev L y = some (.int .i64 n)) (h : -9223372036854775808 ≤ m + n ∧ m + n ≤ 9223372036854775807) : Yields P W N (.binOp .add xT x y yT) T L H (.int .i64 (m + n)) := by
  have := Y.addW (P := P) (W := W) (N := N) (H := H) (T := T) (xT := xT) (yT := yT) hx hy
  rwa [wrap_i64 h] at this
theorem Y.sub {xT yT : TypeId} {x y : Operand} {m n : Int} (hx : ev L x = some (.int .i64 m)) (hy : ev L y = some (.int .i64 n)) (h : -9223372036854775808 ≤ m - n ∧ m - n ≤ 9223372036854775807) : Yields P W N (.binOp .sub xT x y yT) T L H (.int .i64 (m - n)) := by
  have := Y.subW (P := P) (W := W) (N := N) (H := H) (T := T) (xT := xT) (yT := yT) hx hy
  rwa [wrap_i64 h] at this
theorem Y.mul {xT yT : TypeId} {x y : Operand} {m n : Int} (hx : ev L x = some (.int .i64 m)) (hy : ev L y = some (.int .i64 n)) (h : -9223372036854775808 ≤ m * n ∧ m * n ≤ 9223372036854775807) : Yields P W N (.binOp .mul xT x y yT) T L H (.int .i64 (m * n)) := by
  have := Y.mulW (P := P) (W := W) (N := N) (H := H) (T := T) (xT := xT) (yT := yT) hx hy
  rwa [wrap_i64 h] at this
theorem Y.addU {xT yT : TypeId} {x y : Operand} {m n : Int} (hx : ev L x = some (.int .u64 m)) (hy : ev L y = some (.int .u64 n)) (h : 0 ≤ m + n ∧ m + n ≤ 18446744073709551615) : Yields P W N (.binOp .add xT x y yT) T L H (.int .u64 (m + n)) := by
  have := Y.addW (P := P) (W := W) (N := N) (H := H) (T := T) (xT := xT) (yT := yT) hx hy
  rwa [wrap_u64 h] at this
/-- A loop's counter goes up. -/
theorem Y.inc {xT yT : TypeId} {x y : Operand} {m : Nat} (hx : ev L x = some (.int .i64 (m : Int))) (hy : ev L y = some (.int .i64 1)) (h : m < 9223372036854775807) : Yields P W N (.binOp .add xT x y yT) T L H (.int .i64 ((m + 1 : Nat) : Int)) := by
  have := Y.add (P := P) (W := W) (N := N) (H := H) (T := T) (xT := xT) (yT := yT) hx hy (by omega)
  simpa using this
theorem Y.rem {k : IntKind} {xT yT : TypeId} {x y : Operand} {m n : Int} (hx : ev L x = some (.int k m)) (hy : ev L y = some (.int k n)) (hn : n ≠ 0) : Yields P W N (.binOp .rem xT x y yT) T L H (.int k (m.tmod n)) :=
  Y.bin hx hy fun w => by simp [eqGuard, binOp, Op.intDiv, hn]
theorem Y.quo {k : IntKind} {xT yT : TypeId} {x y : Operand} {m n : Int} (hx : ev L x = some (.int k m)) (hy : ev L y = some (.int k n)) (hn : n ≠ 0) : Yields P W N (.binOp .quo xT x y yT) T L H (.int k (k.wrap (m.tdiv n))) :=
  Y.bin hx hy fun w => by simp [eqGuard, binOp, Op.intDiv, hn]

theorem Y.lss {k : IntKind} {xT yT : TypeId} {x y : Operand} {m n : Int} (hx : ev L x = some (.int k m)) (hy : ev L y = some (.int k n)) : Yields P W N (.binOp .lss xT x y yT) T L H (.bool (decide (m < n))) :=
  Y.bin hx hy fun w => by simp [eqGuard, binOp, Op.intCmp]
theorem Y.leq {k : IntKind} {xT yT : TypeId} {x y : Operand} {m n : Int} (hx : ev L x = some (.int k m)) (hy : ev L y = some (.int k n)) : Yields P W N (.binOp .leq xT x y yT) T L H (.bool (decide (m ≤ n))) :=
  Y.bin hx hy fun w => by simp [eqGuard, binOp, Op.intCmp]
theorem Y.gtr {k : IntKind} {xT yT : TypeId} {x y : Operand} {m n : Int} (hx : ev L x = some (.int k m)) (hy : ev L y = some (.int k n)) : Yields P W N (.binOp .gtr xT x y yT) T L H (.bool (decide (n < m))) :=
  Y.bin hx hy fun w => by simp [eqGuard, binOp, Op.intCmp]
theorem Y.geq {k : IntKind} {xT yT : TypeId} {x y : Operand} {m n : Int} (hx : ev L x = some (.int k m)) (hy : ev L y = some (.int k n)) : Yields P W N (.binOp .geq xT x y yT) T L H (.bool (decide (n ≤ m))) :=
  Y.bin hx hy fun w => by simp [eqGuard, binOp, Op.intCmp]
theorem Y.eql {k : IntKind} {xT yT : TypeId} {x y : Operand} {m n : Int} (hx : ev L x = some (.int k m)) (hy : ev L y = some (.int k n)) : Yields P W N (.binOp .eql xT x y yT) T L H (.bool (decide (m = n))) :=
  Y.bin hx hy fun w => by simp [eqGuard, binOp, Op.intCmp]; rfl
theorem Y.neq {k : IntKind} {xT yT : TypeId} {x y : Operand} {m n : Int} (hx : ev L x = some (.int k m)) (hy : ev L y = some (.int k n)) : Yields P W N (.binOp .neq xT x y yT) T L H (.bool (decide (m ≠ n))) :=
  Y.bin hx hy fun w => by
    simp [eqGuard, binOp, Op.intCmp]
    by_cases h : m = n <;> simp [h]

theorem Y.not {x : Operand} {b : Bool} {xT : TypeId} (hx : ev L x = some (.bool b)) : Yields P W N (.unOp .not xT x) T L H (.bool (!b)) := fun dst pos after guard a w ha hs => by
  simp only [execOp, ha.eval hx]
  exact value_run (by simp [Op.unary])
theorem Y.notD {x : Operand} {p : Prop} [Decidable p] {xT : TypeId} (hx : ev L x = some (.bool (decide p))) : Yields P W N (.unOp .not xT x) T L H (.bool (decide (¬ p))) := by
  have := Y.not (P := P) (W := W) (N := N) (H := H) (T := T) (xT := xT) hx
  rwa [← decide_not] at this
theorem Y.neg {x : Operand} {k : IntKind} {n : Int} {xT : TypeId} (hx : ev L x = some (.int k n)) : Yields P W N (.unOp .neg xT x) T L H (.int k (k.wrap (0 - n))) := fun dst pos after guard a w ha hs => by
  simp only [execOp, ha.eval hx]
  exact value_run (by simp [Op.unary, Op.intArith])

/-! a pointer against nil -/
theorem run_eq_ptr {xT : TypeId} {e : TypeId} (hu : P.underlying xT = some (.pointer e)) (p : Option Addr) (w : World) : (Op.equal xT (.pointer p) (.pointer none)).run P w = .ok p.isNone w := by
  show (Op.equalIn (9999 + 1) xT _ _).run P w = _
  unfold Op.equalIn
  cases p <;> simp [run_underlying hu]
theorem Y.eqPtrNil {xT e yT : TypeId} {x y : Operand} {p : Option Addr} (hu : P.underlying xT = some (.pointer e)) (hx : ev L x = some (.pointer p)) (hy : ev L y = some (.pointer none)) : Yields P W N (.binOp .eql xT x y yT) T L H (.bool p.isNone) :=
  Y.bin hx hy fun w => by simp [eqGuard, binOp, run_eq_ptr hu]
theorem Y.neqPtrNil {xT e yT : TypeId} {x y : Operand} {p : Option Addr} (hu : P.underlying xT = some (.pointer e)) (hx : ev L x = some (.pointer p)) (hy : ev L y = some (.pointer none)) : Yields P W N (.binOp .neq xT x y yT) T L H (.bool (!p.isNone)) :=
  Y.bin hx hy fun w => by simp [eqGuard, binOp, run_eq_ptr hu]
/-! a slice against nil -/
theorem run_eq_slice {xT : TypeId} {e : TypeId} (hu : P.underlying xT = some (.slice e)) (p : Option Addr) (n c n' c' : Nat) (w : World) : (Op.equal xT (.slice p n c) (.slice none n' c')).run P w = .ok p.isNone w := by
  show (Op.equalIn (9999 + 1) xT _ _).run P w = _
  unfold Op.equalIn
  cases p <;> simp [run_underlying hu]
theorem Y.eqSliceNil {xT e yT : TypeId} {x y : Operand} {p : Option Addr} {n c n' c' : Nat} (hu : P.underlying xT = some (.slice e)) (hx : ev L x = some (.slice p n c)) (hy : ev L y = some (.slice none n' c')) : Yields P W N (.binOp .eql xT x y yT) T L H (.bool p.isNone) :=
  Y.bin hx hy fun w => by simp [eqGuard, binOp, run_eq_slice hu]
theorem Y.neqSliceNil {xT e yT : TypeId} {x y : Operand} {p : Option Addr} {n c n' c' : Nat} (hu : P.underlying xT = some (.slice e)) (hx : ev L x = some (.slice p n c)) (hy : ev L y = some (.slice none n' c')) : Yields P W N (.binOp .neq xT x y yT) T L H (.bool (!p.isNone)) :=
  Y.bin hx hy fun w => by simp [eqGuard, binOp, run_eq_slice hu]

/-! conversions between kinds of integers -/
theorem Y.conv {src dst' : TypeId} {x : Operand} {j k : IntKind} {n : Int} {d0 : TypeDesc} (hs : P.underlying src = some d0) (hu : P.underlying dst' = some (.int k)) (hx : ev L x = some (.int j n)) : Yields P W N (.convert src dst' x) T L H (.int k (k.wrap n)) := fun dst pos after guard a w ha hs' => by
  simp only [execOp, ha.eval hx]
  exact value_run (by simp [convert, run_underlying hs, run_underlying hu, Conv.intToInt])

/-! tuples, lengths -/
theorem Y.extract {x : Operand} {vs : Array Value} {i : Nat} {v : Value} (hx : ev L x = some (.tuple vs)) (hv : vs[i]? = some v) : Yields P W N (.extract x i) T L H v := fun dst pos after guard a w ha hs => by
  simp only [execOp, ha.eval hx]
  exact value_run (by simp [Instr.extract, hv])

theorem Y.builtin {b : Builtin} {xs : Array Operand} {ts : Array TypeId} {vs : List Value} {v : Value} (hx : evs L xs.toList = some vs) (h : ∀ w cs, (builtin b ts T cs vs.toArray).run P w = .ok (.value v) w) : Yields P W N (.call ⟨.builtin b, xs, ts⟩) T L H v := fun dst pos after guard a w ha hs => by
  have e : xs.map a.eval = vs.toArray := by
    rw [← ha.evals hx, ← List.map_toArray]
  simp only [execOp, resolve, e, pure_bind, invoke]
  exact h w _

theorem Y.lenSlice {x : Operand} {t e : TypeId} {p : Option Addr} {n c : Nat} (hu : P.underlying t = some (.slice e)) (hx : ev L x = some (.slice p n c)) : Yields P W N (.call ⟨.builtin .len, #[x], #[t]⟩) T L H (.int .i64 n) :=
  Y.builtin (vs := [.slice p n c]) (by simp [evs, hx]) fun w cs => by simp [Go.builtin, Builtin.len_, run_underlying hu, goInt]
theorem Y.min2 {x y : Operand} {ts : Array TypeId} {k : IntKind} {m n : Int} (hx : ev L x = some (.int k m)) (hy : ev L y = some (.int k n)) : Yields P W N (.call ⟨.builtin .min, #[x, y], ts⟩) T L H (.int k (if n < m then n else m)) :=
  Y.builtin (vs := [.int k m, .int k n]) (by simp [evs, hx, hy]) fun w cs => by simp [Go.builtin, Builtin.min_, Builtin.min2]
theorem Y.max2 {x y : Operand} {ts : Array TypeId} {k : IntKind} {m n : Int} (hx : ev L x = some (.int k m)) (hy : ev L y = some (.int k n)) : Yields P W N (.call ⟨.builtin .max, #[x, y], ts⟩) T L H (.int k (if n > m then n else m)) :=
  Y.builtin (vs := [.int k m, .int k n]) (by simp [evs, hx, hy]) fun w cs => by simp [Go.builtin, Builtin.max_, Builtin.max2]

/-! structs built -/
def evParts (L : List (Nat × Option Value)) : List (Nat × Operand) → Option (List (Nat × Value))
  | [] => some []
  | (i, x) :: r => match ev L x, evParts L r with
    | some v, some vs => some ((i, v) :: vs)
    | _, _ => none

theorem evParts_map {a : Act} (ha : Env N L a) : ∀ {ps : List (Nat × Operand)} {vs : List (Nat × Value)}, evParts L ps = some vs → ps.map (fun p => (p.1, a.eval p.2)) = vs
  | [], vs, e => by unfold evParts at e; simpa using e
  | (i, x) :: r, vs, e => by
    unfold evParts at e
    cases h1 : ev L x with
    | none => rw [h1] at e; cases e
    | some v =>
      cases h2 : evParts L r with
      | none => rw [h1, h2] at e; cases e
      | some us =>
        rw [h1, h2] at e
        cases e
        simp [ha.eval h1, evParts_map ha h2]

theorem Y.build {t : TypeId} {ps : Array (Nat × Operand)} {vs : List (Nat × Value)} {v : Value} (hp : evParts L ps.toList = some vs) (h : ∀ w, (Instr.build t vs.toArray).run P w = .ok v w) : Yields P W N (.build t ps) T L H v := fun dst pos after guard a w ha hs => by
  have e : ps.map (fun p => (p.1, a.eval p.2)) = vs.toArray := by
    rw [← evParts_map ha hp, ← List.map_toArray]
  simp only [execOp]
  show (do pure (Next.value (← Instr.build t (ps.map fun p => (p.1, a.eval p.2)))) : Sem Next).run P w = _
  rw [e]
  exact value_run (h w)

theorem Y.makeFunc {f : Fn} {xs ys : Array Operand} {us vs : List Value} (hx : evs L xs.toList = some us) (hy : evs L ys.toList = some vs) : Yields P W N (.makeFunc f xs ys) T L H (.func f us.toArray vs.toArray) := fun dst pos after guard a w ha hs => by
  have e1 : xs.map a.eval = us.toArray := by rw [← ha.evals hx, ← List.map_toArray]
  have e2 : ys.map a.eval = vs.toArray := by rw [← ha.evals hy, ← List.map_toArray]
  simp only [execOp, e1, e2]
  exact value_run rfl

end
end Go.SLYtkflpgknieoknaa
