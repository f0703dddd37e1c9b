/- What operations do to memory, calls and loops, over the separation logic. Conditions: none, this text proves no statement. -/
import Derived.Test.YtkflpgknieoknaaSLd
namespace Go.SLYtkflpgknieoknaa
open Go Go.RowKit

section
variable (P : Program) (W : World) (N : Nat)
/-- An operation that is carried out, and leaves slots and memory of which something is known. -/
def Does (o : Oper) (L : List (Nat × Option Value)) (H : List HProp) (k : List (Nat × Option Value) → List HProp → Prop) : Prop :=
  ∀ a w, Env N L a → Sat W w (seps H) → ∀ (K : Act → World → Prop), (∀ L' H', k L' H' → ∀ a' w', Env N L' a' → Sat W w' (seps H') → K a' w') → o.wp P a w K QF
def GoK (K : List HProp) (O : Array Oper) (Q : Exit → Act → World → Prop) (ks : List Nat) (ops : List Oper) (L : List (Nat × Option Value)) (H : List HProp) : Prop :=
  ∀ a w, Env N L a → Sat W w (seps H) → wpKL P O (fun w => Sat W w (seps K)) Q ks ops a w
end

section
variable {P : Program} {W : World} {N : Nat} {Q : Exit → Act → World → Prop} {L : List (Nat × Option Value)} {H K : List HProp} {O : Array Oper} {T : TypeId} {ks : List Nat} {rest : List Oper}

theorem wp_QF {o : Oper} {a : Act} {w : World} {Kp : Act → World → Prop} {Q' : Exit → Act → World → Prop} (h : o.wp P a w Kp QF) : o.wp P a w Kp Q' := wp_conv rfl rfl (fun _ _ _ h => h) h

theorem GoL.does {o : Oper} {k : List (Nat × Option Value) → List HProp → Prop} (hg : o.guard = none) (hd : Does P W N o L H k) (h : ∀ L' H', k L' H' → GoL P W N O Q rest L' H') : GoL P W N O Q (o :: rest) L H := fun a w ha hs =>
  wpList_plain hg fun Kp hK => wp_QF (hd a w ha hs Kp fun L' H' hk a' w' ha' hs' => hK _ _ (h L' H' hk a' w' ha' hs'))

theorem wanted_none {o : Oper} {y : Nat → Option Bool} (hg : o.guard = none) : Region.wanted o y = true := by unfold Region.wanted; rw [hg]

theorem GoK.nil (h : GoE W N Q .normal L H) : GoK P W N K O Q ks [] L H := fun a w ha hs => by cases ks <;> exact h a w ha hs
theorem GoC.draw {id : Nat} {l : List Oper} (K : List HProp) (ks : List Nat) (hm : P.follows .mixedOrders = true) (hB : regionB l ks = true) (h : GoK P W N K l.toArray Q ks l L H) : GoC P W N Q (.region id l.toArray true) L H :=
  fun a w ha hs => wp_region_k (C := fun w => Sat W w (seps K)) ks hm hB (h a _ ha hs.drew)

theorem GoK.k {op : Op} {pos : String} {after : Array Edge} {d : Nat} {v : Value} (hN : Nat.blt d N = true) (hK : ∀ w, Sat W w (seps H) → Sat W w (seps K)) (hy : Yields P W N op T L K v) (h : GoK P W N K O Q ks rest ((d, some v) :: L) H) :
    GoK P W N K O Q (0 :: ks) (⟨some d, op, T, pos, after, none⟩ :: rest) L H := fun a w ha hs => by
  simp only [wpKL]
  exact ⟨hK w hs, v, .inl ⟨wanted_none rfl, fun w' hs' => hy _ _ _ _ a w' ha hs'⟩, h _ w (ha.put (Nat.blt_eq.mp hN) v) hs⟩
theorem GoK.s {op : Op} {pos : String} {after : Array Edge} {d : Nat} {v : Value} (hN : Nat.blt d N = true) (hy : Yields P W N op T L H v) (h : GoK P W N K O Q ks rest ((d, some v) :: L) H) :
    GoK P W N K O Q (1 :: ks) (⟨some d, op, T, pos, after, none⟩ :: rest) L H := fun a w ha hs => by
  simp only [wpKL]
  exact ⟨v, .inl ⟨wanted_none rfl, fun w' e => by subst e; exact hy _ _ _ _ a w' ha hs⟩, h _ w (ha.put (Nat.blt_eq.mp hN) v) hs⟩
theorem GoK.kg {op : Op} {pos : String} {after : Array Edge} {d j t : Nat} {want : Bool} {v : Value} (hj : (O[j]?).bind (·.dst) = some t) (ht : look L t = some (.bool want)) (hN : Nat.blt d N = true) (hK : ∀ w, Sat W w (seps H) → Sat W w (seps K))
    (hy : Yields P W N op T L K v) (h : GoK P W N K O Q ks rest ((d, some v) :: L) H) :
    GoK P W N K O Q (0 :: ks) (⟨some d, op, T, pos, after, some (j, want)⟩ :: rest) L H := fun a w ha hs => by
  simp only [wpKL]
  exact ⟨hK w hs, v, .inl ⟨by rw [wanted_of ha rfl hj ht]; simp [boolOf], fun w' hs' => hy _ _ _ _ a w' ha hs'⟩, h _ w (ha.put (Nat.blt_eq.mp hN) v) hs⟩
theorem GoK.sg {op : Op} {pos : String} {after : Array Edge} {d j t : Nat} {want : Bool} {v : Value} (hj : (O[j]?).bind (·.dst) = some t) (ht : look L t = some (.bool want)) (hN : Nat.blt d N = true)
    (hy : Yields P W N op T L H v) (h : GoK P W N K O Q ks rest ((d, some v) :: L) H) :
    GoK P W N K O Q (1 :: ks) (⟨some d, op, T, pos, after, some (j, want)⟩ :: rest) L H := fun a w ha hs => by
  simp only [wpKL]
  exact ⟨v, .inl ⟨by rw [wanted_of ha rfl hj ht]; simp [boolOf], fun w' e => by subst e; exact hy _ _ _ _ a w' ha hs⟩, h _ w (ha.put (Nat.blt_eq.mp hN) v) hs⟩
theorem GoK.kskip {op : Op} {pos : String} {after : Array Edge} {d j t : Nat} {want : Bool} {u : Value} (hj : (O[j]?).bind (·.dst) = some t) (ht : look L t = some u) (hb : (boolOf u == some want) = false) (hN : Nat.blt d N = true) (hK : ∀ w, Sat W w (seps H) → Sat W w (seps K))
    (h : GoK P W N K O Q ks rest ((d, some undef) :: L) H) :
    GoK P W N K O Q (0 :: ks) (⟨some d, op, T, pos, after, some (j, want)⟩ :: rest) L H := fun a w ha hs => by
  simp only [wpKL]
  exact ⟨hK w hs, undef, .inr ⟨by rw [wanted_of ha rfl hj ht, hb], rfl⟩, h _ w (ha.put (Nat.blt_eq.mp hN) undef) hs⟩
theorem GoK.sskip {op : Op} {pos : String} {after : Array Edge} {d j t : Nat} {want : Bool} {u : Value} (hj : (O[j]?).bind (·.dst) = some t) (ht : look L t = some u) (hb : (boolOf u == some want) = false) (hN : Nat.blt d N = true)
    (h : GoK P W N K O Q ks rest ((d, some undef) :: L) H) :
    GoK P W N K O Q (1 :: ks) (⟨some d, op, T, pos, after, some (j, want)⟩ :: rest) L H := fun a w ha hs => by
  simp only [wpKL]
  exact ⟨undef, .inr ⟨by rw [wanted_of ha rfl hj ht, hb], rfl⟩, h _ w (ha.put (Nat.blt_eq.mp hN) undef) hs⟩
/-- A change that what is kept outlives. -/
theorem GoK.d2 {o : Oper} {k : List (Nat × Option Value) → List HProp → Prop} (hg : o.guard = none) (hK : ∀ w, Sat W w (seps H) → Sat W w (seps K)) (hd : Does P W N o L H k) (hK' : ∀ L' H', k L' H' → ∀ w, Sat W w (seps H') → Sat W w (seps K)) (h : ∀ L' H', k L' H' → GoK P W N K O Q ks rest L' H') :
    GoK P W N K O Q (2 :: ks) (o :: rest) L H := fun a w ha hs => by
  simp only [wpKL]
  refine ⟨hK w hs, ?_⟩
  rw [if_pos (wanted_none hg)]
  exact hd a w ha hs _ fun L' H' hk a' w' ha' hs' => ⟨hK' L' H' hk w' hs', h L' H' hk a' w' ha' hs'⟩
theorem GoK.d3 {o : Oper} {k : List (Nat × Option Value) → List HProp → Prop} (hg : o.guard = none) (hd : Does P W N o L H k) (h : ∀ L' H', k L' H' → GoK P W N K O Q ks rest L' H') :
    GoK P W N K O Q (3 :: ks) (o :: rest) L H := fun a w ha hs => by
  simp only [wpKL]
  rw [if_pos (wanted_none hg)]
  exact wp_QF (hd a w ha hs _ fun L' H' hk a' w' ha' hs' => h L' H' hk a' w' ha' hs')
theorem GoK.dg {o : Oper} {k : List (Nat × Option Value) → List HProp → Prop} {j t : Nat} {want : Bool} (hg : o.guard = some (j, want)) (hj : (O[j]?).bind (·.dst) = some t) (ht : look L t = some (.bool want)) (hd : Does P W N o L H k) (h : ∀ L' H', k L' H' → GoK P W N K O Q ks rest L' H') :
    GoK P W N K O Q (3 :: ks) (o :: rest) L H := fun a w ha hs => by
  simp only [wpKL]
  rw [if_pos (by rw [wanted_of ha hg hj ht]; simp [boolOf])]
  exact wp_QF (hd a w ha hs _ fun L' H' hk a' w' ha' hs' => h L' H' hk a' w' ha' hs')
theorem GoK.dskip {op : Op} {pos : String} {after : Array Edge} {d j t : Nat} {want : Bool} {u : Value} (hj : (O[j]?).bind (·.dst) = some t) (ht : look L t = some u) (hb : (boolOf u == some want) = false) (hN : Nat.blt d N = true)
    (h : GoK P W N K O Q ks rest ((d, some undef) :: L) H) : GoK P W N K O Q (3 :: ks) (⟨some d, op, T, pos, after, some (j, want)⟩ :: rest) L H := fun a w ha hs => by
  simp only [wpKL]
  rw [if_neg (by rw [wanted_of ha rfl hj ht, hb]; simp)]
  exact h _ w (ha.put (Nat.blt_eq.mp hN) undef) hs
theorem GoL.dg {o : Oper} {k : List (Nat × Option Value) → List HProp → Prop} {j t : Nat} {want : Bool} (hg : o.guard = some (j, want)) (hj : (O[j]?).bind (·.dst) = some t) (ht : look L t = some (.bool want)) (hd : Does P W N o L H k) (h : ∀ L' H', k L' H' → GoL P W N O Q rest L' H') : GoL P W N O Q (o :: rest) L H := fun a w ha hs =>
  wpList_step fun Kp hK => by
    rw [if_pos (by rw [wanted_of ha hg hj ht]; simp [boolOf])]
    exact wp_QF (hd a w ha hs Kp fun L' H' hk a' w' ha' hs' => hK _ _ (h L' H' hk a' w' ha' hs'))
theorem GoK.mem {ops : List Oper} {H' : List HProp} (h : ∀ w, Sat W w (seps H) → Sat W w (seps H')) (k : GoK P W N K O Q ks ops L H') : GoK P W N K O Q ks ops L H := fun a w ha hs => k a w ha (h w hs)
theorem GoK.part {ops : List Oper} {t : Nat} {b : Bool} (ht : look L t = some (.bool b)) (h1 : b = true → GoK P W N K O Q ks ops ((t, some (.bool true)) :: L) H) (h2 : b = false → GoK P W N K O Q ks ops ((t, some (.bool false)) :: L) H) : GoK P W N K O Q ks ops L H := fun a w ha hs => by
  have hx : ∀ u, b = u → Env N ((t, some (.bool u)) :: L) a := fun u e => by
    subst e
    refine ⟨ha.size, fun k v hv => ?_, ha.defers⟩
    rw [look_cons] at hv
    by_cases hk : t = k
    · rw [if_pos hk] at hv; cases hv; subst hk; exact ha.get _ _ ht
    · rw [if_neg hk] at hv; exact ha.get _ _ hv
  cases b with
  | true => exact h1 rfl a w (hx _ rfl) hs
  | false => exact h2 rfl a w (hx _ rfl) hs
theorem GoK.partD {ops : List Oper} {t : Nat} {p : Prop} [Decidable p] (ht : look L t = some (.bool (decide p))) (h1 : p → GoK P W N K O Q ks ops ((t, some (.bool true)) :: L) H) (h2 : ¬ p → GoK P W N K O Q ks ops ((t, some (.bool false)) :: L) H) : GoK P W N K O Q ks ops L H :=
  .part ht (fun e => h1 (of_decide_eq_true e)) (fun e => h2 (of_decide_eq_false e))

/-- What is kept is a part of what there is. -/
inductive Kept : List HProp → List HProp → Prop where
  | nil {H : List HProp} : Kept H []
  | take {A : HProp} {H R K : List HProp} (t : Take H A R) (h : Kept R K) : Kept H (A :: K)

theorem Kept.sat {H K : List HProp} (h : Kept H K) : ∀ {A : HProp} w, Sat W w (sep (seps H) A) → Sat W w (sep (seps K) A) := by
  induction h with
  | nil => intro A w s; exact s.right.eq (by simp only [seps]; exact (emp_sep _).symm)
  | take t _ ih =>
    intro A w s
    rw [t.seps, sep_assoc, sep_left_comm] at s
    have := ih w s
    simp only [seps]
    rw [sep_assoc, sep_left_comm]
    exact this
theorem Kept.ok {H K : List HProp} (h : Kept H K) : ∀ w, Sat W w (seps H) → Sat W w (seps K) := fun w s => by
  have := h.sat (A := emp) w (by rw [sep_emp]; exact s)
  rwa [sep_emp] at this

/-! ### Effects -/

theorem Does.value {o : Oper} {d : Nat} {v : Value} {H' : List HProp} (hd : o.dst = some d) (hN : Nat.blt d N = true) (h : ∀ a w, Env N L a → Sat W w (seps H) → ∃ w', (execOp a.eval o).run P w = .ok (.value v) w' ∧ Sat W w' (seps H')) :
    Does P W N o L H (fun L1 H1 => L1 = (d, some v) :: L ∧ H1 = H') := fun a w ha hs Kp hK => by
  obtain ⟨w', hr, hs'⟩ := h a w ha hs
  unfold Oper.wp
  rw [hr]
  simp only [Oper.upon]
  rw [hd]
  exact hK _ _ ⟨rfl, rfl⟩ _ _ (ha.put (Nat.blt_eq.mp hN) v) hs'

/-- A new block. -/
theorem Does.new {op : Op} {pos : String} {after : Array Edge} {guard : Option (Nat × Bool)} {d : Nat} {cs : List Value} {E : TypeId} {f : Nat → Value} (hN : Nat.blt d N = true)
    (h : ∀ a w, Env N L a → (execOp a.eval ⟨some d, op, T, pos, after, guard⟩).run P w = .ok (.value (f w.heap.size)) (w.alloc (.cells cs.toArray E))) :
    Does P W N ⟨some d, op, T, pos, after, guard⟩ L H (fun L1 H1 => ∃ b, L1 = (d, some (f b)) :: L ∧ H1 = arr b 0 cs :: H) := fun a w ha hs Kp hK => by
  unfold Oper.wp
  rw [h a w ha]
  simp only [Oper.upon]
  have := hs.alloc cs.toArray E
  exact hK _ _ ⟨w.heap.size, rfl, rfl⟩ _ _ (ha.put (Nat.blt_eq.mp hN) _) this

theorem run_newVar (E : TypeId) (v : Value) (w : World) : (newVar E v).run P w = .ok ⟨w.heap.size, 0, none⟩ (w.alloc (.cells v.cells E)) := rfl

theorem Does.alloc {E : TypeId} {pos : String} {after : Array Edge} {guard : Option (Nat × Bool)} {d : Nat} {z : Value} {cs : List Value} (hN : Nat.blt d N = true) (hz : ∀ w, (zeroValue E).run P w = .ok z w) (hc : z.cells = cs.toArray) :
    Does P W N ⟨some d, .alloc E, T, pos, after, guard⟩ L H (fun L1 H1 => ∃ b, L1 = (d, some (.pointer (some ⟨b, 0, none⟩))) :: L ∧ H1 = arr b 0 cs :: H) :=
  Does.new (E := E) (f := fun b => .pointer (some ⟨b, 0, none⟩)) hN fun a w ha => by
    simp only [execOp]
    show (Instr.alloc E true (.tuple #[]) >>= fun x => pure (Next.value x)).run P w = _
    simp [Instr.alloc, hz, run_newVar, hc]

theorem Does.box {E : TypeId} {x : Operand} {pos : String} {after : Array Edge} {guard : Option (Nat × Bool)} {d : Nat} {v : Value} {cs : List Value} (hN : Nat.blt d N = true) (hx : ev L x = some v) (hc : v.cells = cs.toArray) :
    Does P W N ⟨some d, .box E x, T, pos, after, guard⟩ L H (fun L1 H1 => ∃ b, L1 = (d, some (.pointer (some ⟨b, 0, none⟩))) :: L ∧ H1 = arr b 0 cs :: H) :=
  Does.new (E := E) (f := fun b => .pointer (some ⟨b, 0, none⟩)) hN fun a w ha => by
    simp only [execOp, ha.eval hx]
    show (Instr.box E v >>= fun x => pure (Next.value x)).run P w = _
    simp [Instr.box, run_newVar, hc]

theorem Does.buildSlice {t E : TypeId} {n : Nat} {ps : Array (Nat × Operand)} {pos : String} {after : Array Edge} {guard : Option (Nat × Bool)} {d : Nat} {vs : List (Nat × Value)} {cs : List Value} (hN : Nat.blt d N = true) (hp : evParts L ps.toList = some vs)
    (h : ∀ w, (Instr.buildSlice t n vs.toArray).run P w = .ok (.slice (some ⟨w.heap.size, 0, none⟩) n n) (w.alloc (.cells cs.toArray E))) :
    Does P W N ⟨some d, .buildSlice t n ps, T, pos, after, guard⟩ L H (fun L1 H1 => ∃ b, L1 = (d, some (.slice (some ⟨b, 0, none⟩) n n)) :: L ∧ H1 = arr b 0 cs :: H) :=
  Does.new (E := E) (f := fun b => .slice (some ⟨b, 0, none⟩) n n) hN fun a w ha => by
    have e : ps.map (fun p => (p.1, a.eval p.2)) = vs.toArray := by
      rw [← evParts_map ha hp, ← List.map_toArray]
    simp only [execOp]
    show (Instr.buildSlice t n (ps.map fun p => (p.1, a.eval p.2)) >>= fun x => pure (Next.value x)).run P w = _
    rw [e, Sem.run_bind, h]
    rfl

/-! stores -/

theorem run_store1 {b o : Nat} {u v : Value} {w : World} (hv : v.oneCell' = true) (hc : w.cell? ⟨b, o, none⟩ = some u) (hf : w.frozen? ⟨b, o, none⟩ = false) : (store ⟨b, o, none⟩ v).run P w = .ok () (w.setCell ⟨b, o, none⟩ v) := by
  cases v <;> first | (simp [Value.oneCell'] at hv; done) | (simp [store, Sem.run, hc, hf])

theorem oneCell_cells {v : Value} (h : v.oneCell' = true) : v.cells = #[v] := by cases v <;> simp_all [Value.oneCell', Value.cells]

theorem Does.store {E : TypeId} {x y : Operand} {pos : String} {after : Array Edge} {guard : Option (Nat × Bool)} {b o i : Nat} {v : Value} {cs : List Value} {H' : List HProp} (hx : ev L x = some (.pointer (some ⟨b, o + i, none⟩))) (hy : ev L y = some v) (hz : ∀ w, (sizeOf E).run P w = .ok 1 w) (hv : v.oneCell' = true)
    (hr : Repl H (arr b o cs) (arr b o (cs.set i v)) H') (hi : i < cs.length) :
    Does P W N ⟨none, .store E x y, T, pos, after, guard⟩ L H (fun L1 H1 => L1 = L ∧ H1 = H') := fun a w ha hs Kp hK => by
  obtain ⟨R, e1, e2⟩ := hr.seps
  rw [e1] at hs
  obtain ⟨hb, hc⟩ := arr_cell hs (i := i) (v := cs[i]) (by simp [hi])
  have hrun : (execOp a.eval ⟨none, .store E x y, T, pos, after, guard⟩).run P w = .ok .skip (w.setCell ⟨b, o + i, none⟩ v) := by
    simp only [execOp, ha.eval hx, ha.eval hy]
    show (Instr.storeAt E (.pointer (some ⟨b, o + i, none⟩)) v >>= fun _ => pure Next.skip).run P w = _
    have h1 : (storeCells ⟨b, o + i, none⟩ [v]).run P w = .ok () (w.setCell ⟨b, o + i, none⟩ v) := by
      simp [storeCells, addr_add, run_store1 hv hc (arr_fz hs hi)]
    simp [Instr.storeAt, Instr.sureAddr, storeVar, hz, oneCell_cells hv, h1]
  unfold Oper.wp
  rw [hrun]
  simp only [Oper.upon]
  exact hK _ _ ⟨rfl, rfl⟩ _ _ ⟨ha.size, ha.get, ha.defers⟩ (by rw [e2]; exact hs.setCell v hi)
theorem Does.store0 {E : TypeId} {x y : Operand} {pos : String} {after : Array Edge} {guard : Option (Nat × Bool)} {b i : Nat} {v : Value} {cs : List Value} {H' : List HProp} (hx : ev L x = some (.pointer (some ⟨b, i, none⟩))) (hy : ev L y = some v) (hz : ∀ w, (sizeOf E).run P w = .ok 1 w) (hv : v.oneCell' = true)
    (hr : Repl H (arr b 0 cs) (arr b 0 (cs.set i v)) H') (hi : i < cs.length) :
    Does P W N ⟨none, .store E x y, T, pos, after, guard⟩ L H (fun L1 H1 => L1 = L ∧ H1 = H') :=
  Does.store (o := 0) (by rw [Nat.zero_add]; exact hx) hy hz hv hr hi
theorem Does.storeH {E : TypeId} {x y : Operand} {pos : String} {after : Array Edge} {guard : Option (Nat × Bool)} {b o : Nat} {v : Value} {cs : List Value} {H' : List HProp} (hx : ev L x = some (.pointer (some ⟨b, o, none⟩))) (hy : ev L y = some v) (hz : ∀ w, (sizeOf E).run P w = .ok 1 w) (hv : v.oneCell' = true)
    (hr : Repl H (arr b o cs) (arr b o (cs.set 0 v)) H') (hi : 0 < cs.length) :
    Does P W N ⟨none, .store E x y, T, pos, after, guard⟩ L H (fun L1 H1 => L1 = L ∧ H1 = H') :=
  Does.store (i := 0) hx hy hz hv hr hi

/-- So many cells from a place on. -/
def setFrom (cs : List Value) (i : Nat) : List Value → List Value
  | [] => cs
  | v :: vs => setFrom (cs.set i v) (i + 1) vs

theorem setFrom_length (vs : List Value) : ∀ (cs : List Value) (i : Nat), (setFrom cs i vs).length = cs.length := by
  induction vs with
  | nil => intro cs i; rfl
  | cons v vs ih => intro cs i; simp [setFrom, ih]

theorem run_storeCells {b o : Nat} {R : HProp} : ∀ (vs : List Value) (cs : List Value) (i j : Nat) (w : World), Sat W w (sep (arr b o cs) R) → (∀ v ∈ vs, v.oneCell' = true) → i + j + vs.length ≤ cs.length →
    ∃ w', (storeCells ⟨b, o + i, none⟩ vs j).run P w = .ok () w' ∧ Sat W w' (sep (arr b o (setFrom cs (i + j) vs)) R)
  | [], cs, i, j, w, hs, _, _ => ⟨w, rfl, hs⟩
  | v :: vs, cs, i, j, w, hs, hv, hl => by
    have hij : i + j < cs.length := by simp at hl; omega
    obtain ⟨hb, hc⟩ := arr_cell hs (i := i + j) (v := cs[i + j]) (by simp [hij])
    have h1 := run_store1 (P := P) (hv v (List.mem_cons_self ..)) hc (arr_fz hs hij)
    obtain ⟨w', h2, h3⟩ := run_storeCells vs (cs.set (i + j) v) i (j + 1) _ (hs.setCell v hij) (fun u hu => hv u (List.mem_cons_of_mem _ hu)) (by simp at hl ⊢; omega)
    refine ⟨w', ?_, h3⟩
    simp only [storeCells, addr_add, Sem.run_bind]
    rw [show o + i + j = o + (i + j) from by omega, h1]
    exact h2

theorem Does.storeAgg {E : TypeId} {x y : Operand} {pos : String} {after : Array Edge} {guard : Option (Nat × Bool)} {b o i : Nat} {vs cs : List Value} {H' : List HProp} (hx : ev L x = some (.pointer (some ⟨b, o + i, none⟩))) (hy : ev L y = some (.agg vs.toArray)) (hz : ∀ w, (sizeOf E).run P w = .ok vs.length w) (hv : ∀ v ∈ vs, v.oneCell' = true)
    (hr : Repl H (arr b o cs) (arr b o (setFrom cs i vs)) H') (hi : i + vs.length ≤ cs.length) :
    Does P W N ⟨none, .store E x y, T, pos, after, guard⟩ L H (fun L1 H1 => L1 = L ∧ H1 = H') := fun a w ha hs Kp hK => by
  obtain ⟨R, e1, e2⟩ := hr.seps
  rw [e1] at hs
  obtain ⟨w', h1, h2⟩ := run_storeCells (P := P) vs cs i 0 w hs hv (by omega)
  have hrun : (execOp a.eval ⟨none, .store E x y, T, pos, after, guard⟩).run P w = .ok .skip w' := by
    simp only [execOp, ha.eval hx, ha.eval hy]
    show (Instr.storeAt E (.pointer (some ⟨b, o + i, none⟩)) (.agg vs.toArray) >>= fun _ => pure Next.skip).run P w = _
    simp [Instr.storeAt, Instr.sureAddr, storeVar, hz, Value.cells, h1]
  unfold Oper.wp
  rw [hrun]
  simp only [Oper.upon]
  exact hK _ _ ⟨rfl, rfl⟩ _ _ ⟨ha.size, ha.get, ha.defers⟩ (by rw [e2]; exact h2)
theorem setFrom_all {cs vs : List Value} (h : cs.length = vs.length) : setFrom cs 0 vs = vs := by
  have key : ∀ (vs pre cs : List Value), cs.length = pre.length + vs.length → cs.take pre.length = pre → setFrom cs pre.length vs = pre ++ vs := by
    intro vs
    induction vs with
    | nil => intro pre cs hl ht; simp [setFrom]; rw [← ht, List.take_of_length_le (by simp at hl; omega)]
    | cons v vs ih =>
      intro pre cs hl ht
      have := ih (pre ++ [v]) (cs.set pre.length v) (by simp at hl ⊢; omega) (by
        simp only [List.length_append, List.length_cons, List.length_nil]
        rw [List.take_set, List.take_add_one]
        have hlt : pre.length < cs.length := by simp at hl; omega
        rw [ht]
        simp [hlt])
      simp at this
      simp [setFrom, this]
  simpa using key vs [] cs (by simpa using h) rfl
/-- A whole variable of its own block. -/
theorem Does.storeAll {E : TypeId} {x y : Operand} {pos : String} {after : Array Edge} {guard : Option (Nat × Bool)} {b o : Nat} {vs cs : List Value} {H' : List HProp} (hx : ev L x = some (.pointer (some ⟨b, o, none⟩))) (hy : ev L y = some (.agg vs.toArray)) (hz : ∀ w, (sizeOf E).run P w = .ok vs.length w) (hv : ∀ v ∈ vs, v.oneCell' = true)
    (hr : Repl H (arr b o cs) (arr b o vs) H') (hi : cs.length = vs.length) :
    Does P W N ⟨none, .store E x y, T, pos, after, guard⟩ L H (fun L1 H1 => L1 = L ∧ H1 = H') :=
  Does.storeAgg (i := 0) hx hy hz hv (by rw [setFrom_all hi]; exact hr) (by omega)

/-! ### Calls -/

/-- A function's contract: beside whatever else there is. -/
def Fn (P : Program) (W : World) (f : FuncId) (args : List Value) (pre : List HProp) (X : Type) (val : X → Value) (fact : X → Prop) (post : X → List HProp) : Prop :=
  ∀ (F : HProp) (w : World), Sat W w (sep (seps pre) F) → Calls P f args.toArray w (fun e w' => ∃ x, e = .returned (val x) ∧ fact x ∧ Sat W w' (sep (seps (post x)) F))

theorem Fn.weaken {f : FuncId} {args : List Value} {pre : List HProp} {X : Type} {val : X → Value} {fact : X → Prop} {post : X → List HProp} (h : Fn P W f args pre X val fact post) {Y : Type} {val' : Y → Value} {fact' : Y → Prop} {post' : Y → List HProp}
    (hw : ∀ x, fact x → ∃ y, val' y = val x ∧ fact' y ∧ ∀ F w, Sat W w (sep (seps (post x)) F) → Sat W w (sep (seps (post' y)) F)) : Fn P W f args pre Y val' fact' post' := fun F w hs =>
  (h F w hs).mono fun e w' ⟨x, he, hx, hs'⟩ => by
    obtain ⟨y, e1, e2, e3⟩ := hw x hx
    exact ⟨y, by rw [e1]; exact he, e2, e3 F w' hs'⟩

def enum (k : Nat) : List Value → List (Nat × Option Value)
  | [] => []
  | v :: r => (k, some v) :: enum (k + 1) r

theorem look_enum : ∀ (vs : List Value) (k j : Nat) (v : Value), look (enum k vs) j = some v → k ≤ j ∧ vs[j - k]? = some v
  | [], _, _, _, h => by cases h
  | u :: r, k, j, v, h => by
    simp only [enum] at h
    rw [look_cons] at h
    by_cases e : k = j
    · rw [if_pos e] at h; cases h; subst e; simp
    · rw [if_neg e] at h
      obtain ⟨h1, h2⟩ := look_enum r (k + 1) j v h
      refine ⟨by omega, ?_⟩
      rw [show j - k = (j - (k + 1)) + 1 from by omega]
      simpa using h2

theorem Fn.intro {f : FuncId} {fn : Func} {c : Code} {args : List Value} {pre : List HProp} {X : Type} {val : X → Value} {fact : X → Prop} {post : X → List HProp} (hf : P.funcs[f]? = some fn) (hb : fn.body = some c) (hn : fn.ntmps = N) (ha : Nat.ble args.length N = true)
    (h : ∀ F, GoC P W N (bodyPost P fn (fun e w' => ∃ x, e = .returned (val x) ∧ fact x ∧ Sat W w' (sep (seps (post x)) F))) c (enum 0 args) (pre ++ [F])) : Fn P W f args pre X val fact post := fun F w hs => by
  have hle : args.length ≤ N := Nat.ble_eq.mp ha
  refine calls_of_wp hf hb (h F _ w ⟨?_, fun k v hv => ?_, rfl⟩ ?_)
  · simp [hn]; omega
  · obtain ⟨_, h2⟩ := look_enum args 0 k v hv
    have hk : k < args.length := by
      have := (List.getElem?_eq_some_iff.1 h2).1; simpa using this
    show (args.toArray ++ Array.replicate (fn.ntmps - args.toArray.size) undef)[k]? = some v
    rw [Array.getElem?_append_left (by simpa using hk)]
    simpa using h2
  · rw [seps_append]; simp only [seps]; rw [sep_emp]; exact hs

/-- The call of a named function. -/
theorem Does.call {f : FuncId} {xs : Array Operand} {ts : Array TypeId} {pos : String} {after : Array Edge} {guard : Option (Nat × Bool)} {d : Nat} {args : List Value} {pre R : List HProp} {X : Type} {val : X → Value} {fact : X → Prop} {post : X → List HProp} (hN : Nat.blt d N = true)
    (hc : ∀ args w, (callFunc f args).run P w = .ok (.enter f args) w) (hx : evs L xs.toList = some args) (hfn : Fn P W f args pre X val fact post) (ht : Takes H pre R) :
    Does P W N ⟨some d, .call ⟨.value (.func f), xs, ts⟩, T, pos, after, guard⟩ L H (fun L1 H1 => ∃ x, fact x ∧ L1 = (d, some (val x)) :: L ∧ H1 = post x ++ R) := fun a w ha hs Kp hK => by
  have e : xs.map a.eval = args.toArray := by
    rw [← ha.evals hx, ← List.map_toArray]
  rw [ht.seps, seps_append] at hs
  unfold Oper.wp
  have hr : (execOp a.eval ⟨some d, .call ⟨.value (.func f), xs, ts⟩, T, pos, after, guard⟩).run P w = .ok (.enter f args.toArray) w := by
    simp [execOp, resolve, Act.eval, Deferred.ofValue, invoke, e, hc]
  rw [hr]
  simp only [Oper.upon]
  refine (hfn _ w hs).mono fun en w' ⟨x, he, hf, hs'⟩ => ?_
  subst he
  exact hK _ _ ⟨x, hf, rfl, rfl⟩ _ _ (ha.put (Nat.blt_eq.mp hN) _) (by rw [seps_append]; exact hs')
/-- The call of a named function whose result nobody takes. -/
theorem Does.call_ {f : FuncId} {xs : Array Operand} {ts : Array TypeId} {pos : String} {after : Array Edge} {guard : Option (Nat × Bool)} {args : List Value} {pre R : List HProp} {X : Type} {val : X → Value} {fact : X → Prop} {post : X → List HProp}
    (hc : ∀ args w, (callFunc f args).run P w = .ok (.enter f args) w) (hx : evs L xs.toList = some args) (hfn : Fn P W f args pre X val fact post) (ht : Takes H pre R) :
    Does P W N ⟨none, .call ⟨.value (.func f), xs, ts⟩, T, pos, after, guard⟩ L H (fun L1 H1 => ∃ x, fact x ∧ L1 = L ∧ H1 = post x ++ R) := fun a w ha hs Kp hK => by
  have e : xs.map a.eval = args.toArray := by
    rw [← ha.evals hx, ← List.map_toArray]
  rw [ht.seps, seps_append] at hs
  unfold Oper.wp
  have hr : (execOp a.eval ⟨none, .call ⟨.value (.func f), xs, ts⟩, T, pos, after, guard⟩).run P w = .ok (.enter f args.toArray) w := by
    simp [execOp, resolve, Act.eval, Deferred.ofValue, invoke, e, hc]
  rw [hr]
  simp only [Oper.upon]
  refine (hfn _ w hs).mono fun en w' ⟨x, he, hf, hs'⟩ => ?_
  subst he
  exact hK _ _ ⟨x, hf, rfl, rfl⟩ _ _ ⟨ha.size, ha.get, ha.defers⟩ (by rw [seps_append]; exact hs')
/-- The call of a function value. -/
theorem Does.callv {f : FuncId} {g : Operand} {us cap : List Value} {xs : Array Operand} {ts : Array TypeId} {pos : String} {after : Array Edge} {guard : Option (Nat × Bool)} {d : Nat} {args : List Value} {pre R : List HProp} {X : Type} {val : X → Value} {fact : X → Prop} {post : X → List HProp} (hN : Nat.blt d N = true)
    (hg : ev L g = some (.func (.func f) us.toArray cap.toArray)) (hc : ∀ args w, (callFunc f args).run P w = .ok (.enter f args) w) (hx : evs L xs.toList = some args) (hfn : Fn P W f (us ++ args ++ cap) pre X val fact post) (ht : Takes H pre R) :
    Does P W N ⟨some d, .call ⟨.value g, xs, ts⟩, T, pos, after, guard⟩ L H (fun L1 H1 => ∃ x, fact x ∧ L1 = (d, some (val x)) :: L ∧ H1 = post x ++ R) := fun a w ha hs Kp hK => by
  have e : xs.map a.eval = args.toArray := by
    rw [← ha.evals hx, ← List.map_toArray]
  rw [ht.seps, seps_append] at hs
  unfold Oper.wp
  have hr : (execOp a.eval ⟨some d, .call ⟨.value g, xs, ts⟩, T, pos, after, guard⟩).run P w = .ok (.enter f (us ++ args ++ cap).toArray) w := by
    simp [execOp, resolve, ha.eval hg, Deferred.ofValue, invoke, e, hc]
  rw [hr]
  simp only [Oper.upon]
  refine (hfn _ w hs).mono fun en w' ⟨x, he, hf, hs'⟩ => ?_
  subst he
  exact hK _ _ ⟨x, hf, rfl, rfl⟩ _ _ (ha.put (Nat.blt_eq.mp hN) _) (by rw [seps_append]; exact hs')

/-! ### The end of a function -/

theorem GoE.ret0 {fn : Func} {R : Ending → World → Prop} (hr : fn.results = #[]) (h : ∀ w, Sat W w (seps H) → R (.returned (.tuple #[])) w) : GoE W N (bodyPost P fn R) .ret L H := fun a w ha hs =>
  bodyPost_ret (results_none hr _ _ _) ha.defers (h w hs)
theorem GoE.end0 {fn : Func} {R : Ending → World → Prop} (hr : fn.results = #[]) (h : ∀ w, Sat W w (seps H) → R (.returned (.tuple #[])) w) : GoE W N (bodyPost P fn R) .normal L H := fun a w ha hs =>
  bodyPost_end (results_none hr _ _ _) ha.defers (h w hs)
theorem getD_look {a : Act} (ha : Env N L a) {t : Nat} {v : Value} (h : look L t = some v) : a.tmps.getD t undef = v := by
  have := ha.get t v h; simp [this]
theorem GoE.ret1 {fn : Func} {R : Ending → World → Prop} {t : Nat} {v : Value} (hr : fn.results = #[.tmp t]) (ht : look L t = some v) (h : ∀ w, Sat W w (seps H) → R (.returned v) w) : GoE W N (bodyPost P fn R) .ret L H := fun a w ha hs =>
  bodyPost_ret (by rw [results_tmp hr, getD_look ha ht]) ha.defers (h w hs)
theorem GoE.ret2 {fn : Func} {R : Ending → World → Prop} {t1 t2 : Nat} {v1 v2 : Value} (hr : fn.results = #[.tmp t1, .tmp t2]) (h1 : look L t1 = some v1) (h2 : look L t2 = some v2) (h : ∀ w, Sat W w (seps H) → R (.returned (.tuple #[v1, v2])) w) : GoE W N (bodyPost P fn R) .ret L H := fun a w ha hs =>
  bodyPost_ret (by rw [results_tmp2 hr, getD_look ha h1, getD_look ha h2]) ha.defers (h w hs)
/-- Results that lie in slots and in variables of their own. -/
theorem GoE.retG {fn : Func} {R : Ending → World → Prop} {v : Value} (hv : ∀ a w, Env N L a → Sat W w (seps H) → (results fn a.tmps).run P w = .ok v w) (h : ∀ w, Sat W w (seps H) → R (.returned v) w) : GoE W N (bodyPost P fn R) .ret L H := fun a w ha hs =>
  bodyPost_ret (hv a w ha hs) ha.defers (h w hs)
theorem GoE.ret3 {fn : Func} {R : Ending → World → Prop} {t1 t2 t3 : Nat} {v1 v2 v3 : Value} (hr : fn.results = #[.tmp t1, .tmp t2, .tmp t3]) (h1 : look L t1 = some v1) (h2 : look L t2 = some v2) (h3 : look L t3 = some v3) (h : ∀ w, Sat W w (seps H) → R (.returned (.tuple #[v1, v2, v3])) w) : GoE W N (bodyPost P fn R) .ret L H :=
  GoE.retG (fun a w ha hs => by simp [results, hr, ha.get _ _ h1, ha.get _ _ h2, ha.get _ _ h3]) h
theorem GoE.ret4 {fn : Func} {R : Ending → World → Prop} {t1 t2 t3 t4 : Nat} {v1 v2 v3 v4 : Value} (hr : fn.results = #[.tmp t1, .tmp t2, .tmp t3, .tmp t4]) (h1 : look L t1 = some v1) (h2 : look L t2 = some v2) (h3 : look L t3 = some v3) (h4 : look L t4 = some v4) (h : ∀ w, Sat W w (seps H) → R (.returned (.tuple #[v1, v2, v3, v4])) w) : GoE W N (bodyPost P fn R) .ret L H :=
  GoE.retG (fun a w ha hs => by simp [results, hr, ha.get _ _ h1, ha.get _ _ h2, ha.get _ _ h3, ha.get _ _ h4]) h

/-- One result, in a variable of its own. -/
theorem GoE.retC {fn : Func} {R : Ending → World → Prop} {E : TypeId} {t b o : Nat} {cs : List Value} (hr : fn.results = #[.cell t E]) (ht : look L t = some (.pointer (some ⟨b, o, none⟩))) (hg : ∀ w, (isAgg E).run P w = .ok true w) (hz : ∀ w, (sizeOf E).run P w = .ok cs.length w) (hc : Cells W H b o cs)
    (h : ∀ w, Sat W w (seps H) → R (.returned (.agg cs.toArray)) w) : GoE W N (bodyPost P fn R) .ret L H :=
  GoE.retG (fun a w ha hs => by
    have hl := run_loadAgg (P := P) (w := w) hg hz fun i v hv => hc i v hv w hs
    simp [results, hr, ha.get _ _ ht, asAddr, hl]) h
theorem GoE.retCT {fn : Func} {R : Ending → World → Prop} {E : TypeId} {t t2 b o : Nat} {cs : List Value} {v2 : Value} (hr : fn.results = #[.cell t E, .tmp t2]) (ht : look L t = some (.pointer (some ⟨b, o, none⟩))) (hg : ∀ w, (isAgg E).run P w = .ok true w) (hz : ∀ w, (sizeOf E).run P w = .ok cs.length w) (hc : Cells W H b o cs) (h2 : look L t2 = some v2)
    (h : ∀ w, Sat W w (seps H) → R (.returned (.tuple #[.agg cs.toArray, v2])) w) : GoE W N (bodyPost P fn R) .ret L H :=
  GoE.retG (fun a w ha hs => by
    have hl := run_loadAgg (P := P) (w := w) hg hz fun i v hv => hc i v hv w hs
    simp [results, hr, ha.get _ _ ht, asAddr, hl, ha.get _ _ h2]) h
theorem GoE.retTC {fn : Func} {R : Ending → World → Prop} {E : TypeId} {t t2 b o : Nat} {cs : List Value} {v2 : Value} (hr : fn.results = #[.tmp t2, .cell t E]) (ht : look L t = some (.pointer (some ⟨b, o, none⟩))) (hg : ∀ w, (isAgg E).run P w = .ok true w) (hz : ∀ w, (sizeOf E).run P w = .ok cs.length w) (hc : Cells W H b o cs) (h2 : look L t2 = some v2)
    (h : ∀ w, Sat W w (seps H) → R (.returned (.tuple #[v2, .agg cs.toArray])) w) : GoE W N (bodyPost P fn R) .ret L H :=
  GoE.retG (fun a w ha hs => by
    have hl := run_loadAgg (P := P) (w := w) hg hz fun i v hv => hc i v hv w hs
    simp [results, hr, ha.get _ _ ht, asAddr, hl, ha.get _ _ h2]) h
theorem GoE.retCTT {fn : Func} {R : Ending → World → Prop} {E : TypeId} {t t2 t3 b o : Nat} {cs : List Value} {v2 v3 : Value} (hr : fn.results = #[.cell t E, .tmp t2, .tmp t3]) (ht : look L t = some (.pointer (some ⟨b, o, none⟩))) (hg : ∀ w, (isAgg E).run P w = .ok true w) (hz : ∀ w, (sizeOf E).run P w = .ok cs.length w) (hc : Cells W H b o cs) (h2 : look L t2 = some v2) (h3 : look L t3 = some v3)
    (h : ∀ w, Sat W w (seps H) → R (.returned (.tuple #[.agg cs.toArray, v2, v3])) w) : GoE W N (bodyPost P fn R) .ret L H :=
  GoE.retG (fun a w ha hs => by
    have hl := run_loadAgg (P := P) (w := w) hg hz fun i v hv => hc i v hv w hs
    simp [results, hr, ha.get _ _ ht, asAddr, hl, ha.get _ _ h2, ha.get _ _ h3]) h

/-! ### Loops -/

/-- What a round hands on. -/
def Again (W : World) (N : Nat) {X : Type} (m : X → Nat) (fact : X → Prop) (Ls : X → List (Nat × Option Value)) (Hs : X → List HProp) (x : X) (a : Act) (w : World) : Prop :=
  ∃ y, m y < m x ∧ fact y ∧ Env N (Ls y) a ∧ Sat W w (seps (Hs y))

theorem GoC.loop {c : Code} {X : Type} (m : X → Nat) (fact : X → Prop) (Ls : X → List (Nat × Option Value)) (Hs : X → List HProp) (x0 : X) (h0 : fact x0) (hL : Sub (Ls x0) L) (hH : ∀ w, Sat W w (seps H) → Sat W w (seps (Hs x0)))
    (round : ∀ x, fact x → GoC P W N (Exit.then (Again W N m fact Ls Hs x) Q) c (Ls x) (Hs x)) : GoC P W N Q (.loop c) L H := fun a w ha hs =>
  wp_loop_ghost (fun n a w => ∃ x, m x = n ∧ fact x ∧ Env N (Ls x) a ∧ Sat W w (seps (Hs x))) (m x0) ⟨x0, rfl, h0, ha.sub hL, hH w hs⟩ fun n a w ⟨x, hm, hf, ha, hs⟩ => by
    refine wp_mono (round x hf a w ha hs) fun e a' w' hq => ?_
    cases e with
    | normal =>
      obtain ⟨y, h1, h2, h3, h4⟩ := hq
      exact ⟨m y, by omega, y, rfl, h2, h3, h4⟩
    | exit id => exact hq
    | goto l => exact hq
    | ret => exact hq
    | panic ch => exact hq
    | outgrown => exact hq

theorem GoE.again {X : Type} {m : X → Nat} {fact : X → Prop} {Ls : X → List (Nat × Option Value)} {Hs : X → List HProp} {x : X} (y : X) (h1 : m y < m x) (h2 : fact y) (hL : Sub (Ls y) L) (hH : ∀ w, Sat W w (seps H) → Sat W w (seps (Hs y))) :
    GoE W N (Exit.then (Again W N m fact Ls Hs x) Q) .normal L H := fun a w ha hs => ⟨y, h1, h2, ha.sub hL, hH w hs⟩

theorem Env.conv {L' : List (Nat × Option Value)} {a : Act} (ha : Env N L a) (h : ∀ k v, look L' k = some v → look L k = some v) : Env N L' a := ⟨ha.size, fun k v hv => ha.get k v (h k v hv), ha.defers⟩

/-- A loop that writes these slots: what is known of them at a round's head, all else as it was. -/
theorem GoC.loopK {c : Code} {X : Type} (ks : List Nat) (m : X → Nat) (fact : X → Prop) (E : X → List (Nat × Option Value)) (Hs : X → List HProp) (x0 : X) (h0 : fact x0) (hL : Sub (E x0) L) (hH : ∀ w, Sat W w (seps H) → Sat W w (seps (Hs x0)))
    (round : ∀ x, fact x → GoC P W N (Exit.then (Again W N m fact (fun x => E x ++ (nones ks ++ L)) Hs x) Q) c (E x ++ (nones ks ++ L)) (Hs x)) : GoC P W N Q (.loop c) L H := fun a w ha hs =>
  wp_loop_ghost (fun n a w => ∃ x, m x = n ∧ fact x ∧ Env N (E x ++ (nones ks ++ L)) a ∧ Sat W w (seps (Hs x))) (m x0) ⟨x0, rfl, h0, ha.conv (Sub.mid .base hL), hH w hs⟩ fun n a w ⟨x, hm, hf, ha, hs⟩ => by
    refine wp_mono (round x hf a w ha hs) fun e a' w' hq => ?_
    cases e with
    | normal =>
      obtain ⟨y, h1, h2, h3, h4⟩ := hq
      exact ⟨m y, by omega, y, rfl, h2, h3, h4⟩
    | exit id => exact hq
    | goto l => exact hq
    | ret => exact hq
    | panic ch => exact hq
    | outgrown => exact hq

theorem GoE.againK {X : Type} {ks : List Nat} {m : X → Nat} {fact : X → Prop} {E : X → List (Nat × Option Value)} {L0 : List (Nat × Option Value)} {Hs : X → List HProp} {x : X} (y : X) (t : Top ks L (E x ++ (nones ks ++ L0))) (hE : (E x).all (fun p => ks.elem p.1) = true) (h1 : m y < m x) (h2 : fact y) (hL : Sub (E y) L) (hH : ∀ w, Sat W w (seps H) → Sat W w (seps (Hs y))) :
    GoE W N (Exit.then (Again W N m fact (fun x => E x ++ (nones ks ++ L0)) Hs x) Q) .normal L H := fun a w ha hs =>
  ⟨y, h1, h2, ⟨ha.size, fun k v hv => ha.get k v (Sub.round t (fun k v hm => List.all_eq_true.1 hE (k, v) hm) hL k v hv), ha.defers⟩, hH w hs⟩

/-- A place where ways meet: what holds there, whichever way was gone. -/
def Mid (W : World) (N : Nat) {X : Type} (fact : X → Prop) (Ls : X → List (Nat × Option Value)) (Hs : X → List HProp) (a : Act) (w : World) : Prop :=
  ∃ x, fact x ∧ Env N (Ls x) a ∧ Sat W w (seps (Hs x))
theorem GoC.cutK {c1 c2 : Code} {X : Type} (ks : List Nat) (fact : X → Prop) (E : X → List (Nat × Option Value)) (Hs : X → List HProp) (h1 : GoC P W N (Exit.then (Mid W N fact (fun x => E x ++ (nones ks ++ L)) Hs) Q) c1 L H) (h2 : ∀ x, fact x → GoC P W N Q c2 (E x ++ (nones ks ++ L)) (Hs x)) : GoC P W N Q (.seq c1 c2) L H := fun a w ha hs =>
  wp_seq (wp_mono (h1 a w ha hs) fun e a' w' hq => by
    cases e with
    | normal => obtain ⟨x, f, ha', hs'⟩ := hq; exact h2 x f a' w' ha' hs'
    | exit id => exact hq
    | goto l => exact hq
    | ret => exact hq
    | panic ch => exact hq
    | outgrown => exact hq)
theorem GoE.midK {X : Type} {ks : List Nat} {fact : X → Prop} {E : X → List (Nat × Option Value)} {L0 : List (Nat × Option Value)} {Hs : X → List HProp} (y : X) (t : Top ks L L0) (h2 : fact y) (hL : Sub (E y) L) (hH : ∀ w, Sat W w (seps H) → Sat W w (seps (Hs y))) :
    GoE W N (Exit.then (Mid W N fact (fun x => E x ++ (nones ks ++ L0)) Hs) Q) .normal L H := fun a w ha hs =>
  ⟨y, h2, ⟨ha.size, fun k v hv => ha.get k v (Sub.mid t hL k v hv), ha.defers⟩, hH w hs⟩
end
end Go.SLYtkflpgknieoknaa
