/- More rules: an array's value at a place, maps made, parts of a thing looked at where they lie. Conditions: none, this text proves no statement. -/
import Derived.Test.YtkflpgknieoknaaSLo
namespace Go.SLYtkflpgknieoknaa
open Go Go.RowKit

section
variable {P : Program} {W : World} {N : Nat} {Q : Exit → Act → World → Prop} {O : Array Oper} {L : List (Nat × Option Value)} {H K R : List HProp} {T : TypeId} {α : Type}

theorem Y.index {x y : Operand} {t e n : Nat} {cs : Array Value} {v : Value} {kd : IntKind} {j : Int} (i : Nat) (hu : P.underlying t = some (.array n e)) (ha : ∀ w, (isAgg e).run P w = .ok false w) (hz : ∀ w, (sizeOf e).run P w = .ok 1 w) (hx : ev L x = some (.agg cs)) (hy : ev L y = some (.int kd j)) (hj : j = (i : Int)) (hi : i < n) (hv : cs[i]? = some v) :
    Yields P W N (.index t x y) T L H v := fun dst pos after guard a w he hs => by
  subst hj
  simp only [execOp, he.eval hx, he.eval hy]
  refine value_run ?_
  simp [Instr.index, asIntOf, run_underlying hu, hi, hz, part, ha, hv]
theorem Y.min2m {x y : Operand} {ts : Array TypeId} {k : IntKind} {m n : Int} (hx : ev L x = some (.int k m)) (hy : ev L y = some (.int k n)) : Yields P W N (.call ⟨.builtin .min, #[x, y], ts⟩) T L H (.int k (min m n)) := by
  have := Y.min2 (P := P) (W := W) (N := N) (H := H) (T := T) (ts := ts) hx hy
  rwa [show (if n < m then n else m) = min m n from by omega] at this
theorem Y.max2m {x y : Operand} {ts : Array TypeId} {k : IntKind} {m n : Int} (hx : ev L x = some (.int k m)) (hy : ev L y = some (.int k n)) : Yields P W N (.call ⟨.builtin .max, #[x, y], ts⟩) T L H (.int k (max m n)) := by
  have := Y.max2 (P := P) (W := W) (N := N) (H := H) (T := T) (ts := ts) hx hy
  rwa [show (if n > m then n else m) = max m n from by omega] at this

theorem Does.makeMap {t : TypeId} {pos : String} {after : Array Edge} {guard : Option (Nat × Bool)} {d : Nat} (hN : Nat.blt d N = true) :
    Does P W N ⟨some d, .makeMap t none, T, pos, after, guard⟩ L H (fun L1 H1 => ∃ m, L1 = (d, some (.map (some m))) :: L ∧ H1 = objAt m (.map #[] 0) :: H) := fun a w ha hs Kp hK => by
  have hrun : (execOp a.eval ⟨some d, .makeMap t none, T, pos, after, guard⟩).run P w = .ok (.value (.map (some w.heap.size))) (w.alloc (.map #[] 0)) := by
    simp [execOp, Instr.makeMap, newObj, Sem.run]
  unfold Oper.wp
  rw [hrun]
  simp only [Oper.upon]
  exact hK _ _ ⟨w.heap.size, rfl, rfl⟩ _ _ (ha.put (Nat.blt_eq.mp hN) _) (hs.allocObj (.map #[] 0) rfl)

/-! ### a part of a thing, where it lies -/
theorem Sat.fact {w : World} {A : HProp} {p : Prop} (s : Sat W w (seps H)) (t : Take H A R) (e : ∀ h, A h → p) : p := by
  rw [t.seps] at s
  obtain ⟨h, ⟨h1, h2, a, _⟩, _⟩ := s.own
  exact e h1 a
theorem Cell.sub {C : HProp} {b o i : Nat} {cs : List Value} {v : Value} (t : At H C) (e : ∀ h, C h → ∃ J, sep (SLYtkflpgknieoknaa.arr b o cs) J h) (hv : cs[i]? = some v) : Cell W H b (o + i) v := fun w s => by
  obtain ⟨R, s⟩ := t.sat s
  obtain ⟨h, ⟨h1, h2, a, r, d, e'⟩, hin⟩ := s.own
  obtain ⟨J, a'⟩ := e h1 a
  have s2 : Sat W w (sep (sep (SLYtkflpgknieoknaa.arr b o cs) J) R) := { s with own := ⟨h, ⟨h1, h2, a', r, d, e'⟩, hin⟩ }
  rw [sep_assoc] at s2
  exact (arr_cell s2 hv).2
theorem Cell.sub0 {C : HProp} {b i : Nat} {cs : List Value} {v : Value} (t : At H C) (e : ∀ h, C h → ∃ J, sep (SLYtkflpgknieoknaa.arr b 0 cs) J h) (hv : cs[i]? = some v) : Cell W H b i v := by
  have := Cell.sub (W := W) t e hv
  rwa [Nat.zero_add] at this
theorem Rd.sub {C : HProp} {enc : α → List Value} {k : Nat} {v : Value} {xs : List α} (t : At H C) (e : ∀ h, C h → ∃ J, sep (SLYtkflpgknieoknaa.sl enc k v xs) J h) : Rd W H enc k v xs := fun w s => by
  obtain ⟨R, s⟩ := t.sat s
  obtain ⟨h, ⟨h1, h2, a, r, d, e'⟩, hin⟩ := s.own
  obtain ⟨J, a'⟩ := e h1 a
  have s2 : Sat W w (sep (sep (SLYtkflpgknieoknaa.sl enc k v xs) J) R) := { s with own := ⟨h, ⟨h1, h2, a', r, d, e'⟩, hin⟩ }
  rw [sep_assoc] at s2
  exact (Rd.sl (W := W) (H := [SLYtkflpgknieoknaa.sl enc k v xs, sep J R]) .here) w (by simpa only [seps, sep_emp] using s2)
theorem Does.app1 {enc : α → List Value} {k b : Nat} {x y : Operand} {t t2 e e2 ty : TypeId} {pos : String} {after : Array Edge} {guard : Option (Nat × Bool)} {d : Nat} {v : Value} {cs : List Value} {xs : List α} (z0 : α) {R : List HProp} {i : TypeInfo} {z : Value} (hN : Nat.blt d N = true)
    (hu : P.underlying t = some (.slice e)) (hu2 : P.underlying t2 = some (.slice e2)) (hi : ∀ w, (typeInfo e).run P w = .ok i w) (hz : i.zero = some z) (hk : i.size = k) (hzs : z.cells.size = k) (hb : 1 ≤ i.bytes ∧ i.bytes ≤ 4096)
    (hx : ev L x = some v) (hy : ev L y = some (.slice (some ⟨b, 0, none⟩) 1 1)) (hc : enc z0 = cs) (ha : At H (arr b 0 cs)) (hcl : cs.length = k) (ht : Take H (sl enc k v xs) R) (hlen : xs.length < 1073741824) (hone : (enc z0).all (·.oneCell') = true) :
    Does P W N ⟨some d, .call ⟨.builtin .append, #[x, y], #[t, t2]⟩, ty, pos, after, guard⟩ L H (fun L1 H1 => ∃ v', L1 = (d, some v') :: L ∧ H1 = sl enc k v' (xs ++ [z0]) :: R) :=
  Does.append1 z0 hN hu hu2 hi hz hk hzs hb hx hy ha hc hcl ht hlen (by rw [← hc]; exact List.all_eq_true.1 hone)
theorem fresh_box {E T : TypeId} {x : Operand} {pos : String} {after : Array Edge} {d : Nat} {v : Value} {cs : List Value} (hx : ev L x = some v) (hc : v.cells = cs.toArray) :
    ∀ a, Env N L a → FreshAt P O ⟨some d, .box E x, T, pos, after, none⟩ a (fun b => .pointer (some ⟨b, 0, none⟩)) cs E := fun a ha => ⟨wanted_none rfl, fun w => by
  simp only [execOp, ha.eval hx]
  show (Instr.box E v >>= fun x => pure (Next.value x)).run P w = _
  simp [Instr.box, run_newVar, hc]⟩
/-! a slice's value stored: it is one cell, whatever it is -/
theorem Rd.one {enc : α → List Value} {k : Nat} {v : Value} {xs : List α} (h : Rd W H enc k v xs) : ∀ w, Sat W w (seps H) → v.oneCell' = true := fun w s => by
  obtain ⟨⟨a, cap, hv, _⟩, _⟩ := h w s
  rw [hv]; rfl
theorem Does.stS {E : TypeId} {x y : Operand} {pos : String} {after : Array Edge} {guard : Option (Nat × Bool)} {b i : Nat} {v : Value} {cs : List Value} {H' : List HProp} {enc : α → List Value} {k : Nat} {xs : List α} (hz : ∀ w, (sizeOf E).run P w = .ok 1 w) (hx : ev L x = some (.pointer (some ⟨b, i, none⟩))) (hy : ev L y = some v) [hv : ReadsC W H v enc k xs]
    [h0 : HasArr H b 0 cs] [hr : SetArr H b 0 cs (cs.set i v) H'] (hi : Nat.blt i cs.length = true) :
    Does P W N ⟨none, .store E x y, T, pos, after, guard⟩ L H (fun L1 H1 => L1 = L ∧ H1 = H') := fun a w ha hs Kp hK => Does.st hz hx hy (hv.rd.one w hs) hi a w ha hs Kp hK
theorem Does.stoS {E : TypeId} {x y : Operand} {pos : String} {after : Array Edge} {guard : Option (Nat × Bool)} {b o i : Nat} {v : Value} {cs : List Value} {H' : List HProp} {enc : α → List Value} {k : Nat} {xs : List α} (hz : ∀ w, (sizeOf E).run P w = .ok 1 w) (hx : ev L x = some (.pointer (some ⟨b, o + i, none⟩))) (hy : ev L y = some v) [hv : ReadsC W H v enc k xs]
    [h0 : HasArr H b o cs] [hr : SetArr H b o cs (cs.set i v) H'] (hi : Nat.blt i cs.length = true) :
    Does P W N ⟨none, .store E x y, T, pos, after, guard⟩ L H (fun L1 H1 => L1 = L ∧ H1 = H') := fun a w ha hs Kp hK => Does.sto hz hx hy (hv.rd.one w hs) hi a w ha hs Kp hK
theorem Does.stzS {E : TypeId} {x y : Operand} {pos : String} {after : Array Edge} {guard : Option (Nat × Bool)} {b o : Nat} {v : Value} {cs : List Value} {H' : List HProp} {enc : α → List Value} {k : Nat} {xs : List α} (hz : ∀ w, (sizeOf E).run P w = .ok 1 w) (hx : ev L x = some (.pointer (some ⟨b, o, none⟩))) (hy : ev L y = some v) [hv : ReadsC W H v enc k xs]
    [h0 : HasArr H b o cs] [hr : SetArr H b o cs (cs.set 0 v) H'] (hi : Nat.blt 0 cs.length = true) :
    Does P W N ⟨none, .store E x y, T, pos, after, guard⟩ L H (fun L1 H1 => L1 = L ∧ H1 = H') := fun a w ha hs Kp hK => Does.stz hz hx hy (hv.rd.one w hs) hi a w ha hs Kp hK
theorem GoK.know {O : Array Oper} {ks : List Nat} {ops : List Oper} {p : Prop} (h : ∀ w, Sat W w (seps H) → p) (k : p → GoK P W N K O Q ks ops L H) : GoK P W N K O Q ks ops L H := fun a w ha hs => k (h w hs) a w ha hs
/-- A whole element stored. -/
theorem Does.storeSlA {enc : α → List Value} {k : Nat} {E : TypeId} {x y : Operand} {pos : String} {after : Array Edge} {guard : Option (Nat × Bool)} {v : Value} {vs : List Value} {xs : List α} {i : Nat} {x0 x' : α} {H' : List HProp} (hx : ev L x = some (.pointer (some ⟨blk v, ofs v + i * k, none⟩))) (hy : ev L y = some (.agg vs.toArray)) (hz : ∀ w, (sizeOf E).run P w = .ok vs.length w) (hv : vs.all (·.oneCell') = true)
    (h0 : xs[i]? = some x0) (he : enc x' = vs) (hl : vs.length = k) (hr : Repl H (sl enc k v xs) (sl enc k v (xs.set i x')) H') :
    Does P W N ⟨none, .store E x y, T, pos, after, guard⟩ L H (fun L1 H1 => L1 = L ∧ H1 = H') := fun a w ha hs Kp hK => by
  obtain ⟨R, e1, e2⟩ := hr.seps
  rw [e1] at hs
  have hk0 : (enc x0).length = k := ((Rd.sl (W := W) (H := [sl enc k v xs, R]) .here) w (by simpa only [seps, sep_emp] using hs)).2.1 x0 (List.mem_of_getElem? h0)
  have hf := hs.focus h0
  have key := Does.storeAll (P := P) (W := W) (N := N) (L := L) (T := T) (pos := pos) (after := after) (guard := guard) (H := [arr (blk v) (ofs v + i * k) (enc x0), hole enc k v xs i, R]) hx hy hz (List.all_eq_true.1 hv) .here (by rw [hk0, hl])
  refine key a w ha (by simp only [seps, sep_emp] at hf ⊢; rwa [sep_assoc] at hf) Kp ?_
  rintro L1 H1 ⟨rfl, rfl⟩ a' w' ha' hs'
  refine hK _ _ ⟨rfl, rfl⟩ a' w' ha' ?_
  rw [e2]
  refine Sat.unfocus (x' := x') (List.getElem?_eq_some_iff.1 h0).1 (by rw [he, hl]) ?_
  simp only [seps, sep_emp] at hs' ⊢
  rwa [he, sep_assoc]
theorem Rd.nil {enc : α → List Value} {k : Nat} : Rd W H enc k (.slice none 0 0) ([] : List α) := fun w s => ⟨⟨none, 0, rfl, Nat.le_refl _, fun _ e _ => (by cases e), fun _ => rfl⟩, fun x hx => (by cases hx), fun i x hx => (by simp at hx)⟩
theorem Ent.emp0 {H R As : List HProp} (t : Ent H As R) : Ent H (emp :: As) R := .conv (A := seps []) (fun _ e => e) (.grp .nil t)
theorem Ent.two {H R R' As : List HProp} {A B : HProp} (t1 : Ent H [A, B] R) (t2 : Ent R As R') : Ent H (sep A B :: As) R' := .conv (A := seps [A, B]) (fun _ a => by simpa only [seps, sep_emp] using a) (.grp t1 t2)
theorem Ent.void {H R As : List HProp} {enc : α → List Value} {k : Nat} {a : Option Addr} (t : Ent H As R) : Ent H (sl enc k (.slice a 0 0) ([] : List α) :: As) R :=
  .conv (A := seps []) (fun _ e => .inl ⟨⟨_, rfl⟩, rfl, e⟩) (.grp .nil t)
end
end Go.SLYtkflpgknieoknaa
