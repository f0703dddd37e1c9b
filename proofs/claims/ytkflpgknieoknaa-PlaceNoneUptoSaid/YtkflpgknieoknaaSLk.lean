/- The rules of the walk for regions with fresh blocks. Conditions: none, this text proves no statement. -/
import Derived.Test.YtkflpgknieoknaaSLj
namespace Go.SLYtkflpgknieoknaa
open Go Go.RowKit

section
variable {P : Program} {O : Array Oper} {C : World → Prop} {Q : Exit → Act → World → Prop}

theorem loud_ex {o : Oper} {k : Nat} {X : Type} {S : X → Asn} {R : Asn → Prop} (h : ∀ x, ∃ (Y : Type) (S' : Y → Asn), (∀ y, Grows (S' y)) ∧
      (∀ E a w, S x E a w → (k = 2 → C w) ∧ if Region.wanted o (yielded O a.tmps) = true then o.wp P a w (fun a' w' => (k = 2 → C w') ∧ ∃ y, S' y E a' w') QF else ∃ y, S' y E (a.put o.dst undef) w) ∧ ∀ y, R (S' y)) :
    ∃ (Y : Type) (S' : Y → Asn), (∀ y, Grows (S' y)) ∧
      (∀ E a w, (∃ x, S x E a w) → (k = 2 → C w) ∧ if Region.wanted o (yielded O a.tmps) = true then o.wp P a w (fun a' w' => (k = 2 → C w') ∧ ∃ y, S' y E a' w') QF else ∃ y, S' y E (a.put o.dst undef) w) ∧ ∀ y, R (S' y) := by
  classical
  refine ⟨(x : X) × Classical.choose (h x), fun p => Classical.choose (Classical.choose_spec (h p.1)) p.2, fun p => (Classical.choose_spec (Classical.choose_spec (h p.1))).1 p.2, fun E a w ⟨x, hs⟩ => ?_,
    fun p => (Classical.choose_spec (Classical.choose_spec (h p.1))).2.2 p.2⟩
  obtain ⟨h1, h2⟩ := (Classical.choose_spec (Classical.choose_spec (h x))).2.1 E a w hs
  refine ⟨h1, ?_⟩
  split at h2
  · rename_i hw
    rw [if_pos hw]
    exact Oper.wp_mono (fun a w ⟨c, y, sy⟩ => ⟨c, ⟨x, y⟩, sy⟩) h2
  · rename_i hw
    rw [if_neg hw]
    obtain ⟨y, sy⟩ := h2
    exact ⟨⟨x, y⟩, sy⟩

theorem wpF_ex {ks : Nat → Nat} : ∀ (l : List Nat), (∀ i ∈ l, ks i ≠ 1) → ∀ {X : Type} [Nonempty X] {S : X → Asn}, (∀ x, wpF P O C Q ks l (S x)) → wpF P O C Q ks l (fun E a w => ∃ x, S x E a w)
  | [], _, X, _, S, h => fun a w ⟨x, hs⟩ => h x a w hs
  | i :: l, hk, X, hX, S, h => by
    have ih := fun {X : Type} [Nonempty X] {S : X → Asn} => wpF_ex l (fun j hj => hk j (List.mem_cons_of_mem _ hj)) (X := X) (S := S)
    have hi := hk i (List.mem_cons_self ..)
    cases ho : O[i]? with
    | none =>
      obtain ⟨x⟩ := hX
      have := h x
      simp only [wpF, ho] at this
    | some o =>
      simp only [wpF, ho] at h ⊢
      generalize ks i = k at *
      match k, hi with
      | 0, _ =>
        refine ⟨fun E a w ⟨x, hs⟩ => (h x).1 E a w hs, wpF_anti l ?_ (ih (fun x => (h x).2))⟩
        rintro E a w ⟨a0, v, e, ⟨x, hs⟩, hy⟩
        exact ⟨x, a0, v, e, hs, hy⟩
      | 4, _ =>
        refine ⟨fun E a w ⟨x, hs⟩ => (h x).1 E a w hs, wpF_anti l ?_ (ih (fun x => (h x).2))⟩
        rintro E a w ⟨a0, f, cs, T, b, hf, e, x, hs⟩
        exact ⟨x, a0, f, cs, T, b, hf, e, hs⟩
      | 1, hi => exact absurd rfl hi
      | 2, _ => exact loud_ex (k := 2) h
      | 3, _ => exact loud_ex (k := 3) h
      | n + 5, _ => exact loud_ex (k := n + 5) h

theorem FreshAt.unique {o : Oper} {a : Act} {f f' : Nat → Value} {cs cs' : List Value} {T T' : TypeId} (h : FreshAt P O o a f cs T) (h' : FreshAt P O o a f' cs' T') : (∀ b, f b = f' b) ∧ cs = cs' := by
  have key : ∀ w : World, f w.heap.size = f' w.heap.size ∧ cs = cs' := fun w => by
    have e := (h.2 w).symm.trans (h'.2 w)
    simp only [Result.ok.injEq, Next.value.injEq] at e
    refine ⟨e.1, ?_⟩
    have h1 := (MapKept.heap_alloc w (.cells cs.toArray T)).1
    have h2 := (MapKept.heap_alloc w (.cells cs'.toArray T')).1
    rw [e.2] at h1
    rw [h1] at h2
    simp only [Option.some.injEq, Obj.cells.injEq] at h2
    have := congrArg Array.toList h2.1
    simpa using this
  refine ⟨fun b => ?_, (key default).2⟩
  have := (key { (default : World) with heap := Array.replicate b (.cells #[] 0) }).1
  simpa using this
end

/-! ### The walk's own assertion -/
section
variable {P : Program} {W : World} {N : Nat} {Q : Exit → Act → World → Prop} {O : Array Oper} {L : List (Nat × Option Value)} {H K : List HProp}
def asn (W : World) (N : Nat) (L : List (Nat × Option Value)) (H : List HProp) : Asn := fun E a w => Env N L a ∧ Sat W w (sep (seps H) E)
theorem asn_grows : Grows (asn W N L H) := fun E a w cs T ⟨ha, hs⟩ => ⟨ha, (hs.alloc cs.toArray T).eq (by rw [sep_comm, sep_assoc])⟩
theorem kept_alloc : ∀ w (cs : List Value) T, Sat W w (seps K) → Sat W (w.alloc (.cells cs.toArray T)) (seps K) := fun w cs T h => (h.alloc cs.toArray T).right

def GoF (P : Program) (W : World) (N : Nat) (K : List HProp) (O : Array Oper) (Q : Exit → Act → World → Prop) (ks σ : List Nat) (L : List (Nat × Option Value)) (H : List HProp) : Prop :=
  wpF P O (fun w => Sat W w (seps K)) Q (fun i => ks.getD i 1) σ (asn W N L H)

theorem GoC.drawF {id : Nat} {l : List Oper} (K : List HProp) (ks σ : List Nat) (hm : P.follows .mixedOrders = true) (hB : regionF l ks σ = true) (h : GoF P W N K l.toArray Q ks σ L H) : GoC P W N Q (.region id l.toArray true) L H := fun a w ha hs =>
  wp_region_f ks σ hm hB (C := fun w => Sat W w (seps K)) kept_alloc asn_grows ⟨ha, by rw [sep_emp]; exact hs.drew⟩ h
theorem GoF.nil {ks : List Nat} (h : GoE W N Q .normal L H) : GoF P W N K O Q ks [] L H := fun a w ⟨ha, hs⟩ => h a w ha (by rwa [sep_emp] at hs)

theorem asn_app {E : HProp} {a : Act} {w : World} : asn W N L H E a w ↔ Env N L a ∧ Sat W w (seps (H ++ [E])) := by
  unfold asn
  rw [seps_append]
  simp only [seps, sep_emp]
theorem Takes.app {H R As : List HProp} (E : HProp) (t : Takes H As R) : Takes (H ++ [E]) As (R ++ [E]) := by
  have tk : ∀ {H R : List HProp} {A : HProp}, Take H A R → Take (H ++ [E]) A (R ++ [E]) := fun {H R A} t => by
    induction t with
    | here => exact .here
    | there _ ih => exact .there ih
  induction t with
  | nil => exact .nil
  | cons h _ ih => exact .cons (tk h) ih

theorem GoF.q {ks rest : List Nat} {i : Nat} {op : Op} {T : TypeId} {pos : String} {after : Array Edge} {d : Nat} {v : Value} (ho : O[i]? = some ⟨some d, op, T, pos, after, none⟩) (hk : ks.getD i 1 = 0) (hN : Nat.blt d N = true) (hK : ∀ w, Sat W w (seps H) → Sat W w (seps K))
    (hy : Yields P W N op T L K v) (h : GoF P W N K O Q ks rest ((d, some v) :: L) H) : GoF P W N K O Q ks (i :: rest) L H := by
  unfold GoF
  simp only [wpF, ho, hk]
  refine ⟨fun E a w ⟨ha, hs⟩ => ⟨hK w hs.left, v, .inl ⟨wanted_none rfl, fun w' hc => hy (some d) pos after none a w' ha hc⟩⟩, wpF_anti rest ?_ h⟩
  rintro E a w ⟨a0, v', rfl, ⟨ha, hs⟩, hy'⟩
  obtain rfl := hy'.unique (hK w hs.left) (.inl ⟨wanted_none rfl, fun w' hc => hy (some d) pos after none a0 w' ha hc⟩)
  exact ⟨ha.put (Nat.blt_eq.mp hN) _, hs⟩

theorem GoF.fresh {ks rest : List Nat} {i : Nat} {op : Op} {T E : TypeId} {pos : String} {after : Array Edge} {guard : Option (Nat × Bool)} {d : Nat} {f : Nat → Value} {cs : List Value} (ho : O[i]? = some ⟨some d, op, T, pos, after, guard⟩) (hk : ks.getD i 1 = 4) (hN : Nat.blt d N = true) (h1 : ∀ j ∈ rest, ks.getD j 1 ≠ 1)
    (hK : ∀ w, Sat W w (seps H) → Sat W w (seps K)) (hf : ∀ a, Env N L a → FreshAt P O ⟨some d, op, T, pos, after, guard⟩ a f cs E) (h : ∀ b, GoF P W N K O Q ks rest ((d, some (f b)) :: L) (arr b 0 cs :: H)) : GoF P W N K O Q ks (i :: rest) L H := by
  unfold GoF
  simp only [wpF, ho, hk]
  refine ⟨fun F a w ⟨ha, hs⟩ => ⟨hK w hs.left, f, cs, E, hf a ha⟩, wpF_anti rest ?_ (wpF_ex rest h1 h)⟩
  rintro F a w ⟨a0, f', cs', T', b, hf', rfl, ⟨ha, hs⟩⟩
  obtain ⟨e1, e2⟩ := hf'.unique (hf a0 ha)
  subst e2
  rw [e1]
  exact ⟨b, ha.put (Nat.blt_eq.mp hN) _, hs.eq (by simp only [seps]; rw [← sep_assoc, sep_comm _ (arr b 0 cs'), sep_assoc])⟩

theorem GoF.call {ks rest : List Nat} {i : Nat} {f : FuncId} {xs : Array Operand} {ts : Array TypeId} {T : TypeId} {pos : String} {after : Array Edge} {d : Nat} {args : List Value} {pre R : List HProp} {X : Type} {val : X → Value} {fact : X → Prop} {post : X → List HProp}
    (ho : O[i]? = some ⟨some d, .call ⟨.value (.func f), xs, ts⟩, T, pos, after, none⟩) (hk : ks.getD i 1 = 2) (hN : Nat.blt d N = true) (hK : ∀ w, Sat W w (seps H) → Sat W w (seps K))
    (hc : ∀ args w, (callFunc f args).run P w = .ok (.enter f args) w) (hx : evs L xs.toList = some args) (hfn : Fn P W f args pre X val fact post) (ht : Takes H pre R) (hK' : ∀ x, ∀ w, Sat W w (seps (post x ++ R)) → Sat W w (seps K))
    (h : ∀ x, fact x → GoF P W N K O Q ks rest ((d, some (val x)) :: L) (post x ++ R)) : GoF P W N K O Q ks (i :: rest) L H := by
  unfold GoF
  simp only [wpF, ho, hk]
  refine ⟨{ x : X // fact x }, fun x => asn W N ((d, some (val x.1)) :: L) (post x.1 ++ R), fun x => asn_grows, fun E a w hs => ⟨fun _ => hK w hs.2.left, ?_⟩, fun x => h x.1 x.2⟩
  rw [if_pos (wanted_none rfl)]
  obtain ⟨ha, hs⟩ := asn_app.1 hs
  refine Does.call (guard := none) hN hc hx hfn (ht.app E) a w ha hs _ ?_
  rintro L' H' ⟨x, hx, rfl, rfl⟩ a' w' ha' hs'
  rw [← List.append_assoc] at hs'
  have h2 : asn W N ((d, some (val x)) :: L) (post x ++ R) E a' w' := asn_app.2 ⟨ha', hs'⟩
  exact ⟨fun _ => hK' x w' h2.2.left, ⟨x, hx⟩, h2⟩

theorem Repl.app {H H' : List HProp} {A B : HProp} (E : HProp) (t : Repl H A B H') : Repl (H ++ [E]) A B (H' ++ [E]) := by
  induction t with
  | here => exact .here
  | there _ ih => exact .there ih

theorem GoF.does {ks rest : List Nat} {i : Nat} {o : Oper} {H' : List HProp} (ho : O[i]? = some o) (hg : o.guard = none) (hk : ks.getD i 1 = 3) (hd : ∀ E, Does P W N o L (H ++ [E]) (fun L1 H1 => L1 = L ∧ H1 = H' ++ [E])) (h : GoF P W N K O Q ks rest L H') : GoF P W N K O Q ks (i :: rest) L H := by
  unfold GoF
  simp only [wpF, ho, hk]
  refine ⟨Unit, fun _ => asn W N L H', fun _ => asn_grows, fun E a w hs => ⟨fun e => (by cases e), ?_⟩, fun _ => h⟩
  rw [if_pos (wanted_none hg)]
  obtain ⟨ha, hs⟩ := asn_app.1 hs
  refine hd E a w ha hs _ ?_
  rintro L' H1 ⟨rfl, rfl⟩ a' w' ha' hs'
  exact ⟨fun e => (by cases e), (), asn_app.2 ⟨ha', hs'⟩⟩
theorem GoF.sta {ks rest : List Nat} {i : Nat} {E T : TypeId} {x y : Operand} {pos : String} {after : Array Edge} {b o : Nat} {vs cs : List Value} {H' : List HProp} (ho : O[i]? = some ⟨none, .store E x y, T, pos, after, none⟩) (hk : ks.getD i 1 = 3)
    (hz : ∀ w, (sizeOf E).run P w = .ok vs.length w) (hx : ev L x = some (.pointer (some ⟨b, o, none⟩))) (hy : ev L y = some (.agg vs.toArray)) (hv : vs.all (·.oneCell') = true) [h0 : HasArr H b o cs] [hr : SetArr H b o cs vs H'] (hi : cs.length = vs.length)
    (h : GoF P W N K O Q ks rest L H') : GoF P W N K O Q ks (i :: rest) L H :=
  GoF.does ho rfl hk (fun E => Does.storeAll hx hy hz (List.all_eq_true.1 hv) (Repl.app E hr.repl) hi) h
theorem GoF.st {ks rest : List Nat} {i : Nat} {E T : TypeId} {x y : Operand} {pos : String} {after : Array Edge} {b k : Nat} {v : Value} {cs : List Value} {H' : List HProp} (ho : O[i]? = some ⟨none, .store E x y, T, pos, after, none⟩) (hk : ks.getD i 1 = 3)
    (hz : ∀ w, (sizeOf E).run P w = .ok 1 w) (hx : ev L x = some (.pointer (some ⟨b, k, none⟩))) (hy : ev L y = some v) (hv : v.oneCell' = true) [h0 : HasArr H b 0 cs] [hr : SetArr H b 0 cs (cs.set k v) H'] (hi : Nat.blt k cs.length = true)
    (h : GoF P W N K O Q ks rest L H') : GoF P W N K O Q ks (i :: rest) L H :=
  GoF.does ho rfl hk (fun E => Does.store0 hx hy hz hv (Repl.app E hr.repl) (Nat.blt_eq.mp hi)) h

theorem fresh_alloc {E T : TypeId} {pos : String} {after : Array Edge} {d : Nat} {z : Value} {cs : List Value} (hz : ∀ w, (zeroValue E).run P w = .ok z w) (hc : z.cells = cs.toArray) :
    ∀ a, Env N L a → FreshAt P O ⟨some d, .alloc E, T, pos, after, none⟩ a (fun b => .pointer (some ⟨b, 0, none⟩)) cs E := fun a _ => ⟨wanted_none rfl, fun w => by
  simp only [execOp]
  show (Instr.alloc E true (.tuple #[]) >>= fun x => pure (Next.value x)).run P w = _
  simp [Instr.alloc, hz, run_newVar, hc]⟩
end
end Go.SLYtkflpgknieoknaa
