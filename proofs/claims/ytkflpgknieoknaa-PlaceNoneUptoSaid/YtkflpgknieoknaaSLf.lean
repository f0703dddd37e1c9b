/- Slices: those that a call owns, and those that it only reads. Conditions: none, this text proves no statement. -/
import Derived.Test.YtkflpgknieoknaaSLe
namespace Go.SLYtkflpgknieoknaa
open Go Go.RowKit

section
variable {P : Program} {W : World} {N : Nat} {Q : Exit → Act → World → Prop} {L : List (Nat × Option Value)} {H K : List HProp} {O : Array Oper} {T : TypeId} {α : Type}

def rows (enc : α → List Value) (xs : List α) : List Value := xs.flatMap enc
def blk : Value → Nat
  | .slice (some a) _ _ => a.block
  | _ => 0
def ofs : Value → Nat
  | .slice (some a) _ _ => a.off
  | _ => 0

theorem rows_length {enc : α → List Value} {k : Nat} {xs : List α} (h : ∀ x ∈ xs, (enc x).length = k) : (rows enc xs).length = xs.length * k := by
  induction xs with
  | nil => simp [rows]
  | cons x xs ih =>
    have := ih fun y hy => h y (List.mem_cons_of_mem _ hy)
    simp only [rows, List.flatMap_cons, List.length_append, List.length_cons] at this ⊢
    rw [this, h x (List.mem_cons_self ..), Nat.succ_mul]; omega

theorem rows_append (enc : α → List Value) (xs ys : List α) : rows enc (xs ++ ys) = rows enc xs ++ rows enc ys := by simp [rows]
theorem rows_cons (enc : α → List Value) (x : α) (xs : List α) : rows enc (x :: xs) = enc x ++ rows enc xs := by simp [rows]
theorem rows_one (enc : α → List Value) (x : α) : rows enc [x] = enc x := by simp [rows]

theorem rows_get {enc : α → List Value} {k : Nat} {xs : List α} (h : ∀ x ∈ xs, (enc x).length = k) {i : Nat} {x : α} (hx : xs[i]? = some x) {c : Nat} (hc : c < k) : (rows enc xs)[i * k + c]? = (enc x)[c]? := by
  induction xs generalizing i with
  | nil => simp at hx
  | cons y ys ih =>
    have hy := h y (List.mem_cons_self ..)
    rw [rows_cons]
    cases i with
    | zero =>
      simp at hx; subst hx
      rw [Nat.zero_mul, Nat.zero_add, List.getElem?_append_left (by omega)]
    | succ i =>
      rw [List.getElem?_append_right (by rw [hy, Nat.succ_mul]; omega), hy]
      rw [show (i + 1) * k + c - k = i * k + c from by rw [Nat.succ_mul]; omega]
      exact ih (fun z hz => h z (List.mem_cons_of_mem _ hz)) (by simpa using hx)

theorem split_at {xs : List α} {i : Nat} {x : α} (hx : xs[i]? = some x) : xs = xs.take i ++ x :: xs.drop (i + 1) := by
  have hi := (List.getElem?_eq_some_iff.1 hx).1
  have he := (List.getElem?_eq_some_iff.1 hx).2
  conv => lhs; rw [← List.take_append_drop i xs]
  rw [List.drop_eq_getElem_cons hi, he]

theorem set_at {xs : List α} {i : Nat} {x y : α} (hx : xs[i]? = some x) : xs.set i y = xs.take i ++ y :: xs.drop (i + 1) := by
  have hi := (List.getElem?_eq_some_iff.1 hx).1
  rw [List.set_eq_take_append_cons_drop, if_pos hi]

/-! ### Owned -/

def sl (enc : α → List Value) (k : Nat) (v : Value) (xs : List α) : HProp := fun h =>
  ((∃ a, v = .slice a 0 0) ∧ xs = [] ∧ emp h) ∨
    ∃ b cap sp, v = .slice (some ⟨b, 0, none⟩) xs.length cap ∧ xs.length ≤ cap ∧ (∀ x ∈ xs, (enc x).length = k) ∧ sp.length = (cap - xs.length) * k ∧ arr b 0 (rows enc xs ++ sp) h

theorem sl_nil (enc : α → List Value) (k : Nat) : sl enc k (.slice none 0 0) ([] : List α) = emp := by
  funext h
  apply propext
  constructor
  · rintro (⟨_, _, e⟩ | ⟨b, cap, sp, e, _⟩)
    · exact e
    · cases e
  · intro e; exact .inl ⟨⟨_, rfl⟩, rfl, e⟩
/-- A slice without room: it bears nothing, wherever it points. -/
theorem Sat.sl_void {W w : World} {enc : α → List Value} {k : Nat} {a : Option Addr} {R : HProp} (s : Sat W w R) : Sat W w (sep (sl enc k (.slice a 0 0) ([] : List α)) R) := by
  have h : Sat W w (sep emp R) := by rw [emp_sep]; exact s
  exact h.mono (sep_mono (fun _ e => .inl ⟨⟨_, rfl⟩, rfl, e⟩) fun _ r => r)

theorem Sat.mk_sl {W w : World} {enc : α → List Value} {k b cap : Nat} {xs : List α} {sp : List Value} {R : HProp} (hle : xs.length ≤ cap) (hk : ∀ x ∈ xs, (enc x).length = k) (hsp : sp.length = (cap - xs.length) * k)
    (s : Sat W w (sep (arr b 0 (rows enc xs ++ sp)) R)) : Sat W w (sep (sl enc k (.slice (some ⟨b, 0, none⟩) xs.length cap) xs) R) :=
  s.mono (sep_mono (fun h a => .inr ⟨b, cap, sp, rfl, hle, hk, hsp, a⟩) fun _ r => r)

theorem Sat.of_sl {W w : World} {enc : α → List Value} {k : Nat} {v : Value} {xs : List α} {R : HProp} (s : Sat W w (sep (sl enc k v xs) R)) :
    ((∃ a, v = .slice a 0 0) ∧ xs = [] ∧ Sat W w R) ∨ ∃ b cap sp, v = .slice (some ⟨b, 0, none⟩) xs.length cap ∧ xs.length ≤ cap ∧ (∀ x ∈ xs, (enc x).length = k) ∧ sp.length = (cap - xs.length) * k ∧ Sat W w (sep (arr b 0 (rows enc xs ++ sp)) R) := by
  obtain ⟨h, ⟨h1, h2, a, r, d, e⟩, hin⟩ := s.own
  rcases a with ⟨hv, hx, _⟩ | ⟨b, cap, sp, hv, hle, hk, hsp, a⟩
  · exact .inl ⟨hv, hx, s.right⟩
  · exact .inr ⟨b, cap, sp, hv, hle, hk, hsp, { s with own := ⟨h, ⟨h1, h2, a, r, d, e⟩, hin⟩ }⟩

/-! ### Read -/

/-- In this world the value reads as these things. -/
def RdAt (w : World) (enc : α → List Value) (k : Nat) (v : Value) (xs : List α) : Prop :=
  (∃ a cap, v = .slice a xs.length cap ∧ xs.length ≤ cap ∧ (∀ b, a = some b → xs ≠ [] → b.spot = none) ∧ (a = none → xs = [])) ∧ (∀ x ∈ xs, (enc x).length = k) ∧
    ∀ i x, xs[i]? = some x → ∀ c u, (enc x)[c]? = some u → w.cell? ⟨blk v, ofs v + i * k + c, none⟩ = some u
def Rd (W : World) (H : List HProp) (enc : α → List Value) (k : Nat) (v : Value) (xs : List α) : Prop := ∀ w, Sat W w (seps H) → RdAt w enc k v xs

theorem Rd.sl {enc : α → List Value} {k : Nat} {v : Value} {xs : List α} (h : At H (SLYtkflpgknieoknaa.sl enc k v xs)) : Rd W H enc k v xs := fun w s => by
  obtain ⟨R, s⟩ := h.sat s
  rcases s.of_sl with ⟨⟨a, rfl⟩, rfl, _⟩ | ⟨b, cap, sp, rfl, hle, hk, hsp, s⟩
  · exact ⟨⟨a, 0, rfl, Nat.le_refl _, fun _ _ h => absurd rfl h, fun _ => rfl⟩, fun x hx => by (cases hx), fun i x hx => by simp at hx⟩
  · refine ⟨⟨_, cap, rfl, hle, fun _ e _ => by cases e; rfl, fun e => by cases e⟩, hk, fun i x hx c u hu => ?_⟩
    have hi := (List.getElem?_eq_some_iff.1 hx).1
    have hx' := hk x (List.mem_of_getElem? hx)
    have hc := (List.getElem?_eq_some_iff.1 hu).1
    have := (arr_cell s (i := i * k + c) (v := u) (by
      have hlt : i * k + c < (rows enc xs).length := by
        rw [rows_length hk]
        have : (i + 1) * k ≤ xs.length * k := Nat.mul_le_mul_right k hi
        rw [Nat.succ_mul] at this; omega
      rw [List.getElem?_append_left hlt, rows_get hk hx (by omega)]
      exact hu)).2
    rw [show 0 + (i * k + c) = ofs (Value.slice (some ⟨b, 0, none⟩) xs.length cap) + i * k + c from by simp [ofs]] at this
    exact this

theorem Rd.old {enc : α → List Value} {k : Nat} {v : Value} {xs : List α} (h : RdAt W enc k v xs) : Rd W H enc k v xs := fun w s =>
  ⟨h.1, h.2.1, fun i x hx c u hu => Cell.old (h.2.2 i x hx c u hu) w s⟩

theorem Cell.rd {enc : α → List Value} {k : Nat} {v : Value} {xs : List α} (h : Rd W H enc k v xs) {i : Nat} {x : α} (hx : xs[i]? = some x) {c : Nat} {u : Value} (hu : (enc x)[c]? = some u) : Cell W H (blk v) (ofs v + i * k + c) u := fun w s => (h w s).2.2 i x hx c u hu
theorem Cell.rd0 {enc : α → List Value} {k : Nat} {v : Value} {xs : List α} (h : Rd W H enc k v xs) {i : Nat} {x : α} (hx : xs[i]? = some x) {u : Value} (hu : (enc x)[0]? = some u) : Cell W H (blk v) (ofs v + i * k) u := Cell.rd (c := 0) h hx hu
theorem Cells.rd {enc : α → List Value} {k : Nat} {v : Value} {xs : List α} (h : Rd W H enc k v xs) {i : Nat} {x : α} (hx : xs[i]? = some x) : Cells W H (blk v) (ofs v + i * k) (enc x) := fun c u hu => Cell.rd h hx hu

theorem Y.ofW {op : Op} {v : Value} (h : ∀ w, Sat W w (seps H) → ∃ p : Prop, p ∧ (p → Yields P W N op T L H v)) : Yields P W N op T L H v := fun dst pos after guard a w ha hs => by
  obtain ⟨p, hp, hy⟩ := h w hs
  exact hy hp dst pos after guard a w ha hs
theorem Y.know {op : Op} {v : Value} {p : Prop} (h : ∀ w, Sat W w (seps H) → p) (hy : p → Yields P W N op T L H v) : Yields P W N op T L H v := fun dst pos after guard a w ha hs => hy (h w hs) dst pos after guard a w ha hs

theorem Y.lenRd {enc : α → List Value} {k : Nat} {x : Operand} {t e : TypeId} {v : Value} {xs : List α} (hu : P.underlying t = some (.slice e)) (hx : ev L x = some v) (h : Rd W H enc k v xs) : Yields P W N (.call ⟨.builtin .len, #[x], #[t]⟩) T L H (.int .i64 (xs.length : Int)) :=
  Y.know (fun w s => (h w s).1) fun ⟨a, cap, hv, _⟩ => Y.lenSlice hu (hx.trans (by rw [hv]))

theorem Y.ixRd {enc : α → List Value} {k : Nat} {x y : Operand} {t e : TypeId} {v : Value} {xs : List α} {kd : IntKind} {j : Int} (i : Nat) (hu : P.underlying t = some (.slice e)) (hz : ∀ w, (sizeOf e).run P w = .ok k w) (hx : ev L x = some v) (hy : ev L y = some (.int kd j)) (h : Rd W H enc k v xs) (hj : j = (i : Int)) (hi : i < xs.length) :
    Yields P W N (.indexAddr t x y) T L H (.pointer (some ⟨blk v, ofs v + i * k, none⟩)) := fun dst pos after guard a w ha hs => by
  obtain ⟨⟨ad, cap, hv, hle, hsp, hnn⟩, _, _⟩ := h w hs
  subst hj
  cases ad with
  | none => rw [hnn rfl] at hi; simp at hi
  | some p =>
    have hp := hsp p rfl (by intro e; subst e; simp at hi)
    simp only [execOp, ha.eval hx, ha.eval hy]
    refine value_run ?_
    subst hv
    cases p with
    | mk b o s =>
      simp only at hp
      subst hp
      simp [Instr.indexAt, asIntOf, run_underlying hu, hi, hz, addr_add, blk, ofs]

/-- An array's element. -/
theorem Y.ixArr {x y : Operand} {t e n k b o : Nat} {kd : IntKind} {j : Int} (i : Nat) (hu : P.underlying t = some (.array n e)) (hz : ∀ w, (sizeOf e).run P w = .ok k w) (hx : ev L x = some (.pointer (some ⟨b, o, none⟩))) (hy : ev L y = some (.int kd j)) (hj : j = (i : Int)) (hi : i < n) :
    Yields P W N (.indexAddr t x y) T L H (.pointer (some ⟨b, o + i * k, none⟩)) := fun dst pos after guard a w ha hs => by
  subst hj
  simp only [execOp, ha.eval hx, ha.eval hy]
  refine value_run ?_
  simp [Instr.indexAt, asIntOf, run_underlying hu, hi, hz, addr_add, Instr.sureAddr]

/-! ### Written -/

theorem set_rows {enc : α → List Value} {k : Nat} {xs : List α} {sp : List Value} (h : ∀ x ∈ xs, (enc x).length = k) {i c : Nat} {x x' : α} (hx : xs[i]? = some x) (hc : c < k) {u : Value} (he : enc x' = (enc x).set c u) :
    (rows enc xs ++ sp).set (i * k + c) u = rows enc (xs.set i x') ++ sp := by
  have hi := (List.getElem?_eq_some_iff.1 hx).1
  rw [set_at hx]
  conv => lhs; rw [split_at hx]
  rw [rows_append, rows_cons, rows_append, rows_cons, he]
  have hl : (rows enc (xs.take i)).length = i * k := by
    rw [rows_length fun y hy => h y (List.mem_of_mem_take hy), List.length_take, Nat.min_eq_left (Nat.le_of_lt hi)]
  have hxk := h x (List.mem_of_getElem? hx)
  rw [List.append_assoc, List.append_assoc, List.set_append_right _ _ (by omega), hl, Nat.add_sub_cancel_left, List.append_assoc, List.set_append_left _ _ (by omega)]
  simp

theorem Does.storeSl {enc : α → List Value} {k : Nat} {E : TypeId} {x y : Operand} {pos : String} {after : Array Edge} {guard : Option (Nat × Bool)} {v u : Value} {xs : List α} {i c : Nat} {x0 x' : α} {H' : List HProp} (hx : ev L x = some (.pointer (some ⟨blk v, ofs v + i * k + c, none⟩))) (hy : ev L y = some u) (hz : ∀ w, (sizeOf E).run P w = .ok 1 w) (hu : u.oneCell' = true)
    (h0 : xs[i]? = some x0) (hc : c < k) (he : enc x' = (enc x0).set c u) (hr : Repl H (sl enc k v xs) (sl enc k v (xs.set i x')) H') :
    Does P W N ⟨none, .store E x y, T, pos, after, guard⟩ L H (fun L1 H1 => L1 = L ∧ H1 = H') := fun a w ha hs Kp hK => by
  obtain ⟨R, e1, e2⟩ := hr.seps
  rw [e1] at hs
  have hi := (List.getElem?_eq_some_iff.1 h0).1
  rcases hs.of_sl with ⟨_, rfl, _⟩ | ⟨b, cap, sp, rfl, hle, hk, hsp, hs⟩
  · simp at h0
  · have hlt : i * k + c < (rows enc xs ++ sp).length := by
      rw [List.length_append, rows_length hk]
      have : (i + 1) * k ≤ xs.length * k := Nat.mul_le_mul_right k hi
      rw [Nat.succ_mul] at this; omega
    have ho : ofs (Value.slice (some ⟨b, 0, none⟩) xs.length cap) + i * k + c = 0 + (i * k + c) := by simp [ofs]
    rw [ho] at hx
    have key := Does.store (P := P) (W := W) (N := N) (T := T) (pos := pos) (after := after) (guard := guard) (H := [arr b 0 (rows enc xs ++ sp), R]) hx hy hz hu .here hlt
    refine key a w ha (by simp only [seps, sep_emp]; exact hs) Kp fun L1 H1 ⟨h1, h2⟩ a' w' ha' hs' => hK L1 H' ⟨h1, rfl⟩ a' w' ha' ?_
    subst h2
    simp only [seps, sep_emp] at hs'
    rw [set_rows hk h0 hc he] at hs'
    rw [e2]
    have hk' : ∀ y ∈ xs.set i x', (enc y).length = k := fun y hy => by
      rcases List.mem_or_eq_of_mem_set hy with h | h
      · exact hk y h
      · subst h; rw [he, List.length_set]; exact hk x0 (List.mem_of_getElem? h0)
    have := Sat.mk_sl (b := b) (xs := xs.set i x') (cap := cap) (by simpa using hle) hk' (by simpa using hsp) hs'
    simpa using this
theorem Does.storeSl0 {enc : α → List Value} {k : Nat} {E : TypeId} {x y : Operand} {pos : String} {after : Array Edge} {guard : Option (Nat × Bool)} {v u : Value} {xs : List α} {i : Nat} {x0 x' : α} {H' : List HProp} (hx : ev L x = some (.pointer (some ⟨blk v, ofs v + i * k, none⟩))) (hy : ev L y = some u) (hz : ∀ w, (sizeOf E).run P w = .ok 1 w) (hu : u.oneCell' = true)
    (h0 : xs[i]? = some x0) (hc : 0 < k) (he : enc x' = (enc x0).set 0 u) (hr : Repl H (sl enc k v xs) (sl enc k v (xs.set i x')) H') :
    Does P W N ⟨none, .store E x y, T, pos, after, guard⟩ L H (fun L1 H1 => L1 = L ∧ H1 = H') :=
  Does.storeSl (c := 0) hx hy hz hu h0 hc he hr

/-- One element, apart from the others. -/
def hole (enc : α → List Value) (k : Nat) (v : Value) (xs : List α) (i : Nat) : HProp := fun h =>
  ∃ b cap sp, v = .slice (some ⟨b, 0, none⟩) xs.length cap ∧ xs.length ≤ cap ∧ (∀ x ∈ xs, (enc x).length = k) ∧ sp.length = (cap - xs.length) * k ∧
    sep (arr b 0 (rows enc (xs.take i))) (arr b ((i + 1) * k) (rows enc (xs.drop (i + 1)) ++ sp)) h

theorem Sat.focus {W w : World} {enc : α → List Value} {k : Nat} {v : Value} {xs : List α} {R : HProp} {i : Nat} {x : α} (hx : xs[i]? = some x) (s : Sat W w (sep (sl enc k v xs) R)) :
    Sat W w (sep (seps [arr (blk v) (ofs v + i * k) (enc x), hole enc k v xs i]) R) := by
  have hi := (List.getElem?_eq_some_iff.1 hx).1
  rcases s.of_sl with ⟨_, rfl, _⟩ | ⟨b, cap, sp, rfl, hle, hk, hsp, s⟩
  · simp at hx
  · have hl : (rows enc (xs.take i)).length = i * k := by
      rw [rows_length fun y hy => hk y (List.mem_of_mem_take hy), List.length_take, Nat.min_eq_left (Nat.le_of_lt hi)]
    have hxk := hk x (List.mem_of_getElem? hx)
    have e : rows enc xs ++ sp = rows enc (xs.take i) ++ (enc x ++ (rows enc (xs.drop (i + 1)) ++ sp)) := by
      conv => lhs; rw [split_at hx]
      rw [rows_append, rows_cons]; simp
    rw [e, arr_append, arr_append, hl, hxk] at s
    simp only [seps, sep_emp]
    rw [sep_assoc, sep_left_comm, sep_assoc] at s
    rw [sep_assoc]
    simp only [blk, ofs]
    refine s.mono (sep_mono (fun _ h => h) ?_)
    rw [sep_left_comm, ← sep_assoc]
    exact sep_mono (fun h hh => ⟨b, cap, sp, rfl, hle, hk, hsp, by rw [show (i + 1) * k = 0 + i * k + k from by rw [Nat.succ_mul]; omega]; exact hh⟩) fun _ h => h

theorem Sat.unfocus {W w : World} {enc : α → List Value} {k : Nat} {v : Value} {xs : List α} {R : HProp} {i : Nat} {x' : α} (hi : i < xs.length) (hx' : (enc x').length = k) (s : Sat W w (sep (seps [arr (blk v) (ofs v + i * k) (enc x'), hole enc k v xs i]) R)) :
    Sat W w (sep (sl enc k v (xs.set i x')) R) := by
  obtain ⟨x, hx⟩ : ∃ x, xs[i]? = some x := ⟨xs[i], by simp [hi]⟩
  simp only [seps, sep_emp] at s
  obtain ⟨h, ⟨h1, h2, ⟨h3, h4, a3, ⟨b, cap, sp, hv, hle, hk, hsp, a4⟩, d', e'⟩, r, d, e⟩, hin⟩ := s.own
  subst hv
  have s' : Sat W w (sep (sep (arr b (0 + i * k) (enc x')) (sep (arr b 0 (rows enc (xs.take i))) (arr b ((i + 1) * k) (rows enc (xs.drop (i + 1)) ++ sp)))) R) :=
    { s with own := ⟨h, ⟨h1, h2, ⟨h3, h4, a3, a4, d', e'⟩, r, d, e⟩, hin⟩ }
  have hl : (rows enc (xs.take i)).length = i * k := by
    rw [rows_length fun y hy => hk y (List.mem_of_mem_take hy), List.length_take, Nat.min_eq_left (Nat.le_of_lt hi)]
  have e2 : rows enc (xs.set i x') ++ sp = rows enc (xs.take i) ++ (enc x' ++ (rows enc (xs.drop (i + 1)) ++ sp)) := by
    rw [set_at hx, rows_append, rows_cons]; simp
  have hk' : ∀ y ∈ xs.set i x', (enc y).length = k := fun y hy => by
    rcases List.mem_or_eq_of_mem_set hy with h | h
    · exact hk y h
    · subst h; exact hx'
  have s2 : Sat W w (sep (arr b 0 (rows enc (xs.set i x') ++ sp)) R) := by
    rw [e2, arr_append, arr_append, hl, hx']
    refine s'.eq ?_
    rw [sep_left_comm (arr b (0 + i * k) (enc x')), show (i + 1) * k = 0 + i * k + k from by rw [Nat.succ_mul]; omega]
  have := Sat.mk_sl (xs := xs.set i x') (cap := cap) (by simpa using hle) hk' (by simpa using hsp) s2
  simpa using this

/-! ### Appends -/

theorem growBy_le (need : Nat) : ∀ (r c : Nat), Builtin.growBy need r c ≤ (c + 768) * 2 ^ r := by
  intro r
  induction r with
  | zero => intro c; simp [Builtin.growBy]
  | succ r ih =>
    intro c
    unfold Builtin.growBy
    split
    · have h1 : 1 ≤ 2 ^ (r + 1) := Nat.one_le_two_pow
      have h2 := Nat.mul_le_mul_left (c + 768) h1
      omega
    · refine Nat.le_trans (ih _) ?_
      rw [Nat.pow_succ, Nat.mul_comm (2 ^ r) 2, ← Nat.mul_assoc]
      exact Nat.mul_le_mul_right _ (by omega)

theorem nextcap_le {need old : Nat} (h : old < need) : Builtin.nextslicecap need old ≤ (need + 768) * 16 := by
  unfold Builtin.nextslicecap
  split
  · omega
  · split
    · omega
    · have h1 := growBy_le need 4 old
      have h2 : (old + 768) * 2 ^ 4 ≤ (need + 768) * 16 := Nat.mul_le_mul (by omega) (by decide)
      exact Nat.le_trans h1 h2

theorem run_loadCells' {b o : Nat} {cs : List Value} {w : World} {n : Nat} (hn : n = cs.length) (hc : ∀ i v, cs[i]? = some v → w.cell? ⟨b, o + i, none⟩ = some v) : (loadCells ⟨b, o, none⟩ n).run P w = .ok cs.toArray w := by
  subst hn
  exact run_loadCells_list (P := P) (w := w) ⟨b, o, none⟩ cs fun j v hv => by rw [addr_add]; exact hc j v hv

theorem RdAt.firstCells {w : World} {enc : α → List Value} {k : Nat} {v : Value} {xs : List α} (h : RdAt w enc k v xs) : (Builtin.firstCells k xs.length v).run P w = .ok (rows enc xs).toArray w := by
  obtain ⟨⟨a, cap, rfl, hle, hsp, hnn⟩, hk, hc⟩ := h
  cases a with
  | none => rw [hnn rfl]; simp [Builtin.firstCells, rows]
  | some p =>
    cases p with
    | mk b o s =>
      by_cases hxs : xs = []
      · subst hxs; simp [Builtin.firstCells, rows, loadCells, loadCellsFrom]
      obtain rfl : s = none := hsp _ rfl hxs
      simp only [Builtin.firstCells]
      refine run_loadCells' (rows_length hk).symm fun i u hu => ?_
      have hi := (List.getElem?_eq_some_iff.1 hu).1
      rw [rows_length hk] at hi
      have hk0 : 0 < k := by
        rcases Nat.eq_zero_or_pos k with h | h
        · subst h; simp at hi
        · exact h
      have hq : i / k < xs.length := Nat.div_lt_of_lt_mul (by rw [Nat.mul_comm]; exact hi)
      have hx : xs[i / k]? = some xs[i / k] := by simp [hq]
      have hm := Nat.mod_lt i hk0
      have e : i / k * k + i % k = i := by rw [Nat.mul_comm]; exact Nat.div_add_mod i k
      have h1 := rows_get hk hx hm
      rw [e] at h1
      have := hc _ _ hx (i % k) u (by rw [← h1]; exact hu)
      rw [show ofs (Value.slice (some ⟨b, o, none⟩) xs.length cap) + i / k * k + i % k = o + i from by simp [ofs]; omega] at this
      exact this

theorem setFrom_mid {pre sp vs : List Value} (h : vs.length ≤ sp.length) : setFrom (pre ++ sp) pre.length vs = pre ++ vs ++ sp.drop vs.length := by
  induction vs generalizing pre sp with
  | nil => simp [setFrom]
  | cons v vs ih =>
    cases sp with
    | nil => simp at h
    | cons c sp =>
      have := ih (pre := pre ++ [v]) (sp := sp) (by simpa using h)
      simp at this
      simp [setFrom, this]

theorem size_zeroC (z : Array Value) (n : Nat) : (Builtin.zeroCells z n).size = n * z.size := by simp [Builtin.zeroCells]

/-- append(s, y...): the elements of y come behind those of s. -/
theorem run_append {enc : α → List Value} {k : Nat} {t t2 e e2 ty : TypeId} {v u : Value} {xs ys : List α} {R : HProp} {i : TypeInfo} {z : Value} {w : World}
    (hu : P.underlying t = some (.slice e)) (hu2 : P.underlying t2 = some (.slice e2)) (hi : ∀ w, (typeInfo e).run P w = .ok i w) (hz : i.zero = some z) (hk : i.size = k) (hzs : z.cells.size = k) (hb : 1 ≤ i.bytes ∧ i.bytes ≤ 4096)
    (hs : Sat W w (sep (sl enc k v xs) R)) (hrd : RdAt w enc k u ys) (hlen : xs.length + ys.length ≤ 1073741824) (hone : ∀ y ∈ ys, ∀ c ∈ enc y, c.oneCell' = true) :
    ∃ v' w', (Builtin.append_ #[t, t2] ty #[v, u]).run P w = .ok v' w' ∧ Sat W w' (sep (sl enc k v' (xs ++ ys)) R) := by
  have hysk := hrd.2.1
  have hrd0 := hrd
  have hxrd : RdAt w enc k v xs := Rd.sl (W := W) (H := [sl enc k v xs, R]) .here w (by simp only [seps, sep_emp]; exact hs)
  have hz0 : ∀ w, (zeroValue e).run P w = .ok z w := fun w => by simp [zeroValue, hi, hz]
  have hsz : ∀ w, (sizeOf e).run P w = .ok k w := fun w => by simp [sizeOf, hi, hk]
  have hfu : (Builtin.firstCells k ys.length u).run P w = .ok (rows enc ys).toArray w := hrd.firstCells
  obtain ⟨⟨ua, ucap, hue, _⟩, _⟩ := hrd
  have hul : ∀ w', (Builtin.lenOf u).run P w' = .ok ys.length w' := fun w' => by rw [hue]; simp [Builtin.lenOf]
  have hkk : ∀ z ∈ xs ++ ys, (enc z).length = k := fun z hz => by
    rcases List.mem_append.1 hz with h | h
    · exact hxrd.2.1 z h
    · exact hysk z h
  have hfv : (Builtin.firstCells k xs.length v).run P w = .ok (rows enc xs).toArray w := hxrd.firstCells
  obtain ⟨⟨va, vcap, hve, hvle, hvsp, hvnn⟩, hxk, _⟩ := hxrd
  by_cases hcap : xs.length + ys.length ≤ vcap
  · -- there is room
    rcases hs.of_sl with ⟨⟨va', hv0⟩, hx0, hs0⟩ | ⟨b, cap, sp, hv1, hle, hk', hsp, hs1⟩
    · subst hx0
      rw [hv0] at hve
      cases hve
      obtain rfl : ys = [] := List.eq_nil_of_length_eq_zero (by simpa using hcap)
      refine ⟨v, w, ?_, ?_⟩
      · rw [hv0]
        simp only [List.length_nil] at hul
        simp [Builtin.append_, run_underlying hu, run_underlying hu2, hsz, hul, rows] at hfu ⊢
        simp [hfu]
        cases va <;> simp [storeCells]
      · exact hs
    · rw [hv1] at hve
      cases hve
      have hsplen : ys.length * k ≤ sp.length := by
        rw [hsp]
        exact Nat.mul_le_mul_right _ (by omega)
      have hl : (rows enc ys).length = ys.length * k := rows_length hysk
      have hlx : (rows enc xs).length = xs.length * k := rows_length hxk
      have hone' : ∀ c ∈ rows enc ys, c.oneCell' = true := fun c hc => by
        obtain ⟨y, hy, hc⟩ := List.mem_flatMap.1 hc
        exact hone y hy c hc
      obtain ⟨w', h1, h2⟩ := run_storeCells (P := P) (rows enc ys) (rows enc xs ++ sp) (xs.length * k) 0 w hs1 hone' (by rw [List.length_append]; omega)
      refine ⟨.slice (some ⟨b, 0, none⟩) (xs.length + ys.length) vcap, w', ?_, ?_⟩
      · rw [hv1]
        simp only [Nat.zero_add] at h1
        simp [Builtin.append_, run_underlying hu, run_underlying hu2, hsz, hul, hfu, hcap, addr_add, h1]
      · have e3 : setFrom (rows enc xs ++ sp) (xs.length * k + 0) (rows enc ys) = rows enc (xs ++ ys) ++ sp.drop (ys.length * k) := by
          rw [Nat.add_zero, ← hlx, setFrom_mid (by omega), rows_append, hl]
        rw [e3] at h2
        have := Sat.mk_sl (b := b) (cap := vcap) (xs := xs ++ ys) (by simpa using hcap) hkk (by
          rw [List.length_drop, hsp, List.length_append, ← Nat.sub_mul]
          congr 1; omega) h2
        simpa using this
  · -- a new block
    have hnc := nextcap_le (need := xs.length + ys.length) (old := vcap) (by omega)
    have hbig : ¬ (Builtin.nextslicecap (xs.length + ys.length) vcap * i.bytes > 2 ^ 48) := by
      have h1 : Builtin.nextslicecap (xs.length + ys.length) vcap * i.bytes ≤ (1073741824 + 768) * 16 * 4096 :=
        Nat.mul_le_mul (Nat.le_trans hnc (Nat.mul_le_mul_right _ (by omega))) hb.2
      have h2 : (2 : Nat) ^ 48 = 281474976710656 := by decide
      rw [h2]
      omega
    have hq : (Question.appendCap (xs.length + ys.length) vcap e).forced = false := rfl
    let nc := (Question.appendCap (xs.length + ys.length) vcap e).cut (w.tape w.drawn (Question.appendCap (xs.length + ys.length) vcap e))
    have hnc1 : xs.length + ys.length ≤ nc := Nat.le_add_right _ _
    have hroom : ∀ w', (askRoom (nc * i.bytes)).run P w' = .ok () w' := fun w' => by
      unfold askRoom
      split <;> rfl
    have hnz : (i.bytes = 0) = False := by simp; omega
    let w1 : World := { w with drawn := w.drawn + 1 }
    have hfv1 : (Builtin.firstCells k xs.length v).run P w1 = .ok (rows enc xs).toArray w1 := by
      have := (Rd.sl (W := W) (H := [sl enc k v xs, R]) .here w1 (by simp only [seps, sep_emp]; exact hs.drew)).firstCells (P := P)
      exact this
    have hfu1 : (Builtin.firstCells k ys.length u).run P w1 = .ok (rows enc ys).toArray w1 := by
      exact RdAt.firstCells (w := w1) hrd0
    have hch : (choose (Question.appendCap (xs.length + ys.length) vcap e)).run P w = .ok nc w1 := by
      simp only [choose, Sem.run, hq]
      rfl
    obtain ⟨news, hnews⟩ : ∃ news, news = (rows enc xs).toArray ++ (rows enc ys).toArray ++ Builtin.zeroCells z.cells (nc - (xs.length + ys.length)) := ⟨_, rfl⟩
    refine ⟨.slice (some ⟨w1.heap.size, 0, none⟩) (xs.length + ys.length) nc, w1.alloc (.cells news e), ?_, ?_⟩
    · have hgt : ¬ xs.length + ys.length ≤ vcap := hcap
      subst hve
      have e4 : (newRow e news).run P w1 = .ok ⟨w1.heap.size, 0, none⟩ (w1.alloc (.cells news e)) := rfl
      simp [Builtin.append_, hgt, run_underlying hu, run_underlying hu2, hsz, hul, hi, hbig, hnz, hch, hroom, hfv1, hfu1, hz0]
      rw [if_neg (by rw [hq]; simp)]
      have hw1 : w.drew = w1 := rfl
      rw [hw1, hfv1]
      simp only [Result.andThen_ok]
      rw [hfu1]
      simp only [Result.andThen_ok]
      have h9 : (rows enc xs).toArray ++ ((rows enc ys).toArray ++ Builtin.zeroCells z.cells (nc - (xs.length + ys.length))) = news := by rw [hnews, Array.append_assoc]
      have h10 : ((Question.appendCap (xs.length + ys.length) vcap e).cut (w.tape w.drawn (Question.appendCap (xs.length + ys.length) vcap e))) = nc := rfl
      rw [h10, h9, e4]
      rfl
    · have h6 : Sat W w1 R := hs.drew.right
      have h7 := h6.alloc news e
      have h8 : news.toList = rows enc (xs ++ ys) ++ (Builtin.zeroCells z.cells (nc - (xs.length + ys.length))).toList := by rw [hnews]; simp [rows_append]
      rw [h8] at h7
      have h5 := Sat.mk_sl (b := w1.heap.size) (cap := nc) (xs := xs ++ ys) (sp := (Builtin.zeroCells z.cells (nc - (xs.length + ys.length))).toList) (by simpa using hnc1) hkk (by
        rw [Array.length_toList, size_zeroC, hzs, List.length_append]) h7
      rw [List.length_append] at h5
      exact h5

theorem Does.append {enc : α → List Value} {k : Nat} {x y : Operand} {t t2 e e2 ty : TypeId} {pos : String} {after : Array Edge} {guard : Option (Nat × Bool)} {d : Nat} {v u : Value} {xs ys : List α} {R : List HProp} {i : TypeInfo} {z : Value} (hN : Nat.blt d N = true)
    (hu : P.underlying t = some (.slice e)) (hu2 : P.underlying t2 = some (.slice e2)) (hi : ∀ w, (typeInfo e).run P w = .ok i w) (hz : i.zero = some z) (hk : i.size = k) (hzs : z.cells.size = k) (hb : 1 ≤ i.bytes ∧ i.bytes ≤ 4096)
    (hx : ev L x = some v) (hy : ev L y = some u) (ht : Take H (sl enc k v xs) R) (hr : Rd W H enc k u ys) (hlen : xs.length + ys.length ≤ 1073741824) (hone : ∀ y ∈ ys, ∀ c ∈ enc y, c.oneCell' = true) :
    Does P W N ⟨some d, .call ⟨.builtin .append, #[x, y], #[t, t2]⟩, ty, pos, after, guard⟩ L H (fun L1 H1 => ∃ v', L1 = (d, some v') :: L ∧ H1 = sl enc k v' (xs ++ ys) :: R) := fun a w ha hs Kp hK => by
  have hrd := hr w hs
  rw [ht.seps] at hs
  obtain ⟨v', w', h1, h2⟩ := run_append (P := P) (ty := ty) hu hu2 hi hz hk hzs hb hs hrd hlen hone
  have hrun : (execOp a.eval ⟨some d, .call ⟨.builtin .append, #[x, y], #[t, t2]⟩, ty, pos, after, guard⟩).run P w = .ok (.value v') w' := by
    simp [execOp, resolve, invoke, builtin, ha.eval hx, ha.eval hy, h1]
  unfold Oper.wp
  rw [hrun]
  simp only [Oper.upon]
  exact hK _ _ ⟨v', rfl, rfl⟩ _ _ (ha.put (Nat.blt_eq.mp hN) v') h2

/-- A slice of literals, just built, reads as they do. -/
theorem Rd.lit {enc : α → List Value} {k b n : Nat} {cs : List Value} {xs : List α} (h : At H (arr b 0 cs)) (hn : xs.length = n) (hk : ∀ x ∈ xs, (enc x).length = k) (hc : rows enc xs = cs) : Rd W H enc k (.slice (some ⟨b, 0, none⟩) n n) xs := fun w s => by
  obtain ⟨R, s⟩ := h.sat s
  subst hn
  refine ⟨⟨_, _, rfl, Nat.le_refl _, fun _ e _ => by cases e; rfl, fun e => by cases e⟩, hk, fun i x hx c u hu => ?_⟩
  have hx' := hk x (List.mem_of_getElem? hx)
  have hc' := (List.getElem?_eq_some_iff.1 hu).1
  have := (arr_cell s (i := i * k + c) (v := u) (by rw [← hc, rows_get hk hx (by omega)]; exact hu)).2
  rw [show 0 + (i * k + c) = ofs (Value.slice (some ⟨b, 0, none⟩) xs.length xs.length) + i * k + c from by simp [ofs]] at this
  exact this

/-- append(s, x): one element more. -/
theorem Does.append1 {enc : α → List Value} {k b : Nat} {x y : Operand} {t t2 e e2 ty : TypeId} {pos : String} {after : Array Edge} {guard : Option (Nat × Bool)} {d : Nat} {v : Value} {cs : List Value} {xs : List α} (z0 : α) {R : List HProp} {i : TypeInfo} {z : Value} (hN : Nat.blt d N = true)
    (hu : P.underlying t = some (.slice e)) (hu2 : P.underlying t2 = some (.slice e2)) (hi : ∀ w, (typeInfo e).run P w = .ok i w) (hz : i.zero = some z) (hk : i.size = k) (hzs : z.cells.size = k) (hb : 1 ≤ i.bytes ∧ i.bytes ≤ 4096)
    (hx : ev L x = some v) (hy : ev L y = some (.slice (some ⟨b, 0, none⟩) 1 1)) (ha : At H (arr b 0 cs)) (hc : enc z0 = cs) (hcl : cs.length = k) (ht : Take H (sl enc k v xs) R) (hlen : xs.length < 1073741824) (hone : ∀ c ∈ cs, c.oneCell' = true) :
    Does P W N ⟨some d, .call ⟨.builtin .append, #[x, y], #[t, t2]⟩, ty, pos, after, guard⟩ L H (fun L1 H1 => ∃ v', L1 = (d, some v') :: L ∧ H1 = sl enc k v' (xs ++ [z0]) :: R) :=
  Does.append hN hu hu2 hi hz hk hzs hb hx hy ht (Rd.lit ha rfl (by simp [hc, hcl]) (by rw [rows_one, hc])) (by simp; omega) (by simpa [hc] using hone)

/-- A new slice of no elements, made by a literal: 'T{}'. -/
theorem arr_sl {enc : α → List Value} {k b n : Nat} {cs : List Value} {xs : List α} {R : HProp} {w : World} (hn : xs.length = n) (hk : ∀ x ∈ xs, (enc x).length = k) (hc : rows enc xs = cs) (s : Sat W w (sep (arr b 0 cs) R)) : Sat W w (sep (sl enc k (.slice (some ⟨b, 0, none⟩) n n) xs) R) := by
  subst hn
  exact Sat.mk_sl (sp := []) (Nat.le_refl _) hk (by simp) (by rw [List.append_nil, hc]; exact s)

end
end Go.SLYtkflpgknieoknaa
