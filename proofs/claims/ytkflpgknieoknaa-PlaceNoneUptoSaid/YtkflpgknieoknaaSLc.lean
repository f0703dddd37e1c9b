/- Regions whose operations Go may carry out in more than one order: one walk in the order of the text serves every order, if what may come ahead of a change to memory reads no memory that is changed. Conditions: none, this text proves no statement. -/
import Derived.Test.YtkflpgknieoknaaSLb
namespace Go.SLYtkflpgknieoknaa
open Go Go.RowKit

def QF : Exit → Act → World → Prop := fun _ _ _ => False

section
variable {P : Program} {O : Array Oper} {C : World → Prop} {Q : Exit → Act → World → Prop}

/-- One value, in every world of a class, the world being left as it is. -/
def YieldsOn (P : Program) (O : Array Oper) (C : World → Prop) (o : Oper) (v : Value) (a : Act) : Prop :=
  (Region.wanted o (yielded O a.tmps) = true ∧ ∀ w, C w → (execOp a.eval o).run P w = .ok (.value v) w) ∨ (Region.wanted o (yielded O a.tmps) = false ∧ v = undef)

theorem YieldsOn.same {o : Oper} {v : Value} {a a' : Act} (hy : YieldsOn P O C o v a) (he : execOp a'.eval o = execOp a.eval o)
    (hw : Region.wanted o (yielded O a'.tmps) = Region.wanted o (yielded O a.tmps)) : YieldsOn P O C o v a' := by
  unfold YieldsOn at *
  rw [he, hw]
  exact hy

theorem YieldsOn.unique {o : Oper} {v u : Value} {a : Act} {w : World} (hC : C w) (h1 : YieldsOn P O C o v a) (h2 : YieldsOn P O C o u a) : v = u := by
  rcases h1 with ⟨a1, b1⟩ | ⟨a1, b1⟩ <;> rcases h2 with ⟨a2, b2⟩ | ⟨a2, b2⟩
  · have e1 := b1 w hC
    have e2 := b2 w hC
    rw [e1] at e2
    cases e2; rfl
  · rw [a1] at a2; cases a2
  · rw [a1] at a2; cases a2
  · rw [b1, b2]

/-- Kinds: 0 reads memory that no change touches; 1 reads, and is ordered with each change; 2 changes, something read stands unordered beside it; 3 changes, and all else is ordered with it. -/
def wpK (P : Program) (O : Array Oper) (C : World → Prop) (Q : Exit → Act → World → Prop) (ks : Nat → Nat) : List Nat → Act → World → Prop
  | [], a, w => Q .normal a w
  | i :: rest, a, w => match O[i]? with
    | none => False
    | some o => match ks i with
      | 0 => C w ∧ ∃ v, YieldsOn P O C o v a ∧ wpK P O C Q ks rest (a.put o.dst v) w
      | 1 => ∃ v, YieldsOn P O (fun w' => w' = w) o v a ∧ wpK P O C Q ks rest (a.put o.dst v) w
      | 2 => C w ∧ if Region.wanted o (yielded O a.tmps) then o.wp P a w (fun a' w' => C w' ∧ wpK P O C Q ks rest a' w') QF else wpK P O C Q ks rest (a.put o.dst undef) w
      | _ => if Region.wanted o (yielded O a.tmps) then o.wp P a w (wpK P O C Q ks rest) Q else wpK P O C Q ks rest (a.put o.dst undef) w

def compat (x y : Nat) : Bool := (Nat.ble x 1 && Nat.ble y 1) || (Nat.beq x 0 && Nat.beq y 2) || (Nat.beq x 2 && Nat.beq y 0)

def withD (a : Act) (ds : List Deferred) : Act := { a with defers := ds }

theorem wp_conv {o : Oper} {a b : Act} {w : World} {K K' : Act → World → Prop} {Q' : Exit → Act → World → Prop} (he : execOp b.eval o = execOp a.eval o) (hd : b.defers = a.defers)
    (h : ∀ ds u w', K ((withD a ds).put o.dst u) w' → K' ((withD b ds).put o.dst u) w') (hh : o.wp P a w K QF) : o.wp P b w K' Q' := by
  unfold Oper.wp at *
  rw [he]
  generalize (execOp a.eval o).run P w = r at *
  have ha : withD a a.defers = a := rfl
  have hb : withD b a.defers = b := by rw [← hd]; rfl
  have h0 := h a.defers
  rw [ha, hb] at h0
  cases r with
  | ok n w' =>
    cases n <;> simp only [Oper.upon] at hh ⊢
    case value v => exact h0 _ _ hh
    case skip => exact h0 _ _ hh
    case enter f args =>
      refine Calls.mono hh (fun e w'' he => ?_)
      cases e with
      | returned v => exact h0 _ _ he
      | panicked c => exact he.elim
      | outgrown => obtain ⟨_, _, hf⟩ := he; exact hf.elim
    case row r' args => exact Rows.mono hh (fun v w'' he => h0 _ _ he)
    case defer d =>
      have := h (d :: a.defers) undef w' hh
      rw [hd]
      exact this
  | halt x w' => cases x <;> simp only [Oper.upon] at hh ⊢ <;> exact hh.elim

theorem wp_some {o : Oper} {a : Act} {w : World} {K : Act → World → Prop} (hh : o.wp P a w K QF) : ∃ ds u w', K ((withD a ds).put o.dst u) w' := by
  unfold Oper.wp at *
  generalize (execOp a.eval o).run P w = r at *
  cases r with
  | ok n w' =>
    cases n <;> simp only [Oper.upon] at hh
    case value v => exact ⟨a.defers, v, w', hh⟩
    case skip => exact ⟨a.defers, undef, w', hh⟩
    case enter f args =>
      obtain ⟨e, w'', fr, hR, _⟩ := hh []
      cases e with
      | returned v => exact ⟨a.defers, v, w'', hR⟩
      | panicked c => exact hR.elim
      | outgrown => obtain ⟨_, _, hf⟩ := hR; exact hf.elim
    case row r' args =>
      obtain ⟨v, w'', hR, _⟩ := hh default []
      exact ⟨a.defers, v, w'', hR⟩
    case defer d => exact ⟨d :: a.defers, undef, w', hh⟩
  | halt x w' => cases x <;> simp only [Oper.upon] at hh <;> exact hh.elim

theorem put_withD (a : Act) (ds : List Deferred) (d : Option Tmp) (u : Value) : (withD a ds).put d u = withD (a.put d u) ds := by cases d <;> rfl

theorem YieldsOn.kept {o o' : Oper} {v : Value} {a : Act} (hs : ∀ cs b, o.op ≠ .select cs b) (hy : YieldsOn P O C o v a) (ds : List Deferred) (u : Value) (h : ∀ d, o'.dst = some d → d ∉ o.looksAt O) :
    YieldsOn P O C o v ((withD a ds).put o'.dst u) := by
  refine (YieldsOn.same (a := (withD a ds)) hy ?_ rfl).same (execOp_put o hs _ _ _ h) (wanted_put o _ _ _ h)
  have : (withD a ds).eval = a.eval := by funext x; cases x <;> rfl
  rw [this]

theorem YieldsOn.back {o o' : Oper} {v : Value} {a : Act} (hs : ∀ cs b, o.op ≠ .select cs b) (ds : List Deferred) (u : Value) (h : ∀ d, o'.dst = some d → d ∉ o.looksAt O) (hy : YieldsOn P O C o v ((withD a ds).put o'.dst u)) :
    YieldsOn P O C o v a := by
  have e : (withD a ds).eval = a.eval := by funext x; cases x <;> rfl
  refine YieldsOn.same hy ?_ ?_
  · rw [execOp_put o hs _ _ _ h, e]
  · rw [wanted_put o _ _ _ h]; rfl

theorem wpK_mono {ks : Nat → Nat} {i : Nat} {l l' : List Nat} (h : ∀ a w, wpK P O C Q ks l a w → wpK P O C Q ks l' a w) {a : Act} {w : World} (hh : wpK P O C Q ks (i :: l) a w) : wpK P O C Q ks (i :: l') a w := by
  cases ho : O[i]? with
  | none => simp only [wpK, ho] at hh
  | some o =>
    simp only [wpK, ho] at hh ⊢
    generalize ks i = k at *
    match k with
    | 0 => obtain ⟨hc, v, hy, hr⟩ := hh; exact ⟨hc, v, hy, h _ _ hr⟩
    | 1 => obtain ⟨v, hy, hr⟩ := hh; exact ⟨v, hy, h _ _ hr⟩
    | 2 =>
      obtain ⟨hc, hh⟩ := hh
      refine ⟨hc, ?_⟩
      split
      · rename_i hw; rw [if_pos hw] at hh; exact Oper.wp_mono (fun a w ⟨x, y⟩ => ⟨x, h _ _ y⟩) hh
      · rename_i hw; rw [if_neg hw] at hh; exact h _ _ hh
    | n + 3 =>
      simp only at hh ⊢
      split
      · rename_i hw; rw [if_pos hw] at hh; exact Oper.wp_mono h hh
      · rename_i hw; rw [if_neg hw] at hh; exact h _ _ hh

theorem put_comm' (a : Act) {x y : Option Tmp} (v u : Value) (h : ∀ d, x = some d → y ≠ some d) : (a.put x v).put y u = (a.put y u).put x v := Act.put_comm a v u h

theorem wpK_swap {ks : Nat → Nat} {i j : Nat} {oi oj : Oper} {rest : List Nat} (hi : O[i]? = some oi) (hj : O[j]? = some oj) (hsi : ∀ cs b, oi.op ≠ .select cs b) (hsj : ∀ cs b, oj.op ≠ .select cs b)
    (hap : oi.apart O oj = true) (hk : compat (ks i) (ks j) = true) {a : Act} {w : World} (hh : wpK P O C Q ks (i :: j :: rest) a w) : wpK P O C Q ks (j :: i :: rest) a w := by
  obtain ⟨h1, h2, h3⟩ := Oper.apart_spec hap
  have e0 : ∀ a : Act, withD a a.defers = a := fun _ => rfl
  have keepi : ∀ {C' : World → Prop} {v : Value} {a : Act} (u : Value), YieldsOn P O C' oi v a → YieldsOn P O C' oi v (a.put oj.dst u) := fun {C' v a} u hy =>
    hy.kept (o' := oj) hsi a.defers u h3
  have keepj : ∀ {C' : World → Prop} {v : Value} {a : Act} (u : Value), YieldsOn P O C' oj v (a.put oi.dst u) → YieldsOn P O C' oj v a := fun {C' v a} u hy =>
    YieldsOn.back (o' := oi) hsj a.defers u h1 hy
  simp only [wpK, hi, hj] at hh ⊢
  generalize ks i = ki at *
  generalize ks j = kj at *
  match ki, kj, hk with
  | 0, 0, _ =>
    obtain ⟨c1, v1, y1, c2, v2, y2, hr⟩ := hh
    exact ⟨c1, v2, keepj _ y2, c1, v1, keepi _ y1, by rw [← put_comm' a v1 v2 h2]; exact hr⟩
  | 0, 1, _ =>
    obtain ⟨c1, v1, y1, v2, y2, hr⟩ := hh
    exact ⟨v2, keepj _ y2, c1, v1, keepi _ y1, by rw [← put_comm' a v1 v2 h2]; exact hr⟩
  | 1, 0, _ =>
    obtain ⟨v1, y1, c2, v2, y2, hr⟩ := hh
    exact ⟨c2, v2, keepj _ y2, v1, keepi _ y1, by rw [← put_comm' a v1 v2 h2]; exact hr⟩
  | 1, 1, _ =>
    obtain ⟨v1, y1, v2, y2, hr⟩ := hh
    exact ⟨v2, keepj _ y2, v1, keepi _ y1, by rw [← put_comm' a v1 v2 h2]; exact hr⟩
  | 0, 2, _ =>
    obtain ⟨c1, v1, y1, c2, hr⟩ := hh
    rw [wanted_put oj a oi.dst v1 h1] at hr
    refine ⟨c1, ?_⟩
    split
    · rename_i hw
      rw [if_pos hw] at hr
      refine wp_conv (execOp_put oj hsj a oi.dst v1 h1).symm (by cases oi.dst <;> rfl) (fun ds u w' ⟨x, y⟩ => ⟨x, x, v1, y1.kept hsi ds u h3, ?_⟩) hr
      rw [put_withD, put_comm' a v1 u h2, ← put_withD] at y
      rw [put_withD] at y ⊢
      rw [put_withD]
      exact y
    · rename_i hw
      rw [if_neg hw] at hr
      exact ⟨c1, v1, keepi _ y1, by rw [← put_comm' a v1 undef h2]; exact hr⟩
  | 2, 0, _ =>
    obtain ⟨c1, hr⟩ := hh
    by_cases hw : Region.wanted oi (yielded O a.tmps) = true
    · rw [if_pos hw] at hr
      obtain ⟨ds0, u0, w0, _, _, v, y0, _⟩ := wp_some hr
      have yv := y0.back hsj ds0 u0 h1
      refine ⟨c1, v, yv, c1, ?_⟩
      rw [wanted_put oi a oj.dst v h3, if_pos hw]
      refine wp_conv (execOp_put oi hsi a oj.dst v h3) (by cases oj.dst <;> rfl) (fun ds u w' ⟨x, _, v', y', z⟩ => ⟨x, ?_⟩) hr
      obtain rfl : v' = v := (y'.back hsj ds u h1).unique c1 yv
      rw [put_withD, put_withD] at z
      rw [put_withD]
      rw [← put_comm' a u v' h2]
      exact z
    · rw [if_neg hw] at hr
      obtain ⟨_, v, y, hr⟩ := hr
      refine ⟨c1, v, keepj _ y, c1, ?_⟩
      rw [wanted_put oi a oj.dst v h3, if_neg hw, ← put_comm' a undef v h2]
      exact hr

theorem wpK_bubble {ks : Nat → Nat} {i : Nat} {oi : Oper} (hi : O[i]? = some oi) (hsel : ∀ (j : Nat) (o : Oper) cs b, O[j]? = some o → o.op ≠ .select cs b) (post : List Nat) :
    ∀ (pre : List Nat) {a : Act} {w : World}, (∀ j ∈ pre, ∃ oj, O[j]? = some oj ∧ oj.apart O oi = true ∧ compat (ks j) (ks i) = true) → wpK P O C Q ks (pre ++ i :: post) a w → wpK P O C Q ks (i :: (pre ++ post)) a w
  | [], _, _, _, h => h
  | j :: pre, a, w, hp, h => by
    obtain ⟨oj, hj, hap, hc⟩ := hp j (List.mem_cons_self ..)
    have h' : wpK P O C Q ks (j :: i :: (pre ++ post)) a w := wpK_mono (fun a w => wpK_bubble hi hsel post pre (fun x hx => hp x (List.mem_cons_of_mem _ hx))) h
    exact wpK_swap hj hi (fun cs b => hsel j oj cs b hj) (fun cs b => hsel i oi cs b hi) hap hc h'

/-! ### Who must come ahead of whom -/

def maskOf (o : Oper) (acc : List Nat) (k : Nat) : Nat :=
  o.after.toList.foldl (fun s e => if Region.binds .any e then s ||| 2 ^ e.on ||| acc.getD (k - 1 - e.on) 0 else s) 0

/-- The masks, the last one first. -/
def masks : List Oper → Nat → List Nat → List Nat
  | [], _, acc => acc
  | o :: r, k, acc => masks r (k + 1) (maskOf o acc k :: acc)

def lowB (o : Oper) (k : Nat) : Bool := o.after.toList.all fun e => !Region.binds .any e || Nat.blt e.on k

def pairsB (O : Array Oper) (ks : List Nat) (o : Oper) (k : Nat) (m : Nat) : Nat → Bool
  | 0 => true
  | j + 1 => (m.testBit j || (match O[j]? with | some oj => oj.apart O o && compat (ks.getD j 1) (ks.getD k 1) | none => false)) && pairsB O ks o k m j

def orderB (O : Array Oper) (ks : List Nat) (ms : List Nat) : List Oper → Nat → Bool
  | [], _ => true
  | o :: r, k => lowB o k && pairsB O ks o k (ms.getD (O.size - 1 - k) 0) k && orderB O ks ms r (k + 1)

def regionB (l : List Oper) (ks : List Nat) : Bool := Region.noSelect l.toArray && orderB l.toArray ks (masks l 0 []) l 0

def closedL (O : Array Oper) (listed : Array Bool) : Prop := ∀ j oj, O[j]? = some oj → listed.getD j false = true → ∀ e ∈ oj.after, Region.binds .any e = true → listed.getD e.on false = true

/-- What a mask tells: whoever is in it is listed, if all that its operation waits for is. -/
def MaskOk (O : Array Oper) (k m : Nat) : Prop := ∀ (o : Oper) (listed : Array Bool), O[k]? = some o → closedL O listed → (∀ e ∈ o.after, Region.binds .any e = true → listed.getD e.on false = true) → ∀ j, m.testBit j = true → listed.getD j false = true

theorem foldl_mask (O : Array Oper) (acc : List Nat) (k : Nat) (listed : Array Bool) (hc : closedL O listed) (hacc : ∀ i, i < k → MaskOk O i (acc.getD (k - 1 - i) 0)) (hO : k ≤ O.size) :
    ∀ (es : List Edge) (s : Nat), (∀ j, s.testBit j = true → listed.getD j false = true) → (∀ e ∈ es, Region.binds .any e = true → listed.getD e.on false = true ∧ e.on < k) →
      ∀ j, (es.foldl (fun s e => if Region.binds .any e then s ||| 2 ^ e.on ||| acc.getD (k - 1 - e.on) 0 else s) s).testBit j = true → listed.getD j false = true
  | [], s, hs, _, j, hj => hs j hj
  | e :: es, s, hs, he, j, hj => by
    refine foldl_mask O acc k listed hc hacc hO es _ ?_ (fun e' h' => he e' (List.mem_cons_of_mem _ h')) j hj
    intro i hi
    simp only at hi
    split at hi
    · rename_i hb
      obtain ⟨hl, hlt⟩ := he e (List.mem_cons_self ..) hb
      rw [Nat.testBit_or, Nat.testBit_or, Bool.or_eq_true, Bool.or_eq_true] at hi
      rcases hi with (hi | hi) | hi
      · exact hs i hi
      · rw [Nat.testBit_two_pow] at hi
        simp only [decide_eq_true_eq] at hi
        subst hi; exact hl
      · have hk : e.on < O.size := by omega
        have ho : O[e.on]? = some O[e.on] := by simp [hk]
        exact hacc e.on hlt _ listed ho hc (hc e.on _ ho hl) i hi
    · exact hs i hi

theorem masks_ok (O : Array Oper) : ∀ (l : List Oper) (k : Nat) (acc : List Nat), (∀ j, l[j]? = O[k + j]?) → acc.length = k → (∀ i, i < k → MaskOk O i (acc.getD (k - 1 - i) 0)) → (∀ j o, l[j]? = some o → lowB o (k + j) = true) → k ≤ O.size →
    ∀ i, i < k + l.length → MaskOk O i ((masks l k acc).getD (k + l.length - 1 - i) 0)
  | [], k, acc, _, _, hacc, _, _, i, hi => by simpa [masks] using hacc i (by simpa using hi)
  | o :: l, k, acc, hl, hlen, hacc, hlow, hO, i, hi => by
    have h0 : O[k]? = some o := by simpa using (hl 0).symm
    have hk : k < O.size := (Array.getElem?_eq_some_iff.1 h0).1
    have := masks_ok O l (k + 1) (maskOf o acc k :: acc) (fun j => by have := hl (j + 1); simpa [Nat.add_assoc, Nat.add_comm 1 j] using this) (by simp [hlen])
      (fun i hi => by
        by_cases e : i = k
        · subst e
          simp only [Nat.add_sub_cancel, Nat.sub_self, List.getD_cons_zero]
          intro o' listed ho hc ha j hj
          have : o' = o := Option.some.inj (ho.symm.trans h0)
          subst this
          refine foldl_mask O acc i listed hc hacc hO o'.after.toList 0 (fun j hj => by simp at hj) (fun e he hb => ⟨ha e (by simpa using he) hb, ?_⟩) j hj
          have := hlow 0 o' rfl
          unfold lowB at this
          have := List.all_eq_true.1 this e he
          simp only [hb, Bool.not_true, Bool.false_or] at this
          simpa using Nat.blt_eq.mp this
        · have hik : i < k := by omega
          have := hacc i hik
          rw [show k + 1 - 1 - i = (k - 1 - i) + 1 from by omega, List.getD_cons_succ]
          exact this)
      (fun j o' ho => by have := hlow (j + 1) o' (by simpa using ho); rwa [show k + (j + 1) = k + 1 + j from by omega] at this) hk i (by simp at hi; omega)
    rw [show k + (o :: l).length - 1 - i = k + 1 + l.length - 1 - i from by rw [List.length_cons]; omega]
    exact this

theorem pairsB_spec {ks : List Nat} {o : Oper} {k m : Nat} : ∀ {n : Nat}, pairsB O ks o k m n = true → ∀ j, j < n → m.testBit j = true ∨ ∃ oj, O[j]? = some oj ∧ oj.apart O o = true ∧ compat (ks.getD j 1) (ks.getD k 1) = true
  | 0, _, j, hj => by omega
  | n + 1, h, j, hj => by
    simp only [pairsB, Bool.and_eq_true, Bool.or_eq_true] at h
    by_cases e : j = n
    · subst e
      rcases h.1 with h | h
      · exact .inl h
      · right
        cases ho : O[j]? with
        | none => rw [ho] at h; cases h
        | some oj => rw [ho] at h; simp only [Bool.and_eq_true] at h; exact ⟨oj, rfl, h.1, h.2⟩
    · exact pairsB_spec h.2 j (by omega)

theorem orderB_spec {ks ms : List Nat} : ∀ {l : List Oper} {k : Nat}, orderB O ks ms l k = true → ∀ j o, l[j]? = some o → lowB o (k + j) = true ∧ pairsB O ks o (k + j) (ms.getD (O.size - 1 - (k + j)) 0) (k + j) = true
  | [], _, _, _, _, h => by simp at h
  | x :: l, k, hB, j, o, h => by
    simp only [orderB, Bool.and_eq_true] at hB
    cases j with
    | zero => simp at h; subst h; exact ⟨hB.1.1, hB.1.2⟩
    | succ j =>
      have := orderB_spec hB.2 j o (by simpa using h)
      rwa [show k + 1 + j = k + (j + 1) from by omega] at this

theorem wpOp_of_wpK {ks : Nat → Nat} {i : Nat} {o : Oper} (ho : O[i]? = some o) {l : List Nat} {a : Act} {w : World} {K : Act → World → Prop} (h : ∀ a w, wpK P O C Q ks l a w → K a w) (hh : wpK P O C Q ks (i :: l) a w) : wpOp P O Q i K a w := by
  simp only [wpK, ho] at hh
  unfold wpOp
  rw [ho]
  simp only
  have yl : ∀ {C' : World → Prop} {v : Value}, C' w → YieldsOn P O C' o v a → wpK P O C Q ks l (a.put o.dst v) w → (if Region.wanted o (yielded O a.tmps) = true then o.wp P a w K Q ∨ (o.asks P a w ∧ LetsOut Q) else K (a.put o.dst undef) w) := fun {C' v} hc hy hr => by
    rcases hy with ⟨hw, hy⟩ | ⟨hw, rfl⟩
    · rw [if_pos hw]
      left
      unfold Oper.wp
      rw [hy w hc]
      exact h _ _ hr
    · rw [if_neg (by rw [hw]; simp)]
      exact h _ _ hr
  generalize ks i = k at *
  match k with
  | 0 => obtain ⟨hc, v, hy, hr⟩ := hh; exact yl hc hy hr
  | 1 => obtain ⟨v, hy, hr⟩ := hh; exact yl (C' := fun w' => w' = w) rfl hy hr
  | 2 =>
    obtain ⟨hc, hh⟩ := hh
    split
    · rename_i hw
      rw [if_pos hw] at hh
      exact .inl (wp_conv rfl rfl (fun ds u w' ⟨_, y⟩ => h _ _ y) hh)
    · rename_i hw; rw [if_neg hw] at hh; exact h _ _ hh
  | n + 3 =>
    simp only at hh
    split
    · rename_i hw; rw [if_pos hw] at hh; exact .inl (Oper.wp_mono h hh)
    · rename_i hw; rw [if_neg hw] at hh; exact h _ _ hh

theorem wpAny_of_wpK {ks : List Nat} {ms : List Nat} (hsel : ∀ (j : Nat) (o : Oper) cs b, O[j]? = some o → o.op ≠ .select cs b)
    (hlow : ∀ j o, O[j]? = some o → lowB o j = true) (hpair : ∀ k o, O[k]? = some o → pairsB O ks o k (ms.getD (O.size - 1 - k) 0) k = true) (hm : ∀ i, i < O.size → MaskOk O i (ms.getD (O.size - 1 - i) 0)) :
    ∀ (n : Nat) (l : List Nat) (listed : Array Bool) (a : Act) (w : World), l.length = n → l.Pairwise (· < ·) → (∀ i, i ∈ l ↔ listed.getD i true = false) → listed.size = O.size → closedL O listed →
      wpK P O C Q (fun i => ks.getD i 1) l a w → wpAny P .any O Q n listed a w
  | 0, l, listed, a, w, hn, _, hl, hsz, _, h => by
    obtain rfl : l = [] := List.eq_nil_of_length_eq_zero hn
    refine ⟨?_, h⟩
    cases hr : Region.ready .any O listed with
    | nil => rfl
    | cons x xs =>
      have : x ∈ Region.ready .any O listed := by rw [hr]; exact List.mem_cons_self ..
      have := (hl x).2 (mem_ready.1 this).1
      cases this
  | n + 1, l, listed, a, w, hn, hs, hl, hsz, hc, h => by
    refine ⟨fun hr => ?_, fun i hi => ?_⟩
    · exfalso
      cases l with
      | nil => simp at hn
      | cons x l =>
        have hx := (hl x).1 (List.mem_cons_self ..)
        have hxs : x < O.size := by
          rcases Nat.lt_or_ge x O.size with h' | h'
          · exact h'
          · rw [Array.getD_eq_getD_getElem?, Array.getElem?_eq_none (by omega)] at hx; cases hx
        have ho : O[x]? = some O[x] := by simp [hxs]
        have : x ∈ Region.ready .any O listed := mem_ready.2 ⟨hx, _, ho, fun e he hb => by
          have h1 := hlow x _ ho
          unfold lowB at h1
          have h1 := List.all_eq_true.1 h1 e (by simpa using he)
          simp only [hb, Bool.not_true, Bool.false_or] at h1
          have h1 : e.on < x := by simpa using Nat.blt_eq.mp h1
          cases h2 : listed.getD e.on true with
          | false =>
            have := (hl e.on).2 h2
            cases List.mem_cons.1 this with
            | inl e' => omega
            | inr e' => have := (List.pairwise_cons.1 hs).1 _ e'; omega
          | true =>
            have h3 : e.on < listed.size := by omega
            simp [h3] at h2 ⊢
            exact h2⟩
        rw [hr] at this
        cases this
    · obtain ⟨hun, oi, hoi, hall⟩ := mem_ready.1 hi
      have himem := (hl i).2 hun
      obtain ⟨pre, post, rfl⟩ := List.append_of_mem himem
      have hiS : i < O.size := (Array.getElem?_eq_some_iff.1 hoi).1
      have hpw := List.pairwise_append.1 hs
      have hb := wpK_bubble hoi hsel post pre (fun j hj => by
        have hji : j < i := hpw.2.2 j hj i (List.mem_cons_self ..)
        rcases pairsB_spec (hpair i oi hoi) j hji with h1 | h1
        · have h2 := hm i hiS oi listed hoi hc hall j h1
          have h3 := (hl j).1 (List.mem_append_left _ hj)
          have h4 : j < listed.size := by omega
          simp [h4] at h2 h3
          rw [h2] at h3; cases h3
        · exact h1) h
      refine wpOp_of_wpK hoi (fun a' w' h' => ?_) hb
      have hne : ∀ x ∈ pre ++ post, x ≠ i := fun x hx e => by
        subst e
        rcases List.mem_append.1 hx with h1 | h1
        · exact absurd (hpw.2.2 x h1 x (List.mem_cons_self ..)) (Nat.lt_irrefl _)
        · exact absurd ((List.pairwise_cons.1 hpw.2.1).1 x h1) (Nat.lt_irrefl _)
      refine wpAny_of_wpK hsel hlow hpair hm n (pre ++ post) _ a' w' (by simp at hn ⊢; omega) ?_ ?_ (by simp [hsz]) ?_ h'
      · exact List.pairwise_append.2 ⟨hpw.1, (List.pairwise_cons.1 hpw.2.1).2, fun x hx y hy => hpw.2.2 x hx y (List.mem_cons_of_mem _ hy)⟩
      · intro x
        by_cases e : i = x
        · subst e
          have h4 : i < listed.size := by omega
          constructor
          · intro hx; exact absurd rfl (hne i hx)
          · intro hx; simp [h4] at hx
        · rw [getD_set_ne true e, ← hl x]
          simp [List.mem_append, List.mem_cons, Ne.symm e]
      · intro j oj hj hlj e he hb'
        by_cases e' : i = j
        · subst e'
          have : oj = oi := Option.some.inj (hj.symm.trans hoi)
          subst this
          exact getD_set_true (hall e he hb')
        · rw [getD_set_ne false e'] at hlj
          exact getD_set_true (hc j oj hj hlj e he hb')

/-! ### Over the operations themselves -/

def wpKL (P : Program) (O : Array Oper) (C : World → Prop) (Q : Exit → Act → World → Prop) : List Nat → List Oper → Act → World → Prop
  | _, [], a, w => Q .normal a w
  | [], _ :: _, _, _ => False
  | k :: ks, o :: rest, a, w => match k with
      | 0 => C w ∧ ∃ v, YieldsOn P O C o v a ∧ wpKL P O C Q ks rest (a.put o.dst v) w
      | 1 => ∃ v, YieldsOn P O (fun w' => w' = w) o v a ∧ wpKL P O C Q ks rest (a.put o.dst v) w
      | 2 => C w ∧ if Region.wanted o (yielded O a.tmps) then o.wp P a w (fun a' w' => C w' ∧ wpKL P O C Q ks rest a' w') QF else wpKL P O C Q ks rest (a.put o.dst undef) w
      | _ => if Region.wanted o (yielded O a.tmps) then o.wp P a w (wpKL P O C Q ks rest) Q else wpKL P O C Q ks rest (a.put o.dst undef) w

theorem wpK_of_wpKL (kf : Nat → Nat) : ∀ (l : List Oper) (ks : List Nat) (k : Nat), (∀ j, l[j]? = O[k + j]?) → (∀ j x, ks[j]? = some x → kf (k + j) = x) → ∀ a w, wpKL P O C Q ks l a w → wpK P O C Q kf (List.range' k l.length) a w
  | [], ks, k, _, _, a, w, h => by cases ks <;> exact h
  | o :: l, [], k, _, _, a, w, h => by exact h.elim
  | o :: l, x :: ks, k, hl, hk, a, w, h => by
    have h0 : O[k]? = some o := by simpa using (hl 0).symm
    have hx : kf k = x := by simpa using hk 0 x rfl
    have ih := wpK_of_wpKL kf l ks (k + 1) (fun j => by have := hl (j + 1); simpa [Nat.add_assoc, Nat.add_comm 1 j] using this) (fun j y hy => by have := hk (j + 1) y (by simpa using hy); rwa [show k + 1 + j = k + (j + 1) from by omega])
    simp only [List.length_cons, List.range'_succ]
    simp only [wpK, h0, hx]
    simp only [wpKL] at h
    match x with
    | 0 => obtain ⟨hc, v, hy, hr⟩ := h; exact ⟨hc, v, hy, ih _ _ hr⟩
    | 1 => obtain ⟨v, hy, hr⟩ := h; exact ⟨v, hy, ih _ _ hr⟩
    | 2 =>
      obtain ⟨hc, h⟩ := h
      refine ⟨hc, ?_⟩
      split
      · rename_i hw; rw [if_pos hw] at h; exact Oper.wp_mono (fun a w ⟨y, z⟩ => ⟨y, ih _ _ z⟩) h
      · rename_i hw; rw [if_neg hw] at h; exact ih _ _ h
    | n + 3 =>
      simp only at h ⊢
      split
      · rename_i hw; rw [if_pos hw] at h; exact Oper.wp_mono ih h
      · rename_i hw; rw [if_neg hw] at h; exact ih _ _ h

theorem wp_region_k {id : Nat} {l : List Oper} {a : Act} {w : World} (ks : List Nat) (hm : P.follows .mixedOrders = true) (hB : regionB l ks = true)
    (h : wpKL P l.toArray C Q ks l a { w with drawn := w.drawn + 1 }) : (Code.region id l.toArray true).wp P Q a w := by
  simp only [regionB, Bool.and_eq_true] at hB
  have hsp := fun j o (ho : (l.toArray)[j]? = some o) => orderB_spec hB.2 j o (by simpa using ho)
  refine wp_region_any hm ?_
  have hms := masks_ok l.toArray l 0 [] (by simp) rfl (fun i hi => by omega) (fun j o ho => by have := (hsp j o (by simpa using ho)).1; simpa using this) (Nat.zero_le _)
  refine wpAny_of_wpK (ks := ks) (ms := masks l 0 []) (Region.noSelect_spec hB.1) (fun j o ho => by simpa using (hsp j o ho).1) (fun k o ho => by simpa using (hsp k o ho).2) (fun i hi => by simpa using hms i (by simpa using hi))
    l.toArray.size (List.range' 0 l.length) _ a _ (by simp) List.pairwise_lt_range' ?_ (by simp) (fun j oj hj hlj => ?_) (wpK_of_wpKL _ l ks 0 (by simp) (fun j x hx => by simp [List.getD_eq_getElem?_getD, hx]) a _ h)
  · intro i
    by_cases hi : i < l.length
    · simp [hi]
    · simp [hi]
  · rw [getD_replicate_false'] at hlj; cases hlj
where
  getD_replicate_false' {m j : Nat} : (Array.replicate m false).getD j false = false := by
    rcases Nat.lt_or_ge j m with h | h
    · simp [h]
    · simp [h]

end
end Go.SLYtkflpgknieoknaa
