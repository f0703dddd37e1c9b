/- Guarded parts of a region, as one value: '&&' and '||' without parting the way. Conditions: none, this text proves no statement. -/
import Derived.Test.YtkflpgknieoknaaSLn
namespace Go.SLYtkflpgknieoknaa
open Go Go.RowKit

section
variable {P : Program} {W : World} {N : Nat} {Q : Exit → Act → World → Prop} {O : Array Oper} {L : List (Nat × Option Value)} {H K R : List HProp} {T : TypeId} {C : World → Prop}

theorem letsOut_then {n : Act → World → Prop} (h : LetsOut (Exit.then n Q)) : LetsOut Q := h
theorem wp_then {o : Oper} {n : Act → World → Prop} {a : Act} {w : World} {Kp : Act → World → Prop} (h : o.wp P a w Kp (Exit.then n Q)) : o.wp P a w Kp Q := by
  unfold Oper.wp at *
  generalize (execOp a.eval o).run P w = r at *
  cases r with
  | ok n w' =>
    cases n <;> simp only [Oper.upon] at h ⊢
    case value v => exact h
    case skip => exact h
    case enter f args => exact Calls.mono h (fun e w'' he => by cases e <;> exact he)
    case row r' args => exact h
    case defer d => exact h
  | halt x w' => cases x <;> simp only [Oper.upon] at h ⊢ <;> exact h

theorem wp_thens {o : Oper} {n n' : Act → World → Prop} {a : Act} {w : World} {Kp : Act → World → Prop} (h : o.wp P a w Kp (Exit.then n Q)) : o.wp P a w Kp (Exit.then n' Q) := by
  unfold Oper.wp at *
  generalize (execOp a.eval o).run P w = r at *
  cases r with
  | ok n w' =>
    cases n <;> simp only [Oper.upon] at h ⊢
    case value v => exact h
    case skip => exact h
    case enter f args => exact Calls.mono h (fun e w'' he => by cases e <;> exact he)
    case row r' args => exact h
    case defer d => exact h
  | halt x w' => cases x <;> simp only [Oper.upon] at h ⊢ <;> exact h
theorem wpList_monoN {M M' : Act → World → Prop} (hm : ∀ a w, M a w → M' a w) : ∀ (ops : List Oper) (a : Act) (w : World), wpList P O (Exit.then M Q) ops a w → wpList P O (Exit.then M' Q) ops a w
  | [], a, w, h => hm a w h
  | o :: ops, a, w, h => by
    unfold wpList at h ⊢
    split
    · rename_i hw
      rw [if_pos hw] at h
      rcases h with h | ⟨h1, h2⟩
      · exact .inl (wp_thens (Oper.wp_mono (fun a w h => wpList_monoN hm ops a w h) h))
      · exact .inr ⟨h1, h2⟩
    · rename_i hw
      rw [if_neg hw] at h
      exact wpList_monoN hm ops _ w h
theorem wpKL_monoN {M M' : Act → World → Prop} (hm : ∀ a w, M a w → M' a w) : ∀ (ks : List Nat) (ops : List Oper) (a : Act) (w : World), wpKL P O C (Exit.then M Q) ks ops a w → wpKL P O C (Exit.then M' Q) ks ops a w
  | [], [], a, w, h => hm a w h
  | _ :: _, [], a, w, h => hm a w h
  | [], _ :: _, _, _, h => h
  | k :: ks, o :: ops, a, w, h => by
    have ih := wpKL_monoN hm ks ops
    match k with
    | 0 =>
      obtain ⟨hc, v, hy, h⟩ := h
      exact ⟨hc, v, hy, ih _ _ h⟩
    | 1 =>
      obtain ⟨v, hy, h⟩ := h
      exact ⟨v, hy, ih _ _ h⟩
    | 2 =>
      obtain ⟨hc, h⟩ := h
      refine ⟨hc, ?_⟩
      split
      · rename_i hw
        rw [if_pos hw] at h
        exact Oper.wp_mono (fun a w ⟨x, y⟩ => ⟨x, ih _ _ y⟩) h
      · rename_i hw
        rw [if_neg hw] at h
        exact ih _ _ h
    | k + 3 =>
      simp only [wpKL] at h ⊢
      split
      · rename_i hw
        rw [if_pos hw] at h
        exact wp_thens (Oper.wp_mono (fun a w h => ih _ _ h) h)
      · rename_i hw
        rw [if_neg hw] at h
        exact ih _ _ h
theorem wpList_cut : ∀ (n : Nat) (ops : List Oper) (a : Act) (w : World), wpList P O (Exit.then (wpList P O Q (ops.drop n)) Q) (ops.take n) a w → wpList P O Q ops a w
  | 0, ops, a, w, h => h
  | n + 1, [], a, w, h => h
  | n + 1, o :: ops, a, w, h => by
    simp only [List.take_succ_cons, List.drop_succ_cons] at h
    unfold wpList at h ⊢
    split
    · rename_i hw
      rw [if_pos hw] at h
      rcases h with h | ⟨h1, h2⟩
      · exact .inl (wp_then (Oper.wp_mono (fun a w h => wpList_cut n ops a w h) h))
      · exact .inr ⟨h1, letsOut_then h2⟩
    · rename_i hw
      rw [if_neg hw] at h
      exact wpList_cut n ops _ w h
theorem wpKL_cut : ∀ (n : Nat) (ks : List Nat) (ops : List Oper) (a : Act) (w : World), wpKL P O C (Exit.then (wpKL P O C Q (ks.drop n) (ops.drop n)) Q) (ks.take n) (ops.take n) a w → wpKL P O C Q ks ops a w
  | 0, ks, ops, a, w, h => by
    cases ks <;> exact h
  | n + 1, ks, [], a, w, h => by
    cases ks with
    | nil => exact h
    | cons k ks =>
      have h' : wpKL P O C Q (ks.drop n) [] a w := h
      revert h'
      generalize ks.drop n = l
      intro h'
      cases l <;> exact h'
  | n + 1, [], o :: ops, a, w, h => h
  | n + 1, k :: ks, o :: ops, a, w, h => by
    simp only [List.take_succ_cons, List.drop_succ_cons] at h
    have ih := fun a w => wpKL_cut n ks ops a w
    match k with
    | 0 =>
      obtain ⟨hc, v, hy, h⟩ := h
      exact ⟨hc, v, hy, ih _ _ h⟩
    | 1 =>
      obtain ⟨v, hy, h⟩ := h
      exact ⟨v, hy, ih _ _ h⟩
    | 2 =>
      obtain ⟨hc, h⟩ := h
      refine ⟨hc, ?_⟩
      split
      · rename_i hw
        rw [if_pos hw] at h
        exact Oper.wp_mono (fun a w ⟨x, y⟩ => ⟨x, ih _ _ y⟩) h
      · rename_i hw
        rw [if_neg hw] at h
        exact ih _ _ h
    | k + 3 =>
      simp only [wpKL] at h ⊢
      split
      · rename_i hw
        rw [if_pos hw] at h
        exact wp_then (Oper.wp_mono (fun a w h => ih _ _ h) h)
      · rename_i hw
        rw [if_neg hw] at h
        exact ih _ _ h

/-- What a guarded part hands on: one value; its slots are forgotten. -/
abbrev SegQ (W : World) (N : Nat) (Q : Exit → Act → World → Prop) (d : Nat) (v : Value) (ks : List Nat) (L : List (Nat × Option Value)) (H : List HProp) : Exit → Act → World → Prop :=
  Exit.then (Mid W N (fun _ : Unit => True) (fun _ => [(d, some v)] ++ (nones ks ++ L)) (fun _ => H)) Q

theorem GoL.cut {ops : List Oper} {d : Nat} {v : Value} {ks : List Nat} (n : Nat) (h1 : GoL P W N O (SegQ W N Q d v ks L H) (ops.take n) L H) (h2 : GoL P W N O Q (ops.drop n) ((d, some v) :: (nones ks ++ L)) H) : GoL P W N O Q ops L H := fun a w ha hs =>
  wpList_cut n ops a w (wpList_monoN (fun a w ⟨_, _, ha', hs'⟩ => h2 a w ha' hs') _ _ _ (h1 a w ha hs))
theorem GoK.cut {ops : List Oper} {d : Nat} {v : Value} {ks kd : List Nat} (n : Nat) (h1 : GoK P W N K O (SegQ W N Q d v ks L H) (kd.take n) (ops.take n) L H) (h2 : GoK P W N K O Q (kd.drop n) (ops.drop n) ((d, some v) :: (nones ks ++ L)) H) : GoK P W N K O Q kd ops L H := fun a w ha hs =>
  wpKL_cut n kd ops a w (wpKL_monoN (fun a w ⟨_, _, ha', hs'⟩ => h2 a w ha' hs') _ _ _ _ (h1 a w ha hs))

section
variable {ops : List Oper} {d t : Nat} {ks kd : List Nat} {b e : Bool} {p : Prop} [Decidable p]
theorem GoL.segA (n d t : Nat) (ks : List Nat) (ht : look L t = some (.bool b)) (h1 : b = true → GoL P W N O (SegQ W N Q d (.bool e) ks L H) (ops.take n) ((t, some (.bool true)) :: L) H) (h0 : b = false → GoL P W N O (SegQ W N Q d (.bool false) ks L H) (ops.take n) ((t, some (.bool false)) :: L) H)
    (h2 : GoL P W N O Q (ops.drop n) ((d, some (.bool (b && e))) :: (nones ks ++ L)) H) : GoL P W N O Q ops L H :=
  GoL.cut (v := .bool (b && e)) (ks := ks) n (.part ht (fun h => by subst h; exact h1 rfl) (fun h => by subst h; exact h0 rfl)) h2
theorem GoL.segO (n d t : Nat) (ks : List Nat) (ht : look L t = some (.bool b)) (h1 : b = false → GoL P W N O (SegQ W N Q d (.bool e) ks L H) (ops.take n) ((t, some (.bool false)) :: L) H) (h0 : b = true → GoL P W N O (SegQ W N Q d (.bool true) ks L H) (ops.take n) ((t, some (.bool true)) :: L) H)
    (h2 : GoL P W N O Q (ops.drop n) ((d, some (.bool (b || e))) :: (nones ks ++ L)) H) : GoL P W N O Q ops L H :=
  GoL.cut (v := .bool (b || e)) (ks := ks) n (.part ht (fun h => by subst h; exact h0 rfl) (fun h => by subst h; exact h1 rfl)) h2
theorem GoL.segAD (n d t : Nat) (ks : List Nat) (ht : look L t = some (.bool (decide p))) (h1 : p → GoL P W N O (SegQ W N Q d (.bool e) ks L H) (ops.take n) ((t, some (.bool true)) :: L) H) (h0 : ¬ p → GoL P W N O (SegQ W N Q d (.bool false) ks L H) (ops.take n) ((t, some (.bool false)) :: L) H)
    (h2 : GoL P W N O Q (ops.drop n) ((d, some (.bool (decide p && e))) :: (nones ks ++ L)) H) : GoL P W N O Q ops L H :=
  GoL.segA n d t ks ht (fun h => h1 (of_decide_eq_true h)) (fun h => h0 (of_decide_eq_false h)) h2
theorem GoL.segOD (n d t : Nat) (ks : List Nat) (ht : look L t = some (.bool (decide p))) (h1 : ¬ p → GoL P W N O (SegQ W N Q d (.bool e) ks L H) (ops.take n) ((t, some (.bool false)) :: L) H) (h0 : p → GoL P W N O (SegQ W N Q d (.bool true) ks L H) (ops.take n) ((t, some (.bool true)) :: L) H)
    (h2 : GoL P W N O Q (ops.drop n) ((d, some (.bool (decide p || e))) :: (nones ks ++ L)) H) : GoL P W N O Q ops L H :=
  GoL.segO n d t ks ht (fun h => h1 (of_decide_eq_false h)) (fun h => h0 (of_decide_eq_true h)) h2
theorem GoK.segA (n d t : Nat) (ks : List Nat) (ht : look L t = some (.bool b)) (h1 : b = true → GoK P W N K O (SegQ W N Q d (.bool e) ks L H) (kd.take n) (ops.take n) ((t, some (.bool true)) :: L) H) (h0 : b = false → GoK P W N K O (SegQ W N Q d (.bool false) ks L H) (kd.take n) (ops.take n) ((t, some (.bool false)) :: L) H)
    (h2 : GoK P W N K O Q (kd.drop n) (ops.drop n) ((d, some (.bool (b && e))) :: (nones ks ++ L)) H) : GoK P W N K O Q kd ops L H :=
  GoK.cut (v := .bool (b && e)) (ks := ks) n (.part ht (fun h => by subst h; exact h1 rfl) (fun h => by subst h; exact h0 rfl)) h2
theorem GoK.segO (n d t : Nat) (ks : List Nat) (ht : look L t = some (.bool b)) (h1 : b = false → GoK P W N K O (SegQ W N Q d (.bool e) ks L H) (kd.take n) (ops.take n) ((t, some (.bool false)) :: L) H) (h0 : b = true → GoK P W N K O (SegQ W N Q d (.bool true) ks L H) (kd.take n) (ops.take n) ((t, some (.bool true)) :: L) H)
    (h2 : GoK P W N K O Q (kd.drop n) (ops.drop n) ((d, some (.bool (b || e))) :: (nones ks ++ L)) H) : GoK P W N K O Q kd ops L H :=
  GoK.cut (v := .bool (b || e)) (ks := ks) n (.part ht (fun h => by subst h; exact h0 rfl) (fun h => by subst h; exact h1 rfl)) h2
theorem GoK.segAD (n d t : Nat) (ks : List Nat) (ht : look L t = some (.bool (decide p))) (h1 : p → GoK P W N K O (SegQ W N Q d (.bool e) ks L H) (kd.take n) (ops.take n) ((t, some (.bool true)) :: L) H) (h0 : ¬ p → GoK P W N K O (SegQ W N Q d (.bool false) ks L H) (kd.take n) (ops.take n) ((t, some (.bool false)) :: L) H)
    (h2 : GoK P W N K O Q (kd.drop n) (ops.drop n) ((d, some (.bool (decide p && e))) :: (nones ks ++ L)) H) : GoK P W N K O Q kd ops L H :=
  GoK.segA n d t ks ht (fun h => h1 (of_decide_eq_true h)) (fun h => h0 (of_decide_eq_false h)) h2
theorem GoK.segOD (n d t : Nat) (ks : List Nat) (ht : look L t = some (.bool (decide p))) (h1 : ¬ p → GoK P W N K O (SegQ W N Q d (.bool e) ks L H) (kd.take n) (ops.take n) ((t, some (.bool false)) :: L) H) (h0 : p → GoK P W N K O (SegQ W N Q d (.bool true) ks L H) (kd.take n) (ops.take n) ((t, some (.bool true)) :: L) H)
    (h2 : GoK P W N K O Q (kd.drop n) (ops.drop n) ((d, some (.bool (decide p || e))) :: (nones ks ++ L)) H) : GoK P W N K O Q kd ops L H :=
  GoK.segO n d t ks ht (fun h => h1 (of_decide_eq_false h)) (fun h => h0 (of_decide_eq_true h)) h2
/-- The end of a guarded part. -/
theorem GoE.seg {d : Nat} {v : Value} {ks : List Nat} {L0 : List (Nat × Option Value)} {H0 : List HProp} (t : Top ks L L0) (hv : look L d = some v) (hH : ∀ w, Sat W w (seps H) → Sat W w (seps H0)) : GoE W N (SegQ W N Q d v ks L0 H0) .normal L H :=
  GoE.midK () t trivial ⟨hv, trivial⟩ hH
/-- A branch on '&&', on '||'. -/
theorem GoC.condS {c : Operand} {x y : Code} (hc : ev L c = some (.bool b)) (ht : b = true → GoC P W N Q x L H) (hf : b = false → GoC P W N Q y L H) : GoC P W N Q (.cond c x y) L H := .cond hc ht hf
end
end
end Go.SLYtkflpgknieoknaa
