/- What AllocMoves works out for itself is what sharing does. Conditions: none, this text proves no statement. -/
import Derived.Test.YtkflpgknieoknaaK12
namespace Go.SLYtkflpgknieoknaa
open Go Go.RowKit

def fill (n : Int) : Nat → List Int → List Int
  | _, [] => []
  | 0, x :: o => x :: o
  | c + 1, x :: o => if x < 0 then n :: fill n c o else x :: fill n (c + 1) o
theorem fill_zero (n : Int) (o : List Int) : fill n 0 o = o := by cases o <;> rfl
theorem fill_len (n : Int) : ∀ (o : List Int) (c : Nat), (fill n c o).length = o.length
  | [], c => by cases c <;> rfl
  | x :: o, 0 => rfl
  | x :: o, c + 1 => by rw [fill]; split <;> simp [fill_len n o]
theorem fill_none (n : Int) : ∀ (o : List Int) (c : Nat), (∀ v ∈ o, 0 ≤ v) → fill n c o = o
  | [], c, _ => by cases c <;> rfl
  | x :: o, 0, _ => rfl
  | x :: o, c + 1, h => by
    have := h x (List.mem_cons_self ..)
    rw [fill, if_neg (by omega), fill_none n o (c + 1) fun v hv => h v (List.mem_cons_of_mem _ hv)]
theorem fill_step (n : Int) (c : Nat) : ∀ {o : List Int} {k : Nat} {i : Nat} {r : List Int}, (∀ v ∈ o, v = -1 ∨ 0 ≤ v) → posFrom (-1) o k = ((k + i : Nat) : Int) :: r → fill n (c + 1) o = fill n c (o.set i n) ∨ n < 0
  | [], _, _, _, _, h => by cases h
  | x :: o, k, i, r, hv, h => by
    by_cases hn : n < 0
    · exact .inr hn
    · left
      rw [posFrom] at h
      by_cases e : x = -1
      · rw [if_pos e] at h
        have := (List.cons.inj h).1
        obtain rfl : i = 0 := by omega
        rw [List.set_cons_zero, fill, if_pos (by omega)]
        cases c with
        | zero => rw [fill_zero, fill_zero]
        | succ c => rw [fill, if_neg hn]
      · rw [if_neg e] at h
        have hx := hv x (List.mem_cons_self ..)
        obtain ⟨j, hj⟩ : ∃ j, i = j + 1 := by
          refine ⟨i - 1, ?_⟩
          have := pos_ge _ (show ((k + i : Nat) : Int) ∈ posFrom (-1) o (k + 1) by rw [h]; exact List.mem_cons_self ..)
          omega
        subst hj
        rw [fill, if_neg (by omega), List.set_cons_succ]
        have h' : posFrom (-1) o (k + 1) = (((k + 1) + j : Nat) : Int) :: r := by rw [h]; congr 2; omega
        rcases fill_step n c (fun v h => hv v (List.mem_cons_of_mem _ h)) h' with e2 | e2
        · rw [e2]
          cases c with
          | zero => rw [fill_zero, fill_zero]
          | succ c => rw [fill, if_neg (by omega)]
        · exact absurd e2 hn
theorem own_ge {m : Nat} {k : Krn} (h : KOk m k) : ∀ v ∈ k.owner, v = -1 ∨ 0 ≤ v := fun v hv => (h.own v hv).imp id fun e => e.1
theorem giveTo_owner {n : Nat} : ∀ (c : Nat) {m : Nat} {k : Krn}, Inv m k → n < k.libs.length → (giveTo c (n : Int) k).owner = fill (n : Int) c k.owner
  | 0, m, k, h, _ => (fill_zero _ _).symm
  | c + 1, m, k, h, hn => by
    obtain ⟨g1, g2, g3, g4⟩ := give_any h (k.free.headD 0) (n : Int)
    rw [giveTo, giveTo_owner c g1 (by rw [g4]; exact hn)]
    by_cases h0 : 0 < k.owner.count (-1)
    · obtain ⟨i, r, hf, hoi, _⟩ := free_head h0
      obtain ⟨l, hl⟩ := at_some hn
      rw [hf, List.headD_cons, give_yes hoi hl]
      have hf' : posFrom (-1) k.owner 0 = ((0 + i : Nat) : Int) :: r := by rw [← free_pos, Nat.zero_add]; exact hf
      rcases fill_step (n : Int) c (own_ge h.ok) hf' with e | e
      · exact e.symm
      · omega
    · have hnn : ∀ v ∈ k.owner, 0 ≤ v := fun v hv => (own_ge h.ok v hv).resolve_left fun e => h0 (by rw [← e]; exact List.count_pos_iff.2 hv)
      have hs : (k.give (k.free.headD 0) (n : Int)).2 = k := (give_cases k (k.free.headD 0) (n : Int)).resolve_right fun ⟨i, j, l, _, _, ho, _, _⟩ => by
        have := hnn _ (List.mem_of_getElem? ho); omega
      rw [hs, fill_none _ _ _ hnn, fill_none _ _ _ hnn]
def fills : List Int → Nat → List Int → List Int
  | [], _, o => o
  | w :: l, n, o => fills l (n + 1) (fill (n : Int) (w.toNat - o.count (n : Int)) o)
theorem giveFrom_owner : ∀ (l : List Int) (n mv : Nat) {m : Nat} {k : Krn}, Inv m k → n + l.length ≤ k.libs.length → (giveFrom l n (k, mv)).1.owner = fills l n k.owner
  | [], _, _, _, _, _, _ => rfl
  | w :: l, n, mv, m, k, h, hl => by
    simp only [List.length_cons] at hl
    obtain ⟨h1, h2⟩ := giveTo_kept (n : Int) (w.toNat - k.owner.count (n : Int)) h
    rw [giveFrom, fills, libProcs_len h (by omega), giveFrom_owner l (n + 1) _ h1 (by rw [h2.ll]; omega), giveTo_owner _ h (by omega)]
theorem share_owner {m : Nat} {k : Krn} (h : Inv m k) (prio : List Int) (turn : Int) : (k.share prio turn).1.owner = fills (k.targets prio turn) 0 (trims (k.targets prio turn) 0 k.owner) := by
  have htf := targets_facts h.ok prio turn
  obtain ⟨h1, h2⟩ := takeFrom_kept (k.targets prio turn) 0 0 h (by omega)
  unfold Krn.share
  rw [pairEta (takeFrom (k.targets prio turn) 0 (k, 0)), giveFrom_owner _ _ _ h1 (by rw [h2.ll]; omega), (takeFrom_facts _ 0 0 h (by omega)).2.1]
/-- With priorities that are all nought everybody is dealt with. -/
theorem targets_all {m : Nat} {k : Krn} (h : KOk m k) (turn : Int) : (k.targets (List.replicate k.libs.length 0) turn).length = k.libs.length := by
  have hd : k.demand.length = k.libs.length := List.length_map ..
  have h1 : k.demand.length = (List.replicate k.libs.length (0 : Int)).length ∧ k.demand.length ≤ 8 ∧ within (k.owner.length : Int) 64 = true := by
    refine ⟨by rw [hd, List.length_replicate], by have := h.ll; omega, ?_⟩
    have := h.ol
    unfold within; simp; omega
  have h2 : (List.replicate k.libs.length (0 : Int)).all (fun p => within p 7) = true := List.all_eq_true.2 fun p hp => by rw [List.eq_of_mem_replicate hp]; rfl
  by_cases h0 : k.demand.length = 0
  · unfold Krn.targets; rw [fair_nil h1 h2 h0]; show 0 = _; omega
  · unfold Krn.targets
    rw [fair_yes h1 h2 h0]
    have := (fair_facts (turn := turn) (dem_le h) (fair_yes h1 h2 h0)).1
    show (priosN _ _ _).out.length = _
    omega
theorem trims_snoc : ∀ (l : List Int) (n : Nat) (o : List Int) (w : Int), trims (l ++ [w]) n o = trim ((n + l.length : Nat) : Int) w.toNat (trims l n o)
  | [], n, o, w => rfl
  | x :: l, n, o, w => by
    rw [List.cons_append, trims, trims, trims_snoc l (n + 1), List.length_cons, show n + 1 + l.length = n + (l.length + 1) from by omega]
theorem fills_snoc : ∀ (l : List Int) (n : Nat) (o : List Int) (w : Int), fills (l ++ [w]) n o = fill ((n + l.length : Nat) : Int) (w.toNat - (fills l n o).count ((n + l.length : Nat) : Int)) (fills l n o)
  | [], n, o, w => rfl
  | x :: l, n, o, w => by
    rw [List.cons_append, fills, fills, fills_snoc l (n + 1), List.length_cons, show n + 1 + l.length = n + (l.length + 1) from by omega]
theorem trims_next {want o : List Int} {s : Nat} {w : Int} (hw : want[s]? = some w) : trims (want.take (s + 1)) 0 o = trim (s : Int) w.toNat (trims (want.take s) 0 o) := by
  have := (List.getElem?_eq_some_iff.1 hw).1
  rw [take_snoc hw, trims_snoc, List.length_take, Nat.min_eq_left (by omega), Nat.zero_add]
theorem fills_next {want o : List Int} {s : Nat} {w : Int} (hw : want[s]? = some w) : fills (want.take (s + 1)) 0 o = fill (s : Int) (w.toNat - (fills (want.take s) 0 o).count (s : Int)) (fills (want.take s) 0 o) := by
  have := (List.getElem?_eq_some_iff.1 hw).1
  rw [take_snoc hw, fills_snoc, List.length_take, Nat.min_eq_left (by omega), Nat.zero_add]
theorem fills_len : ∀ (l : List Int) (n : Nat) (o : List Int), (fills l n o).length = o.length
  | [], _, _ => rfl
  | w :: l, n, o => by rw [fills, fills_len l, fill_len]
/-! one place after another -/
theorem set_take {o : List Int} {j : Nat} (b : Int) (hj : j < o.length) : (o.set j b).take (j + 1) = o.take j ++ [b] := by
  have : (o.set j b)[j]? = some b := List.getElem?_set_self hj
  rw [take_snoc this, List.take_set_of_le (Nat.le_refl _)]
theorem set_drop {o : List Int} {j : Nat} (b : Int) : (o.set j b).drop (j + 1) = o.drop (j + 1) := List.drop_set_of_lt (by omega)
theorem trim_hit {T o : List Int} {j : Nat} {s x : Int} (h : T = o.take j ++ trim s 0 (o.drop j)) (hx : o[j]? = some x) (he : x = s) : T = (o.set j (-1)).take (j + 1) ++ trim s 0 ((o.set j (-1)).drop (j + 1)) := by
  rw [h, set_take _ (List.getElem?_eq_some_iff.1 hx).1, set_drop, drop_cons hx, trim, if_pos he]; simp
theorem trim_keep {T o : List Int} {j l : Nat} {s x : Int} (h : T = o.take j ++ trim s (l + 1) (o.drop j)) (hx : o[j]? = some x) (he : x = s) : T = o.take (j + 1) ++ trim s l (o.drop (j + 1)) := by
  rw [h, drop_cons hx, trim, if_pos he, take_snoc hx]; simp
theorem trim_pass {T o : List Int} {j l : Nat} {s x : Int} (h : T = o.take j ++ trim s l (o.drop j)) (hx : o[j]? = some x) (he : x ≠ s) : T = o.take (j + 1) ++ trim s l (o.drop (j + 1)) := by
  rw [h, drop_cons hx, take_snoc hx]
  cases l with
  | zero => rw [trim, if_neg he]; simp
  | succ l => rw [trim, if_neg he]; simp
theorem fill_hit {T o : List Int} {j c : Nat} {s x : Int} (h : T = o.take j ++ fill s (c + 1) (o.drop j)) (hx : o[j]? = some x) (he : x < 0) : T = (o.set j s).take (j + 1) ++ fill s c ((o.set j s).drop (j + 1)) := by
  rw [h, set_take _ (List.getElem?_eq_some_iff.1 hx).1, set_drop, drop_cons hx, fill, if_pos he]; simp
theorem fill_pass {T o : List Int} {j c : Nat} {s x : Int} (h : T = o.take j ++ fill s (c + 1) (o.drop j)) (hx : o[j]? = some x) (he : ¬ x < 0) : T = o.take (j + 1) ++ fill s (c + 1) (o.drop (j + 1)) := by
  rw [h, drop_cons hx, take_snoc hx, fill, if_neg he]; simp
theorem owner_of {k : Krn} {i : Nat} {o : Int} (h : k.owner[i]? = some o) : k.ownerOf (i : Int) = if o = -1 then (0, false) else (o, true) := by
  unfold Krn.ownerOf; rw [geti_nat, h]
theorem count_snoc {o : List Int} {j : Nat} {x s : Int} (hx : o[j]? = some x) : (o.take (j + 1)).count s = (o.take j).count s + (if x = s then 1 else 0) := by
  rw [take_snoc hx, List.count_append, List.count_singleton]
  by_cases e : x = s
  · rw [if_pos e, if_pos (by simpa using e)]
  · rw [if_neg e, if_neg (by simpa using e)]
theorem own_fine {k : Krn} {j : Nat} {x : Int} (hx : k.owner[j]? = some x) (hv : x = -1 ∨ 0 ≤ x) : ((k.ownerOf (j : Int)).2 != decide (x ≥ 0)) = false ∧ ((k.ownerOf (j : Int)).2 && decide ((k.ownerOf (j : Int)).1 ≠ x)) = false := by
  rw [owner_of hx]
  by_cases e : x = -1
  · subst e; exact ⟨rfl, rfl⟩
  · rw [if_neg e]
    have h : 0 ≤ x := hv.resolve_left e
    exact ⟨by simp [h], by simp⟩
theorem own_yes {k : Krn} {j : Nat} {x : Int} (hx : k.owner[j]? = some x) (h : (k.ownerOf (j : Int)).2 = true) : (k.ownerOf (j : Int)).1 = x := by
  rw [owner_of hx] at *
  by_cases e : x = -1
  · rw [if_pos e] at h; cases h
  · rw [if_neg e]
theorem own_no {k : Krn} {j : Nat} {x : Int} (hx : k.owner[j]? = some x) (h : (k.ownerOf (j : Int)).2 = false) : x = -1 := by
  rw [owner_of hx] at h
  by_cases e : x = -1
  · exact e
  · rw [if_neg e] at h; cases h
theorem copy_step {o r : List Int} {j : Nat} {x : Int} (h : o.take j = r.take j) (hj : j < o.length) (hx : r[j]? = some x) : (o.set j x).take (j + 1) = r.take (j + 1) := by rw [set_take _ hj, take_snoc hx, h]
theorem fill_done {T o : List Int} {j c : Nat} {s : Int} (h : T = o.take j ++ fill s c (o.drop j)) (hc : o.length ≤ j ∨ c = 0) : T = o := by
  rw [h]
  rcases hc with e | e
  · rw [List.drop_of_length_le e, List.take_of_length_le e]; cases c <;> simp [fill]
  · subst e; rw [fill_zero, List.take_append_drop]
theorem trim_done {T o : List Int} {j c : Nat} {s : Int} (h : T = o.take j ++ trim s c (o.drop j)) (hc : o.length ≤ j) : T = o := by
  rw [h, List.drop_of_length_le hc, List.take_of_length_le hc]; cases c <;> simp [trim]
end Go.SLYtkflpgknieoknaa
