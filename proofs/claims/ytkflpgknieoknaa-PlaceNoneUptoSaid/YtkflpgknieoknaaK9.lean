/- Sharing, seen from the owners alone. Conditions: none, this text proves no statement. -/
import Derived.Test.YtkflpgknieoknaaK8
namespace Go.SLYtkflpgknieoknaa
open Go Go.RowKit

theorem pos_ge {n : Int} : ∀ {o : List Int} {k : Nat}, ∀ p ∈ posFrom n o k, (k : Int) ≤ p
  | [], _, _, h => by cases h
  | x :: o, k, p, h => by
    rw [posFrom] at h
    split at h
    · rcases List.mem_cons.1 h with e | e
      · omega
      · have := pos_ge p e; omega
    · have := pos_ge p h; omega
theorem pos_len (n : Int) : ∀ (o : List Int) (k : Nat), (posFrom n o k).length = o.count n
  | [], _ => rfl
  | x :: o, k => by
    rw [posFrom, List.count_cons]
    by_cases e : x = n
    · rw [if_pos e, List.length_cons, pos_len n o, if_pos (by simpa using e)]
    · rw [if_neg e, pos_len n o, if_neg (by simpa using e)]; rfl
theorem foldl_min_ge : ∀ (l : List Int) (x : Int), (∀ y ∈ l, x ≤ y) → l.foldl min x = x
  | [], _, _ => rfl
  | y :: l, x, h => by
    rw [List.foldl_cons, show min x y = x from by have := h y (List.mem_cons_self ..); omega]
    exact foldl_min_ge l x fun z hz => h z (List.mem_cons_of_mem _ hz)
theorem min_pos (n : Int) : ∀ (o : List Int) (k : Nat), minOf (posFrom n o k) = (posFrom n o k).headD 0
  | [], _ => rfl
  | x :: o, k => by
    rw [posFrom]
    split
    · exact foldl_min_ge _ _ fun y hy => by
        have := pos_ge y hy
        show (k : Int) ≤ y
        omega
    · exact min_pos n o (k + 1)
/-- The first that lies free, and the rest. -/
theorem pos_head (n : Int) : ∀ {o : List Int} {k : Nat} {p : Int} {r : List Int}, posFrom n o k = p :: r → ∃ i : Nat, p = ((k + i : Nat) : Int) ∧ o[i]? = some n
  | [], _, _, _, h => by cases h
  | x :: o, k, p, r, h => by
    rw [posFrom] at h
    split at h
    · rename_i e
      exact ⟨0, (List.cons.inj h).1.symm, by rw [e]; rfl⟩
    · obtain ⟨i, e, hi⟩ := pos_head n h
      exact ⟨i + 1, by rw [e]; congr 1; omega, by simpa using hi⟩
theorem free_head {k : Krn} (h : 0 < k.owner.count (-1)) : ∃ (i : Nat) (r : List Int), k.free = (i : Int) :: r ∧ k.owner[i]? = some (-1) ∧ minOf k.free = (i : Int) := by
  have hf : k.free = posFrom (-1) k.owner 0 := free_pos _ _
  cases e : posFrom (-1) k.owner 0 with
  | nil => have := pos_len (-1) k.owner 0; rw [e] at this; simp at this; omega
  | cons p r =>
    obtain ⟨i, rfl, hi⟩ := pos_head (-1) e
    rw [Nat.zero_add] at *
    exact ⟨i, r, hf.trans e, hi, by rw [hf, min_pos, e]; rfl⟩

/-! counting -/
def cntTo (o : List Int) : Nat → Nat
  | 0 => 0
  | L + 1 => cntTo o L + o.count (L : Int)
theorem cnt_cons (x : Int) (o : List Int) : ∀ L, cntTo (x :: o) L = cntTo o L + (if 0 ≤ x ∧ x < (L : Int) then 1 else 0)
  | 0 => by rw [cntTo, cntTo, if_neg (by omega)]
  | L + 1 => by
    rw [cntTo, cntTo, cnt_cons x o L, List.count_cons]
    by_cases e : x = (L : Int)
    · subst e; rw [if_neg (by omega), if_pos (by simp), if_pos (by omega)]; omega
    · rw [if_neg (show ¬ (x == (L : Int)) = true by simpa using e)]
      by_cases e2 : 0 ≤ x ∧ x < (L : Int)
      · rw [if_pos e2, if_pos (by omega)]; omega
      · rw [if_neg e2, if_neg (by omega)]; omega
theorem cnt_all {L : Nat} : ∀ {o : List Int}, (∀ v ∈ o, v = -1 ∨ (0 ≤ v ∧ v < (L : Int))) → o.length = o.count (-1) + cntTo o L
  | [], _ => by induction L with
    | zero => rfl
    | succ L ih => rw [cntTo]; simpa using ih (by simp)
  | x :: o, h => by
    have ih := cnt_all (L := L) (o := o) fun v hv => h v (List.mem_cons_of_mem _ hv)
    rw [List.length_cons, List.count_cons, cnt_cons, ih]
    rcases h x (List.mem_cons_self ..) with e | e
    · rw [if_pos (by simpa using e), if_neg (by omega)]; omega
    · rw [if_neg (by simp; omega), if_pos e]; omega
def natSum (l : List Int) : Nat := (l.map Int.toNat).sum
theorem natSum_snoc (l : List Int) (x : Int) : natSum (l ++ [x]) = natSum l + x.toNat := by unfold natSum; rw [List.map_append, List.sum_append]; simp
theorem cnt_le {o want : List Int} (h : ∀ (i : Nat) (w : Int), want[i]? = some w → o.count (i : Int) ≤ w.toNat) : ∀ L ≤ want.length, cntTo o L ≤ natSum (want.take L)
  | 0, _ => Nat.zero_le _
  | L + 1, hL => by
    obtain ⟨w, hw⟩ := at_some (show L < want.length by omega)
    rw [cntTo, take_snoc hw, natSum_snoc]
    have := cnt_le h L (by omega)
    have := h L w hw
    omega
theorem cnt_lt {o want : List Int} (h : ∀ (i : Nat) (w : Int), want[i]? = some w → o.count (i : Int) ≤ w.toNat) {n : Nat} {w : Int} (hw : want[n]? = some w) (hl : o.count (n : Int) < w.toNat) : ∀ L ≤ want.length, n < L → cntTo o L < natSum (want.take L)
  | 0, _, hn => absurd hn (by omega)
  | L + 1, hL, hn => by
    obtain ⟨x, hx⟩ := at_some (show L < want.length by omega)
    rw [cntTo, take_snoc hx, natSum_snoc]
    by_cases e : n = L
    · subst e
      rw [hw] at hx
      obtain rfl := Option.some.inj hx
      have := cnt_le h n (by omega)
      omega
    · have := cnt_lt h hw hl L (by omega) (by omega)
      have := h L x hx
      omega
/-- What is wanted has room. -/
structure Room (want : List Int) (k : Krn) : Prop where
  len : want.length = k.libs.length
  sum : natSum want ≤ k.owner.length
  cnt : ∀ (i : Nat) (w : Int), want[i]? = some w → k.owner.count (i : Int) ≤ w.toNat
theorem Room.free {want : List Int} {k : Krn} {m : Nat} (h : Room want k) (hk : KOk m k) {n : Nat} {w : Int} (hw : want[n]? = some w) (hl : k.owner.count (n : Int) < w.toNat) : 0 < k.owner.count (-1) := by
  have hn := (List.getElem?_eq_some_iff.1 hw).1
  have h1 := cnt_lt h.cnt hw hl want.length (Nat.le_refl _) hn
  rw [List.take_length, h.len] at h1
  have h2 := cnt_all hk.own
  have := h.sum
  omega
theorem count_set {o : List Int} {i : Nat} {a b : Int} (h : o[i]? = some a) (n : Int) : (o.set i b).count n + (if a = n then 1 else 0) = o.count n + (if b = n then 1 else 0) := by
  induction o generalizing i with
  | nil => simp at h
  | cons x o ih =>
    cases i with
    | zero =>
      simp at h; subst h
      rw [List.set_cons_zero, List.count_cons, List.count_cons]
      by_cases e1 : x = n <;> by_cases e2 : b = n <;> simp [e1, e2]
    | succ i =>
      have := ih (i := i) (by simpa using h)
      rw [List.set_cons_succ, List.count_cons, List.count_cons]
      omega
theorem Room.give {want : List Int} {k : Krn} (h : Room want k) {n i : Nat} {w : Int} {l : Lib} (hw : want[n]? = some w) (hl : k.owner.count (n : Int) < w.toNat) (ho : k.owner[i]? = some (-1)) (hb : k.libs[n]? = some l) : Room want (k.give (i : Int) (n : Int)).2 ∧ (k.give (i : Int) (n : Int)).2.owner.count (n : Int) = k.owner.count (n : Int) + 1 := by
  rw [give_yes ho hb]
  have h0 := count_set (b := (n : Int)) ho (n : Int)
  rw [if_neg (by omega), if_pos rfl] at h0
  refine ⟨⟨by rw [h.len]; exact (List.length_set ..).symm, by show _ ≤ (k.owner.set i (n : Int)).length; rw [List.length_set]; exact h.sum, fun j x hx => ?_⟩, by simpa using h0⟩
  show (k.owner.set i (n : Int)).count (j : Int) ≤ x.toNat
  by_cases e : n = j
  · subst e
    rw [hw] at hx
    obtain rfl := Option.some.inj hx
    omega
  · have h1 := count_set (b := (n : Int)) ho (j : Int)
    rw [if_neg (by omega), if_neg (by omega)] at h1
    have := h.cnt j x hx
    omega

/-! what is taken -/
def trim (n : Int) : Nat → List Int → List Int
  | _, [] => []
  | 0, x :: o => if x = n then -1 :: trim n 0 o else x :: trim n 0 o
  | w + 1, x :: o => if x = n then x :: trim n w o else x :: trim n (w + 1) o
def setAll (k : Nat) : List Int → List Int → List Int
  | [], o => o
  | p :: ps, o => setAll k ps (o.set (p.toNat - k) (-1))
theorem setAll_cons {k : Nat} {x : Int} : ∀ {ps o : List Int}, (∀ p ∈ ps, ((k + 1 : Nat) : Int) ≤ p) → setAll k ps (x :: o) = x :: setAll (k + 1) ps o
  | [], _, _ => rfl
  | p :: ps, o, h => by
    have hp := h p (List.mem_cons_self ..)
    rw [setAll, setAll, show p.toNat - k = (p.toNat - (k + 1)) + 1 from by omega, List.set_cons_succ]
    exact setAll_cons fun q hq => h q (List.mem_cons_of_mem _ hq)
theorem setAll_trim (n : Int) : ∀ (o : List Int) (k w : Nat), setAll k ((posFrom n o k).drop w) o = trim n w o
  | [], k, w => by
    rw [posFrom, List.drop_nil]; cases w <;> rfl
  | x :: o, k, 0 => by
    rw [posFrom, trim]
    by_cases e : x = n
    · rw [if_pos e, if_pos e, List.drop_zero, setAll, show ((k : Int)).toNat - k = 0 from by omega, List.set_cons_zero, setAll_cons (fun p hp => pos_ge p hp)]
      have := setAll_trim n o (k + 1) 0
      rw [List.drop_zero] at this
      rw [this]
    · rw [if_neg e, if_neg e, List.drop_zero, setAll_cons (fun p hp => pos_ge p hp)]
      have := setAll_trim n o (k + 1) 0
      rw [List.drop_zero] at this
      rw [this]
  | x :: o, k, w + 1 => by
    rw [posFrom, trim]
    by_cases e : x = n
    · rw [if_pos e, if_pos e, List.drop_succ_cons, setAll_cons (fun p hp => pos_ge p (List.mem_of_mem_drop hp)), setAll_trim n o (k + 1) w]
    · rw [if_neg e, if_neg e, setAll_cons (fun p hp => pos_ge p (List.mem_of_mem_drop hp)), setAll_trim n o (k + 1) (w + 1)]
theorem trim_count (n j : Int) (hj : j ≠ -1) (hn : n ≠ -1) : ∀ (o : List Int) (w : Nat), (trim n w o).count j = if j = n then min w (o.count n) else o.count j
  | [], w => by cases w <;> simp [trim]
  | x :: o, 0 => by
    rw [trim]
    have ih := trim_count n j hj hn o 0
    by_cases e : x = n
    · rw [if_pos e, List.count_cons_of_ne (fun e => hj e.symm), ih]
      by_cases e2 : j = n
      · rw [if_pos e2, if_pos e2]; omega
      · rw [if_neg e2, if_neg e2, List.count_cons_of_ne (fun e3 => e2 (by rw [← e3, e]))]
    · rw [if_neg e]
      by_cases e2 : j = n
      · rw [List.count_cons_of_ne (fun e3 => e (by rw [e3, e2])), ih, if_pos e2, if_pos e2]; omega
      · rw [if_neg e2, List.count_cons, List.count_cons, ih, if_neg e2]
  | x :: o, w + 1 => by
    rw [trim]
    by_cases e : x = n
    · rw [if_pos e]
      have ih := trim_count n j hj hn o w
      by_cases e2 : j = n
      · rw [if_pos e2] at ih ⊢
        subst e2 e
        rw [List.count_cons_self, List.count_cons_self, ih]; omega
      · rw [if_neg e2] at ih ⊢
        rw [List.count_cons, List.count_cons, ih]
    · rw [if_neg e]
      have ih := trim_count n j hj hn o (w + 1)
      by_cases e2 : j = n
      · rw [if_pos e2] at ih ⊢
        rw [List.count_cons_of_ne (fun e3 => e (by rw [e3, e2])), ih, List.count_cons_of_ne e]
      · rw [if_neg e2] at ih ⊢
        rw [List.count_cons, List.count_cons, ih]
theorem take_owner {m : Nat} {k : Krn} (h : KOk m k) {p : Int} (hp : 0 ≤ p) : (k.take p).2.owner = k.owner.set p.toNat (-1) := by
  by_cases e : mineE k p = 0
  · obtain ⟨i, n, l, rfl, ho, hl, e⟩ := mine_ok h e
    rw [e]; rfl
  · rw [mine_bad e]
    show k.owner = _
    unfold mineE geti at e
    rw [if_neg (by omega)] at e
    cases e2 : k.owner[p.toNat]? with
    | none => rw [List.set_eq_of_length_le (by simpa using e2)]
    | some o =>
      rw [e2] at e
      simp only at e
      by_cases e3 : o = -1
      · subst e3
        refine List.ext_getElem? fun i => ?_
        by_cases e4 : p.toNat = i
        · subst e4; rw [List.getElem?_set_self (List.getElem?_eq_some_iff.1 e2).1, e2]
        · rw [List.getElem?_set_ne e4]
      · rw [if_neg e3] at e; exact absurd rfl e
theorem takeAll_facts : ∀ (ps : List Int) {m : Nat} {k : Krn}, Inv m k → (∀ p ∈ ps, 0 ≤ p) → Inv (m + 2 * ps.length) (takeAll ps k) ∧ (takeAll ps k).owner = setAll 0 ps k.owner ∧ (takeAll ps k).libs.length = k.libs.length
  | [], m, k, h, _ => ⟨h, rfl, rfl⟩
  | p :: ps, m, k, h, hp => by
    obtain ⟨h1, h2, h3⟩ := takeAll_facts ps (h.take p) fun q hq => hp q (List.mem_cons_of_mem _ hq)
    refine ⟨⟨h1.ok.up (by simp; omega), h1.ag⟩, ?_, ?_⟩
    · show (takeAll ps (k.take p).2).owner = _
      rw [h2, take_owner h.ok (hp p (List.mem_cons_self ..))]; rfl
    · show (takeAll ps (k.take p).2).libs.length = _
      rw [h3]
      by_cases e : mineE k p = 0
      · obtain ⟨i, n, l, rfl, ho, hl, e⟩ := mine_ok h.ok e
        rw [e]; exact List.length_set ..
      · rw [mine_bad e]
theorem take_len {m : Nat} {k : Krn} (h : KOk m k) (p : Int) : (k.take p).2.libs.length = k.libs.length ∧ (k.take p).2.owner.length = k.owner.length := by
  by_cases e : mineE k p = 0
  · obtain ⟨i, n, l, rfl, ho, hl, e⟩ := mine_ok h e
    rw [e]; exact ⟨List.length_set .., List.length_set ..⟩
  · rw [mine_bad e]; exact ⟨rfl, rfl⟩
end Go.SLYtkflpgknieoknaa
