/- Owners and libraries agree; what giving and taking do to both. Conditions: none, this text proves no statement. -/
import Derived.Test.YtkflpgknieoknaaK7
namespace Go.SLYtkflpgknieoknaa
open Go Go.RowKit

def posFrom (n : Int) : List Int → Nat → List Int
  | [], _ => []
  | o :: l, k => if o = n then (k : Int) :: posFrom n l (k + 1) else posFrom n l (k + 1)
def pos (n : Int) (o : List Int) : List Int := posFrom n o 0
theorem free_pos : ∀ (o : List Int) (k : Nat), freeFrom o k = posFrom (-1) o k
  | [], _ => rfl
  | x :: o, k => by rw [freeFrom, posFrom, free_pos o (k + 1)]
structure Agree (k : Krn) : Prop where
  len : ∀ l ∈ k.libs, l.vs.length = k.owner.length
  ol : k.owner.length ≤ 64
  iff : ∀ (n : Nat) (l : Lib), k.libs[n]? = some l → ∀ p : Nat, modeAt l.vs (p : Int) ≠ 0 ↔ k.owner[p]? = some (n : Int)
theorem mode_nil (p : Nat) : modeAt [] (p : Int) = 0 := by simp [modeAt, Vsl.z]
theorem mode_zero (v : Vsl) (vs : List Vsl) : modeAt (v :: vs) ((0 : Nat) : Int) = v.mode := rfl
theorem mode_succ (v : Vsl) (vs : List Vsl) (p : Nat) : modeAt (v :: vs) ((p + 1 : Nat) : Int) = modeAt vs (p : Int) := by
  unfold modeAt; rw [Int.toNat_natCast, Int.toNat_natCast]; rfl
theorem pos_none {n : Int} : ∀ {o : List Int} {k : Nat}, (∀ p : Nat, o[p]? ≠ some n) → posFrom n o k = []
  | [], _, _ => rfl
  | x :: o, k, h => by
    rw [posFrom, if_neg (fun e => h 0 (by rw [e]; rfl))]
    exact pos_none fun p => h (p + 1)
theorem procs_none : ∀ {vs : List Vsl} {k : Nat}, (∀ p : Nat, modeAt vs (p : Int) = 0) → procsFrom vs k = []
  | [], _, _ => rfl
  | v :: vs, k, h => by
    rw [procsFrom, if_pos (by rw [← mode_zero v vs]; exact h 0)]
    exact procs_none fun p => by rw [← mode_succ v vs]; exact h (p + 1)
theorem procs_pos {n : Int} : ∀ {vs : List Vsl} {o : List Int} {k : Nat}, (∀ p : Nat, modeAt vs (p : Int) ≠ 0 ↔ o[p]? = some n) → procsFrom vs k = posFrom n o k
  | [], o, k, h => by
    rw [pos_none (fun p e => (h p).2 e (mode_nil p))]; rfl
  | v :: vs, [], k, h => by
    rw [procs_none (fun p => Decidable.of_not_not fun e => by have := (h p).1 e; simp at this)]; rfl
  | v :: vs, x :: o, k, h => by
    have ih := procs_pos (vs := vs) (o := o) (k := k + 1) fun p => by rw [← mode_succ v vs]; exact h (p + 1)
    have h0 := h 0
    rw [mode_zero] at h0
    rw [procsFrom, posFrom, ih]
    by_cases e : v.mode = 0
    · rw [if_pos e, if_neg (fun e2 => h0.2 (by rw [e2]; rfl) e)]
    · have : x = n := by simpa using h0.1 e
      rw [if_neg e, if_pos this]
theorem Agree.procs {k : Krn} (h : Agree k) {n : Nat} {l : Lib} (hl : k.libs[n]? = some l) : l.procs = pos (n : Int) k.owner := procs_pos (h.iff n l hl)
theorem Agree.libProcs {k : Krn} (h : Agree k) {n : Nat} (hn : n < k.libs.length) : libProcs k n = pos (n : Int) k.owner := by
  obtain ⟨l, hl⟩ := at_some hn
  unfold SLYtkflpgknieoknaa.libProcs; rw [getD_of hl, h.procs hl]

/-! what the libraries' steps do to the modes, to the events, to the space -/
theorem new_mode (l : List Ev) : (Vsl.new l).mode = 1 := rfl
theorem mode_set {vs : List Vsl} {i : Nat} (hi : i < vs.length) (v : Vsl) (p : Nat) : modeAt (vs.set i v) (p : Int) = if p = i then v.mode else modeAt vs (p : Int) := by
  unfold modeAt
  rw [Int.toNat_natCast, List.getD_eq_getElem?_getD, List.getD_eq_getElem?_getD]
  by_cases e : p = i
  · subst e; rw [if_pos rfl, List.getElem?_set_self hi]; rfl
  · rw [if_neg e, List.getElem?_set_ne (fun h => e h.symm)]
structure Same2 (l l' : Lib) : Prop where
  spc : l'.spc = l.spc
  rows : l'.rows = l.rows
  len : l'.vs.length = l.vs.length
theorem tell_same (l : Lib) (ys : List Ev) : Same2 l (l.tell ys) ∧ ∀ p : Nat, modeAt (l.tell ys).vs (p : Int) = 0 ↔ modeAt l.vs (p : Int) = 0 := by
  by_cases hy : ys = []
  · subst hy; rw [tell_nil]; exact ⟨⟨rfl, rfl, rfl⟩, fun p => Iff.rfl⟩
  · cases hp : l.procs with
    | nil => rw [tell_wait hy hp]; exact ⟨⟨rfl, rfl, rfl⟩, fun p => Iff.rfl⟩
    | cons q r =>
      obtain ⟨i, v, rfl, hv, hm⟩ := procs_head hp
      rw [tell_some hy hp hv]
      refine ⟨⟨rfl, rfl, List.length_set ..⟩, fun p => ?_⟩
      show modeAt (l.vs.set i (v.told ys)) (p : Int) = 0 ↔ _
      rw [mode_set (List.getElem?_eq_some_iff.1 hv).1]
      by_cases e : p = i
      · subst e; rw [if_pos rfl, ← mode_at hv]
        exact ⟨fun h => (by rw [show (v.told ys).mode = 1 from rfl] at h; omega), fun h => absurd h hm⟩
      · rw [if_neg e]
theorem sum_set {vs : List Vsl} {i : Nat} {v : Vsl} (h : vs[i]? = some v) (x : Vsl) : ((vs.set i x).map (fun v => v.evs.length)).sum + v.evs.length = (vs.map (fun v => v.evs.length)).sum + x.evs.length := by
  induction vs generalizing i with
  | nil => simp at h
  | cons y vs ih =>
    cases i with
    | zero => simp at h; subst h; simp; omega
    | succ i =>
      have := ih (i := i) (by simpa using h)
      simp only [List.set_cons_succ, List.map_cons, List.sum_cons]
      omega
theorem told_len (v : Vsl) (ys : List Ev) : (v.told ys).evs.length ≤ v.evs.length + 1 + ys.length := by
  have := strip_len v
  show (v.strip ++ ys).length ≤ _
  rw [List.length_append]; omega
theorem tell_ev (l : Lib) (ys : List Ev) : evSum (l.tell ys) ≤ evSum l + 1 + ys.length := by
  by_cases hy : ys = []
  · subst hy; rw [tell_nil]; omega
  · cases hp : l.procs with
    | nil => rw [tell_wait hy hp]; unfold evSum; simp only [List.length_append]; omega
    | cons q r =>
      obtain ⟨i, v, rfl, hv, hm⟩ := procs_head hp
      rw [tell_some hy hp hv]
      unfold evSum
      have := sum_set hv (v.told ys)
      have := told_len v ys
      simp only
      omega
theorem revoke_ev (l : Lib) (p : Int) : evSum (l.revoke p).2 ≤ evSum l + 2 := by
  by_cases h : l.has p = true
  · obtain ⟨i, v, rfl, hv⟩ := has_nat (has_in h)
    rw [revoke_yes h hv]
    have h1 := tell_ev { l with vs := l.vs.set i Vsl.z } v.strip
    have h2 := sum_set hv Vsl.z
    have h3 := strip_len v
    simp only [Vsl.z] at h1 h2 ⊢
    unfold evSum at *
    simp only [List.length_nil, Nat.add_zero] at *
    omega
  · rw [revoke_no (by simpa using h)]; exact Nat.le_add_right ..
theorem grant_ev (l : Lib) (p : Int) : evSum (l.grant p).2 ≤ evSum l + 2 := by
  by_cases h1 : libIn l p = true
  · cases h : l.has p with
    | true => rw [grant_no (.inr h)]; exact Nat.le_add_right ..
    | false =>
      obtain ⟨i, v, rfl, hv, e⟩ := grant_yes h1 h
      rw [e]
      have h2 := sum_set hv (Vsl.new (⟨1, -1, 0⟩ :: l.waiting))
      unfold evSum
      simp only [Vsl.new, List.length_cons, List.length_nil] at *
      omega
  · rw [grant_no (.inl (by simpa using h1))]; exact Nat.le_add_right ..
theorem grant_same (l : Lib) (p : Int) : Same2 l (l.grant p).2 := by
  by_cases h1 : libIn l p = true
  · cases h : l.has p with
    | true => rw [grant_no (.inr h)]; exact ⟨rfl, rfl, rfl⟩
    | false => obtain ⟨i, v, rfl, hv, e⟩ := grant_yes h1 h; rw [e]; exact ⟨rfl, rfl, List.length_set ..⟩
  · rw [grant_no (.inl (by simpa using h1))]; exact ⟨rfl, rfl, rfl⟩
theorem revoke_same (l : Lib) (p : Int) : Same2 l (l.revoke p).2 := by
  by_cases h : l.has p = true
  · obtain ⟨i, v, rfl, hv⟩ := has_nat (has_in h)
    rw [revoke_yes h hv]
    obtain ⟨⟨a, b, c⟩, _⟩ := tell_same { l with vs := l.vs.set i Vsl.z } v.strip
    exact ⟨a, b, c.trans (List.length_set ..)⟩
  · rw [revoke_no (by simpa using h)]; exact ⟨rfl, rfl, rfl⟩
theorem has_mode {l : Lib} {i : Nat} (hi : i < l.vs.length) : l.has (i : Int) = decide (modeAt l.vs (i : Int) ≠ 0) := by
  rw [lib_has, show libIn l (i : Int) = true from by unfold libIn; simp [hi], Bool.true_and]
theorem grant_mode {l : Lib} {i : Nat} (hi : i < l.vs.length) (p : Nat) : modeAt (l.grant (i : Int)).2.vs (p : Int) ≠ 0 ↔ modeAt l.vs (p : Int) ≠ 0 ∨ p = i := by
  cases h : l.has (i : Int) with
  | true =>
    rw [grant_no (.inr h)]
    rw [has_mode hi, decide_eq_true_eq] at h
    exact ⟨.inl, fun e => e.elim id fun e => by rw [e]; exact h⟩
  | false =>
    obtain ⟨j, v, e1, hv, e⟩ := grant_yes (show libIn l (i : Int) = true from by unfold libIn; simp [hi]) h
    obtain rfl : i = j := by omega
    rw [e]
    show modeAt (l.vs.set i _) (p : Int) ≠ 0 ↔ _
    rw [mode_set hi]
    by_cases e : p = i
    · rw [if_pos e]; exact ⟨fun _ => .inr e, fun _ => by rw [new_mode]; omega⟩
    · rw [if_neg e]; exact ⟨.inl, fun h => h.resolve_right e⟩
theorem revoke_mode {l : Lib} {i : Nat} (hi : i < l.vs.length) (p : Nat) : modeAt (l.revoke (i : Int)).2.vs (p : Int) ≠ 0 ↔ modeAt l.vs (p : Int) ≠ 0 ∧ p ≠ i := by
  cases h : l.has (i : Int) with
  | false =>
    rw [revoke_no h]
    rw [has_mode hi, decide_eq_false_iff_not] at h
    exact ⟨fun e => ⟨e, fun e2 => h (by rw [← e2]; exact e)⟩, fun e => e.1⟩
  | true =>
    obtain ⟨v, hv⟩ := at_some hi
    rw [revoke_yes h hv]
    have := (tell_same { l with vs := l.vs.set i Vsl.z } v.strip).2 p
    refine (not_congr this).trans ?_
    show modeAt (l.vs.set i Vsl.z) (p : Int) ≠ 0 ↔ _
    rw [mode_set hi]
    by_cases e : p = i
    · rw [if_pos e]; exact ⟨fun h => absurd rfl h, fun h => absurd e h.2⟩
    · rw [if_neg e]; exact ⟨fun h => ⟨h, e⟩, fun h => h.1⟩

/-! what giving and taking do -/
structure Inv (m : Nat) (k : Krn) : Prop where
  ok : KOk m k
  ag : Agree k
theorem KOk.step {m : Nat} {k : Krn} (h : KOk m k) {i n : Nat} {o : Int} {l l' : Lib} (hl : k.libs[n]? = some l) (ho : o = -1 ∨ (0 ≤ o ∧ o < (k.libs.length : Int))) (hs : Same2 l l') (he : evSum l' ≤ evSum l + 2) : KOk (m + 2) ⟨k.owner.set i o, k.libs.set n l'⟩ := by
  refine ⟨fun v hv => ?_, ?_, ?_, fun x hx => ?_⟩
  · show v = -1 ∨ (0 ≤ v ∧ v < ((k.libs.set n l').length : Int))
    rw [List.length_set]
    rcases List.mem_or_eq_of_mem_set hv with e | e
    · exact h.own v e
    · subst e; exact ho
  · show (k.owner.set i o).length ≤ 64; rw [List.length_set]; exact h.ol
  · show (k.libs.set n l').length ≤ 8; rw [List.length_set]; exact h.ll
  · rcases List.mem_or_eq_of_mem_set hx with e | e
    · have := h.lib x e; exact ⟨Nat.le_trans this.ev (by omega), this.vl, this.th⟩
    · subst e
      have := h.lib l (List.mem_of_getElem? hl)
      exact ⟨by have := this.ev; omega, by rw [hs.len]; exact this.vl, by rw [hs.spc]; exact this.th⟩
theorem KOk.up {m : Nat} {k : Krn} (h : KOk m k) {m' : Nat} (hm : m ≤ m') : KOk m' k := ⟨h.own, h.ol, h.ll, fun l hl => let ⟨a, b, c⟩ := h.lib l hl; ⟨Nat.le_trans a hm, b, c⟩⟩
theorem Agree.give {k : Krn} (h : Agree k) {i n : Nat} {l : Lib} (ho : k.owner[i]? = some (-1)) (hl : k.libs[n]? = some l) : Agree ⟨k.owner.set i (n : Int), k.libs.set n (l.grant (i : Int)).2⟩ := by
  have hi : i < k.owner.length := (List.getElem?_eq_some_iff.1 ho).1
  have hv := h.len l (List.mem_of_getElem? hl)
  have hol := h.ol
  refine ⟨fun x hx => ?_, by show (k.owner.set i (n : Int)).length ≤ 64; rw [List.length_set]; exact h.ol, fun j x hx p => ?_⟩
  · rcases List.mem_or_eq_of_mem_set hx with e | e
    · rw [h.len x e]; exact (List.length_set ..).symm
    · subst e; rw [(grant_same l (i : Int)).len, hv]; exact (List.length_set ..).symm
  · have hx' : (k.libs.set n (l.grant (i : Int)).2)[j]? = some x := hx
    show _ ↔ (k.owner.set i (n : Int))[p]? = some (j : Int)
    by_cases e : n = j
    · subst e
      rw [List.getElem?_set_self (List.getElem?_eq_some_iff.1 hl).1] at hx'
      obtain rfl := Option.some.inj hx'
      rw [grant_mode (by omega) p]
      by_cases e2 : p = i
      · subst e2; rw [List.getElem?_set_self hi]; exact ⟨fun _ => rfl, fun _ => .inr rfl⟩
      · rw [List.getElem?_set_ne (fun e => e2 e.symm), ← h.iff n l hl p]
        exact ⟨fun h => h.resolve_right e2, .inl⟩
    · rw [List.getElem?_set_ne e] at hx'
      rw [h.iff j x hx' p]
      by_cases e2 : p = i
      · subst e2; rw [List.getElem?_set_self hi, ho]
        constructor
        · intro e3; have := Option.some.inj e3; omega
        · intro e3; have := Option.some.inj e3; omega
      · rw [List.getElem?_set_ne (fun e => e2 e.symm)]
theorem Agree.take {k : Krn} (h : Agree k) {i n : Nat} {l : Lib} (ho : k.owner[i]? = some (n : Int)) (hl : k.libs[n]? = some l) : Agree ⟨k.owner.set i (-1), k.libs.set n (l.revoke (i : Int)).2⟩ := by
  have hi : i < k.owner.length := (List.getElem?_eq_some_iff.1 ho).1
  have hv := h.len l (List.mem_of_getElem? hl)
  have hol := h.ol
  refine ⟨fun x hx => ?_, by show (k.owner.set i (-1)).length ≤ 64; rw [List.length_set]; exact h.ol, fun j x hx p => ?_⟩
  · rcases List.mem_or_eq_of_mem_set hx with e | e
    · rw [h.len x e]; exact (List.length_set ..).symm
    · subst e; rw [(revoke_same l (i : Int)).len, hv]; exact (List.length_set ..).symm
  · have hx' : (k.libs.set n (l.revoke (i : Int)).2)[j]? = some x := hx
    show _ ↔ (k.owner.set i (-1))[p]? = some (j : Int)
    by_cases e : n = j
    · subst e
      rw [List.getElem?_set_self (List.getElem?_eq_some_iff.1 hl).1] at hx'
      obtain rfl := Option.some.inj hx'
      rw [revoke_mode (by omega) p]
      by_cases e2 : p = i
      · subst e2; rw [List.getElem?_set_self hi]
        exact ⟨fun h => absurd rfl h.2, fun h => by have := Option.some.inj h; omega⟩
      · rw [List.getElem?_set_ne (fun e => e2 e.symm), ← h.iff n l hl p]
        exact ⟨fun h => h.1, fun h => ⟨h, e2⟩⟩
    · rw [List.getElem?_set_ne e] at hx'
      rw [h.iff j x hx' p]
      by_cases e2 : p = i
      · subst e2; rw [List.getElem?_set_self hi, ho]
        constructor
        · intro e3; have := Option.some.inj e3; omega
        · intro e3; have := Option.some.inj e3; omega
      · rw [List.getElem?_set_ne (fun e => e2 e.symm)]
theorem Inv.take {m : Nat} {k : Krn} (h : Inv m k) (p : Int) : Inv (m + 2) (k.take p).2 := by
  by_cases e : mineE k p = 0
  · obtain ⟨i, n, l, rfl, ho, hl, e⟩ := mine_ok h.ok e
    rw [e]
    exact ⟨h.ok.step hl (.inl rfl) (revoke_same l _) (revoke_ev l _), h.ag.take ho hl⟩
  · rw [mine_bad e]; exact ⟨h.ok.up (by omega), h.ag⟩
theorem Inv.give {m : Nat} {k : Krn} (h : Inv m k) {i n : Nat} {l : Lib} (ho : k.owner[i]? = some (-1)) (hl : k.libs[n]? = some l) : Inv (m + 2) (k.give (i : Int) (n : Int)).2 := by
  rw [give_yes ho hl]
  have := (List.getElem?_eq_some_iff.1 hl).1
  exact ⟨h.ok.step hl (.inr ⟨by omega, by omega⟩) (grant_same l _) (grant_ev l _), h.ag.give ho hl⟩
end Go.SLYtkflpgknieoknaa
