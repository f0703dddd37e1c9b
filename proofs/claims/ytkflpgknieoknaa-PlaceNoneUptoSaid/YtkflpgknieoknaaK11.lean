/- To share again moves nothing. Conditions: none, this text proves no statement. -/
import Derived.Test.YtkflpgknieoknaaK10
namespace Go.SLYtkflpgknieoknaa
open Go Go.RowKit

def spcs (k : Krn) : List Spc := k.libs.map (·.spc)
theorem map_same {α β : Type} {f : α → β} {xs : List α} {i : Nat} {x y : α} (h : xs[i]? = some x) (e : f y = f x) : (xs.set i y).map f = xs.map f := by
  rw [List.map_set]
  refine List.ext_getElem? fun j => ?_
  by_cases e2 : i = j
  · subst e2
    rw [List.getElem?_set_self (by rw [List.length_map]; exact (List.getElem?_eq_some_iff.1 h).1), List.getElem?_map, h, e]; rfl
  · rw [List.getElem?_set_ne e2]
theorem take_spcs {m : Nat} {k : Krn} (h : KOk m k) (p : Int) : spcs (k.take p).2 = spcs k := by
  by_cases e : mineE k p = 0
  · obtain ⟨i, n, l, rfl, ho, hl, e⟩ := mine_ok h e
    rw [e]; exact map_same hl (revoke_same l _).spc
  · rw [mine_bad e]
theorem give_cases (k : Krn) (p n : Int) : (k.give p n).2 = k ∨ ∃ (i j : Nat) (l : Lib), p = (i : Int) ∧ n = (j : Int) ∧ k.owner[i]? = some (-1) ∧ k.libs[j]? = some l ∧ k.give p n = (0, ⟨k.owner.set i (j : Int), k.libs.set j (l.grant (i : Int)).2⟩) := by
  cases e1 : geti k.owner p with
  | none => left; unfold Krn.give; rw [e1]
  | some o =>
    cases e2 : geti k.libs n with
    | none => left; unfold Krn.give; rw [e1, e2]
    | some l =>
      by_cases e3 : o = -1
      · right
        subst e3
        have hp : 0 ≤ p := by
          unfold geti at e1
          split at e1
          · cases e1
          · omega
        have hn : 0 ≤ n := by
          unfold geti at e2
          split at e2
          · cases e2
          · omega
        obtain ⟨i, rfl⟩ : ∃ i : Nat, p = (i : Int) := ⟨p.toNat, by omega⟩
        obtain ⟨j, rfl⟩ : ∃ j : Nat, n = (j : Int) := ⟨n.toNat, by omega⟩
        rw [geti_nat] at e1 e2
        exact ⟨i, j, l, rfl, rfl, e1, e2, give_yes e1 e2⟩
      · left; unfold Krn.give; rw [e1, e2]; simp only; rw [if_neg e3]
theorem give_any {m : Nat} {k : Krn} (h : Inv m k) (p n : Int) : Inv (m + 2) (k.give p n).2 ∧ spcs (k.give p n).2 = spcs k ∧ (k.give p n).2.owner.length = k.owner.length ∧ (k.give p n).2.libs.length = k.libs.length := by
  rcases give_cases k p n with e | ⟨i, j, l, rfl, rfl, ho, hl, e⟩
  · rw [e]; exact ⟨⟨h.ok.up (by omega), h.ag⟩, rfl, rfl, rfl⟩
  · refine ⟨h.give ho hl, ?_⟩
    rw [e]
    exact ⟨map_same hl (grant_same l _).spc, List.length_set .., List.length_set ..⟩
structure Kept2 (k k' : Krn) : Prop where
  spc : spcs k' = spcs k
  ol : k'.owner.length = k.owner.length
  ll : k'.libs.length = k.libs.length
theorem Kept2.refl (k : Krn) : Kept2 k k := ⟨rfl, rfl, rfl⟩
theorem Kept2.trans {a b c : Krn} (h : Kept2 a b) (g : Kept2 b c) : Kept2 a c := ⟨g.1.trans h.1, g.2.trans h.2, g.3.trans h.3⟩
theorem takeAll_kept : ∀ (ps : List Int) {m : Nat} {k : Krn}, Inv m k → Inv (m + 2 * ps.length) (takeAll ps k) ∧ Kept2 k (takeAll ps k)
  | [], m, k, h => ⟨h, .refl k⟩
  | p :: ps, m, k, h => by
    obtain ⟨h1, h2⟩ := takeAll_kept ps (h.take p)
    exact ⟨⟨h1.ok.up (by simp; omega), h1.ag⟩, Kept2.trans ⟨take_spcs h.ok p, (take_len h.ok p).2, (take_len h.ok p).1⟩ h2⟩
theorem giveTo_kept (n : Int) : ∀ (c : Nat) {m : Nat} {k : Krn}, Inv m k → Inv (m + 2 * c) (giveTo c n k) ∧ Kept2 k (giveTo c n k)
  | 0, m, k, h => ⟨h, .refl k⟩
  | c + 1, m, k, h => by
    obtain ⟨g1, g2, g3, g4⟩ := give_any h (k.free.headD 0) n
    obtain ⟨h1, h2⟩ := giveTo_kept n c g1
    exact ⟨⟨h1.ok.up (by omega), h1.ag⟩, Kept2.trans ⟨g2, g3, g4⟩ h2⟩
theorem libProcs_len {m : Nat} {k : Krn} (h : Inv m k) {n : Nat} (hn : n < k.libs.length) : (libProcs k n).length = k.owner.count (n : Int) := by
  rw [h.ag.libProcs hn]; exact pos_len _ _ _
theorem takeFrom_kept : ∀ (l : List Int) (n mv : Nat) {m : Nat} {k : Krn}, Inv m k → n + l.length ≤ k.libs.length → Inv (m + 128 * l.length) (takeFrom l n (k, mv)).1 ∧ Kept2 k (takeFrom l n (k, mv)).1
  | [], n, mv, m, k, h, _ => ⟨h, .refl k⟩
  | w :: l, n, mv, m, k, h, hl => by
    simp only [List.length_cons] at hl
    obtain ⟨h1, h2⟩ := takeAll_kept ((libProcs k n).drop w.toNat) h
    have hp := libProcs_len h (n := n) (by omega)
    have hc : k.owner.count (n : Int) ≤ 64 := Nat.le_trans List.count_le_length h.ok.ol
    obtain ⟨g1, g2⟩ := takeFrom_kept l (n + 1) (mv + ((libProcs k n).drop w.toNat).length) h1 (by rw [h2.ll]; omega)
    rw [takeFrom]
    exact ⟨⟨g1.ok.up (by rw [List.length_drop]; simp only [List.length_cons]; omega), g1.ag⟩, h2.trans g2⟩
theorem giveFrom_kept : ∀ (l : List Int) (n mv : Nat) {m : Nat} {k : Krn}, Inv m k → (∀ w ∈ l, w ≤ 64) → Inv (m + 128 * l.length) (giveFrom l n (k, mv)).1 ∧ Kept2 k (giveFrom l n (k, mv)).1
  | [], n, mv, m, k, h, _ => ⟨h, .refl k⟩
  | w :: l, n, mv, m, k, h, hl => by
    obtain ⟨h1, h2⟩ := giveTo_kept (n : Int) (w.toNat - (libProcs k n).length) h
    have hw := hl w (List.mem_cons_self ..)
    obtain ⟨g1, g2⟩ := giveFrom_kept l (n + 1) (mv + (w.toNat - (libProcs k n).length)) h1 fun x hx => hl x (List.mem_cons_of_mem _ hx)
    rw [giveFrom]
    exact ⟨⟨g1.ok.up (by simp only [List.length_cons]; omega), g1.ag⟩, h2.trans g2⟩
theorem pairEta {α β : Type} (z : α × β) : z = (z.1, z.2) := rfl
theorem share_kept {m : Nat} {k : Krn} (h : Inv m k) (prio : List Int) (turn : Int) : Inv (m + 2048) (k.share prio turn).1 ∧ Kept2 k (k.share prio turn).1 := by
  have htf := targets_facts h.ok prio turn
  have hll := h.ok.ll
  obtain ⟨h1, h2⟩ := takeFrom_kept (k.targets prio turn) 0 0 h (by omega)
  unfold Krn.share
  rw [pairEta (takeFrom (k.targets prio turn) 0 (k, 0))]
  obtain ⟨g1, g2⟩ := giveFrom_kept (k.targets prio turn) 0 (takeFrom (k.targets prio turn) 0 (k, 0)).2 h1 fun w hw => (htf.2.1 w hw).2
  exact ⟨⟨g1.ok.up (by omega), g1.ag⟩, h2.trans g2⟩
theorem targets_same {k k' : Krn} (h : Kept2 k k') (prio : List Int) (turn : Int) : k'.targets prio turn = k.targets prio turn := by
  have hd : ∀ k : Krn, k.demand = (spcs k).map fun s => (s.ready.length : Int) := fun k => by unfold Krn.demand spcs; rw [List.map_map]; rfl
  unfold Krn.targets; rw [h.ol, hd, hd, h.spc]
theorem room_giveTo {want : List Int} {n : Nat} {w : Int} (hw : want[n]? = some w) : ∀ (c : Nat) {m : Nat} {k : Krn}, Inv m k → Room want k → c = w.toNat - k.owner.count (n : Int) → Room want (giveTo c (n : Int) k) ∧ (giveTo c (n : Int) k).owner.count (n : Int) = w.toNat ∧ ∀ j : Nat, j ≠ n → (giveTo c (n : Int) k).owner.count (j : Int) = k.owner.count (j : Int)
  | 0, m, k, hi, hr, hc => ⟨hr, by show k.owner.count (n : Int) = w.toNat; have := hr.cnt n w hw; omega, fun _ _ => rfl⟩
  | c + 1, m, k, hi, hr, hc => by
    have hlt : k.owner.count (n : Int) < w.toNat := by omega
    obtain ⟨i, r, hf, hoi, hmin⟩ := free_head (hr.free hi.ok hw hlt)
    have hn := (List.getElem?_eq_some_iff.1 hw).1
    obtain ⟨l, hl⟩ := at_some (show n < k.libs.length by have := hr.len; omega)
    have hrg := hr.give hw hlt hoi hl
    have hig := hi.give hoi hl
    have e : giveTo (c + 1) (n : Int) k = giveTo c (n : Int) (k.give (i : Int) (n : Int)).2 := by rw [giveTo, hf]; rfl
    rw [e]
    obtain ⟨h1, h2, h3⟩ := room_giveTo hw c hig hrg.1 (by rw [hrg.2]; omega)
    refine ⟨h1, h2, fun j hj => (h3 j hj).trans ?_⟩
    rw [give_yes hoi hl]
    have := count_set (b := (n : Int)) hoi (j : Int)
    rw [if_neg (by omega), if_neg (by omega)] at this
    simpa using this
theorem room_giveFrom {want : List Int} : ∀ (d n mv : Nat) {m : Nat} {k : Krn}, d = want.length - n → n ≤ want.length → Inv m k → Room want k → (∀ (i : Nat) (w : Int), i < n → want[i]? = some w → k.owner.count (i : Int) = w.toNat) → ∀ (i : Nat) (w : Int), want[i]? = some w → (giveFrom (want.drop n) n (k, mv)).1.owner.count (i : Int) = w.toNat
  | 0, n, mv, m, k, hd, hn, hi, hr, hc, i, w, hw => by
    rw [List.drop_of_length_le (by omega), giveFrom]
    exact hc i w (by have := (List.getElem?_eq_some_iff.1 hw).1; omega) hw
  | d + 1, n, mv, m, k, hd, hn, hi, hr, hc, i, w, hw => by
    obtain ⟨x, hx⟩ := at_some (show n < want.length by omega)
    rw [give_next hx hi (by have := hr.len; omega)]
    obtain ⟨h1, h2, h3⟩ := room_giveTo hx _ hi hr rfl
    refine room_giveFrom d (n + 1) _ (by omega) (by omega) (giveTo_kept (n : Int) _ hi).1 h1 (fun j y hj hy => ?_) i w hw
    by_cases e : j = n
    · subst e
      rw [hx] at hy
      obtain rfl := Option.some.inj hy
      exact h2
    · rw [h3 j e]; exact hc j y (by omega) hy
theorem share_room {m : Nat} {k : Krn} (h : Inv m k) (prio : List Int) (turn : Int) (i : Nat) (w : Int) (hw : (k.targets prio turn)[i]? = some w) : (k.share prio turn).1.owner.count (i : Int) = w.toNat := by
  have htf := targets_facts h.ok prio turn
  have hne : k.targets prio turn ≠ [] := by intro e; rw [e] at hw; simp at hw
  obtain ⟨h1, h2⟩ := takeFrom_kept (k.targets prio turn) 0 0 h (by omega)
  have hr := room_take h (htf.2.2.2 hne) htf.2.2.1
  unfold Krn.share
  rw [pairEta (takeFrom (k.targets prio turn) 0 (k, 0))]
  have := room_giveFrom (want := k.targets prio turn) _ 0 (takeFrom (k.targets prio turn) 0 (k, 0)).2 rfl (Nat.zero_le _) h1 hr (fun _ _ h => absurd h (Nat.not_lt_zero _)) i w hw
  rwa [List.drop_zero] at this
theorem still {want : List Int} {m : Nat} {k : Krn} (hi : Inv m k) (hl : want.length ≤ k.libs.length) (hc : ∀ (i : Nat) (w : Int), want[i]? = some w → k.owner.count (i : Int) = w.toNat) : ∀ (d n mv : Nat), d = want.length - n → takeFrom (want.drop n) n (k, mv) = (k, mv) ∧ giveFrom (want.drop n) n (k, mv) = (k, mv)
  | 0, n, mv, hd => by rw [List.drop_of_length_le (by omega)]; exact ⟨rfl, rfl⟩
  | d + 1, n, mv, hd => by
    obtain ⟨w, hw⟩ := at_some (show n < want.length by omega)
    have hp := libProcs_len hi (n := n) (by omega)
    rw [hc n w hw] at hp
    rw [drop_cons hw, takeFrom, giveFrom, show (libProcs k n).drop w.toNat = [] from List.drop_of_length_le (by omega), hp, Nat.sub_self]
    exact still hi hl hc d (n + 1) mv (by omega)
theorem share_again {m : Nat} {k : Krn} (h : Inv m k) (prio : List Int) (turn : Int) : (k.share prio turn).1.share prio turn = ((k.share prio turn).1, 0) := by
  obtain ⟨h1, h2⟩ := share_kept h prio turn
  have htf := targets_facts h.ok prio turn
  have ht := targets_same h2 prio turn
  have hs := share_room h prio turn
  revert h1 h2 ht hs
  generalize (k.share prio turn).1 = k1
  intro h1 h2 ht hs
  unfold Krn.share
  rw [ht]
  have hst := still h1 (want := k.targets prio turn) (by rw [h2.ll]; exact htf.1) hs _ 0 0 rfl
  rw [List.drop_zero] at hst
  rw [hst.1, hst.2]

/-! what New makes -/
theorem fresh_procs : ∀ (n k : Nat), procsFrom (List.replicate n Vsl.z) k = []
  | 0, _ => rfl
  | n + 1, k => by rw [List.replicate_succ, procsFrom, if_pos (show Vsl.z.mode = 0 from rfl), fresh_procs n]
theorem sum_zeros : ∀ n : Nat, ((List.replicate n Vsl.z).map (fun v => v.evs.length)).sum = 0
  | 0 => rfl
  | n + 1 => by rw [List.replicate_succ, List.map_cons, List.sum_cons, sum_zeros n]; rfl
theorem new_inv {procs : Int} {l : List Prg} (h : krnErr procs l = 0) : Inv 16 (Krn.new procs l) ∧ (Krn.new procs l).libs.length = l.length ∧ (Krn.new procs l).owner.length = procs.toNat ∧ 1 ≤ procs ∧ procs ≤ 64 ∧ l.length ≤ 8 := by
  have hb : 1 ≤ procs ∧ procs ≤ 64 ∧ 1 ≤ l.length ∧ l.length ≤ 8 := by
    unfold krnErr at h
    by_cases c : procs < 1 ∨ 64 < procs ∨ (l.length : Int) < 1 ∨ 8 < (l.length : Int)
    · rw [if_pos c] at h; cases h
    · omega
  have hol : (Krn.new procs l).owner.length = procs.toNat := List.length_replicate ..
  have hll : (Krn.new procs l).libs.length = l.length := List.length_map ..
  have hlib : ∀ x ∈ (Krn.new procs l).libs, ∃ p, x = Lib.new (Spc.new p) procs := fun x hx => by
    obtain ⟨p, _, e⟩ := List.mem_map.1 hx
    exact ⟨p, e.symm⟩
  have hv : ∀ p, (Lib.new (Spc.new p) procs).vs = List.replicate procs.toNat Vsl.z := fun p => by
    show List.replicate (clamp procs 64).toNat Vsl.z = _
    rw [show clamp procs 64 = procs from by unfold clamp; omega]
  refine ⟨⟨⟨fun v hv => .inl (List.eq_of_mem_replicate hv), by omega, by omega, fun x hx => ?_⟩, ⟨fun x hx => ?_, by omega, fun n x hx p => ?_⟩⟩, hll, hol, hb.1, hb.2.1, hb.2.2.2⟩
  · obtain ⟨p, rfl⟩ := hlib x hx
    refine ⟨?_, by rw [hv, List.length_replicate]; omega, new_thr p⟩
    unfold evSum
    rw [hv, sum_zeros]
    have h1 := ready_len (Spc.new p).thr 0
    rw [new_thr] at h1
    show (unblocked (Spc.new p).ready).length + 0 ≤ 16
    unfold unblocked; rw [List.length_map]
    exact h1
  · obtain ⟨p, rfl⟩ := hlib x hx
    rw [hv, List.length_replicate, hol]
  · obtain ⟨q, rfl⟩ := hlib x (List.mem_of_getElem? hx)
    rw [hv]
    constructor
    · intro e
      refine absurd ?_ e
      unfold modeAt
      rw [Int.toNat_natCast, List.getD_eq_getElem?_getD]
      cases e2 : (List.replicate procs.toNat Vsl.z)[p]? with
      | none => rfl
      | some v => rw [List.eq_of_mem_replicate (List.mem_of_getElem? e2)]; rfl
    · intro e
      have := List.eq_of_mem_replicate (List.mem_of_getElem? (show (List.replicate procs.toNat (-1 : Int))[p]? = some (n : Int) from e))
      omega
end Go.SLYtkflpgknieoknaa
