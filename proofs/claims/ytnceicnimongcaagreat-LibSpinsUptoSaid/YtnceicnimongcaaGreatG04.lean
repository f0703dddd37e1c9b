/- Walks of functions, and what they compute. Conditions: none, this text proves no statement. -/
import Derived.Test.YtnceicnimongcaaGreatG03
import Derived.Laws.FloatBits
namespace Go.SLYtnceicnimongcaaGreat
open Go Go.RowKit

theorem allH_out {α : Type} {f : α → HProp} {xs : List α} {i : Nat} {x : α} (h : xs[i]? = some x) : ∀ g, allH f xs g → seps [f x, allH f (xs.eraseIdx i)] g := fun g a => by rw [allH_get f h] at a; exact sep2.2 a
theorem tubs_in {v : Value} {l : List Tub} {xs : List (Nat × Tub)} {i : Nat} {x : Nat × Tub} (hx : xs[i]? = some x) (hxs : xs.map (·.2) = l) (u : Tub) : ∀ h, seps [sl ptrE 1 v xs, tubH x.1 u, allH (fun x : Nat × Tub => tubH x.1 x.2) (xs.eraseIdx i)] h → tubsH v (l.set i u) h := fun h a => by
  refine ⟨xs.set i (x.1, u), by show (xs.set i (x.1, u)).map (·.2) = _; rw [List.map_set, hxs], ?_⟩
  have hi := (List.getElem?_eq_some_iff.1 hx).1
  rw [sep2, allH_set _ _ hi]
  exact sep_mono (fun g b => unfocusH (x' := (x.1, u)) hi rfl g (focusH hx g b)) (fun g b => sep2.1 b) h a

theorem LiveAt.setT {ps : List (Option Nat)} {s : Spc} {n m : Nat} {t : Thr} (h : LiveAt ps s m) (ht : ThrR t) : LiveAt ps (s.setT n t) m := by
  obtain ⟨hm, q, u, hq, hu, hR⟩ := h
  rcases Decidable.em (n = m) with rfl | hne
  · exact ⟨hm, q, t, hq, setT_same hu, ht⟩
  · exact ⟨hm, q, u, hq, setT_thr hu hne, hR⟩
theorem LiveAt.of {ps : List (Option Nat)} {s s' : Spc} {m : Nat} (h : LiveAt ps s m) (e : s'.thr = s.thr) : LiveAt ps s' m := by
  obtain ⟨hm, q, u, hq, hu, hR⟩ := h
  exact ⟨hm, q, u, hq, by rw [e]; exact hu, hR⟩
theorem getD_set_all {l : List Int} {i n : Nat} {x : Int} (hx : 0 ≤ x ∧ x ≤ 18446744073709551615) (h : ∀ n, 0 ≤ l.getD n 0 ∧ l.getD n 0 ≤ 18446744073709551615) : 0 ≤ (l.set i x).getD n 0 ∧ (l.set i x).getD n 0 ≤ 18446744073709551615 := by
  have hn := h n
  rw [List.getD_eq_getElem?_getD] at hn ⊢
  rw [List.getElem?_set]
  split
  · split
    · exact hx
    · exact ⟨Int.le_refl _, by decide⟩
  · exact hn
theorem ThrR.put {t : Thr} (h : ThrR t) {i x : Int} (hx : 0 ≤ x ∧ x ≤ 18446744073709551615) : ThrR (t.put i x) := ⟨by rw [put_len]; exact h.l, fun n => getD_set_all hx h.r, h.i, h.v, h.h⟩
theorem ThrR.with {t : Thr} (h : ThrR t) {a b c : Int} (hc : -1 ≤ c ∧ c < 8) : ThrR { t with why := a, op := b, into := c } := ⟨h.l, h.r, hc, h.v, h.h⟩

def Gates.has (g : Gates) (w : Int) : Prop := (∃ x ∈ g.mtx, ∃ y ∈ x.wait, y.who = w) ∨ (∃ r ∈ g.cnd, ∃ y ∈ r, y.who = w) ∨ (∃ x ∈ g.sem, ∃ y ∈ x.wait, y.who = w)
structure CallOk (ps : List (Option Nat)) (d : Dng) (t : Thr) : Prop where
  nb : d.n < 16
  R : ThrR t
  lt : d.s.thr.length = 16
  lp : ps.length = 16
  T : TakeOk d.s.table
  slot : ∀ h m, slotFind d.s.table h = some m → LiveAt ps d.s m
  free : ∀ n, slotFree? d.s.table 0 = some n → d.s.thr[n]? = some none
  join : ¬ t.joiner = -1 → 0 ≤ t.joiner ∧ t.joiner.toNat ≠ d.n ∧ LiveAt ps d.s t.joiner.toNat
  I : InsOk d.i
  nn : d.i.n ≤ 1099511627776
  recs : d.s.recs.length ≤ 90000000
  ends : d.ends.length ≤ 500000
  wok : d.out.woken.length ≤ 500000
  mem : d.s.mem.length ≤ 1000000
  gl : GatesLen d.s.gates
  gsem : ∀ x ∈ d.s.gates.sem, 0 ≤ x.count ∧ x.count ≤ 1048576
  gcnd : ∀ r ∈ d.s.gates.cnd, ∀ w ∈ r, 0 ≤ w.mutex ∧ w.mutex < (d.s.gates.mtx.length : Int)
  glive : ∀ w, d.s.gates.has w → 0 ≤ w ∧ LiveAt ps d.s w.toNat
  gsum : d.s.prg.mutexes ≤ (d.s.gates.mtx.length : Int)
  gsm : (∀ x ∈ d.s.gates.mtx, x.wait.length ≤ 400000) ∧ ∀ r ∈ d.s.gates.cnd, r.length ≤ 400000
  tub : (d.i.op = 35 ∨ d.i.op = 36) → d.i.n < (d.s.tubes.length : Int)
  tl : ∀ u ∈ d.s.tubes, TubLen u
  tlive : ∀ u ∈ d.s.tubes, (∀ w ∈ u.gets, 0 ≤ w ∧ LiveAt ps d.s w.toNat) ∧ (∀ x ∈ u.puts, 0 ≤ x.who ∧ LiveAt ps d.s x.who.toNat)
  tw : ∀ u ∈ d.s.tubes, ∀ w ∈ u.words, 0 ≤ w ∧ w ≤ 18446744073709551615
  dw : d.s.disk.wait.length ≤ 1000000
  wn : 0 ≤ d.s.wheel.now ∧ d.s.wheel.now ≤ 1099511627776

theorem other_zero {ps : List (Option Nat)} {d : Dng} {h : Int} (hs : ∀ n, slotFind d.s.table h = some n → LiveAt ps d.s n) (e : (d.other h).2 = 0) :
    ∃ m q u, slotFind d.s.table h = some m ∧ (d.other h).1 = m ∧ m ≠ d.n ∧ m < 16 ∧ ps[m]? = some (some q) ∧ d.s.thr[m]? = some (some u) ∧ ThrR u ∧ u.detached = false ∧ u.joiner = -1 := by
  cases hf : slotFind d.s.table h with
  | none => rw [other_no hf] at e; cases e
  | some m =>
    obtain ⟨hm, q, u, hq, hu, hR⟩ := hs m hf
    by_cases h1 : m = d.n ∨ u.detached = true
    · rw [other_self hf hu h1] at e; cases e
    · by_cases h2 : u.joiner = -1
      · exact ⟨m, q, u, rfl, by rw [other_ok hf hu h1 h2], fun h => h1 (.inl h), hm, hq, hu, hR, by cases hd : u.detached with | false => rfl | true => exact absurd (.inr hd) h1, h2⟩
      · rw [other_join hf hu h1 h2] at e; cases e
theorem other_bd {d : Dng} {h : Int} : 0 ≤ (d.other h).2 ∧ (d.other h).2 ≤ 11 := by
  unfold Dng.other
  repeat' split
  all_goals (dsimp only; omega)
theorem ask_bd {d : Dsk} {r : Rqs} : 0 ≤ (d.ask r).1 ∧ (d.ask r).1 ≤ 11 := by
  unfold Dsk.ask
  repeat' split
  all_goals (dsimp only; omega)
theorem lock_bd {g : Gates} {w m : Int} : 0 ≤ (g.lock w m).2.1 ∧ (g.lock w m).2.1 ≤ 11 := by
  unfold Gates.lock
  repeat' split
  all_goals (dsimp only; omega)
theorem unlock_bd {g : Gates} {w m c : Int} : 0 ≤ (g.unlock w m c).2.2.1 ∧ (g.unlock w m c).2.2.1 ≤ 11 := by
  unfold Gates.unlock
  repeat' split
  all_goals (dsimp only; omega)
theorem wait_bd {g : Gates} {w c m ch : Int} : 0 ≤ (g.wait w c m ch).2.2.1 ∧ (g.wait w c m ch).2.2.1 ≤ 11 := by
  unfold Gates.wait
  repeat' split
  all_goals (dsimp only; omega)
theorem up_bd {g : Gates} {s c : Int} : 0 ≤ (g.up s c).2.2.1 ∧ (g.up s c).2.2.1 ≤ 11 := by
  unfold Gates.up
  repeat' split
  all_goals (dsimp only; omega)
theorem down_bd {g : Gates} {w s : Int} : 0 ≤ (g.down w s).2.1 ∧ (g.down w s).2.1 ≤ 11 := by
  unfold Gates.down
  repeat' split
  all_goals (dsimp only; omega)
theorem signal_bd {g : Gates} {c ch : Int} {a : Bool} : 0 ≤ (g.signal c ch a).2.1 ∧ (g.signal c ch a).2.1 ≤ 11 := by
  unfold Gates.signal
  repeat' split
  all_goals (dsimp only; omega)
theorem takeW_mem {l : List Wtr} {c : Int} (h : (takeW l c).2.1 = true) : (takeW l c).1 ∈ l := by
  by_cases h0 : l.length = 0
  · rw [take_no h0] at h; cases h
  · exact (take_mem h0).1
theorem unlock_has {g : Gates} {w m c : Int} (h : (g.unlock w m c).2.1 = true) : g.has (g.unlock w m c).1 := by
  unfold Gates.unlock at h ⊢
  split
  · rename_i e; rw [e] at h; cases h
  · rename_i x e
    rw [e] at h; simp only at h ⊢
    split
    · rename_i hi; rw [if_pos hi] at h
      exact .inl ⟨x, List.mem_of_getElem? (geti_of e).2.2, _, takeW_mem h, rfl⟩
    · rename_i hi; rw [if_neg hi] at h; cases h
theorem wait_has {g : Gates} {w c m ch : Int} (h : (g.wait w c m ch).2.1 = true) : g.has (g.wait w c m ch).1 := by
  unfold Gates.wait at h ⊢
  split
  · rename_i x r e1 e2
    rw [e1, e2] at h; simp only at h ⊢
    repeat' split at h
    all_goals first | (cases h; done) | skip
    rename_i h1 h2
    rw [if_neg h1, if_pos h2]
    exact .inl ⟨x, List.mem_of_getElem? (geti_of e1).2.2, _, takeW_mem h, rfl⟩
  · rename_i hn
    split at h
    · rename_i x r e1 e2; exact absurd e2 (hn x r e1)
    · cases h
theorem up_has {g : Gates} {s c : Int} (h : (g.up s c).2.1 = true) : g.has (g.up s c).1 := by
  unfold Gates.up at h ⊢
  split
  · rename_i e; rw [e] at h; cases h
  · rename_i x e
    rw [e] at h; simp only at h ⊢
    split
    · rename_i hi
      exact .inr (.inr ⟨x, List.mem_of_getElem? (geti_of e).2.2, _, takeW_mem hi, rfl⟩)
    · rename_i hi; rw [if_neg hi] at h
      split at h <;> cases h
end Go.SLYtnceicnimongcaaGreat
namespace Go.SLYtnceicnimongcaaGreat
open Go Go.RowKit

theorem LiveAt.pass {ps : List (Option Nat)} {d : Dng} {t : Thr} {m : Nat} {x y e : Int} (h : LiveAt ps d.s m) (ht : d.s.thr[d.n]? = some (some t)) (hR : ThrR t) (he : 0 ≤ e ∧ e ≤ 11) : LiveAt ps (d.pass x y e).s m := by
  have : LiveAt ps (d.tell x y e true).s m := h.of rfl
  have h2 := this.setT (n := d.n) (hR.put (i := 7) (x := e) (by omega))
  unfold Dng.pass; rw [dng_t ht]; exact h2
theorem LiveAt.block {ps : List (Option Nat)} {d : Dng} {t : Thr} {m : Nat} {w i x y : Int} (h : LiveAt ps d.s m) (ht : d.s.thr[d.n]? = some (some t)) (hR : ThrR t) (hi : -1 ≤ i ∧ i < 8) : LiveAt ps (d.block w i x y).s m := by
  have : LiveAt ps (d.tell x y 0 false).s m := h.of rfl
  have h2 := this.setT (n := d.n) (hR.with (a := w) (b := d.i.op) hi)
  unfold Dng.block; rw [dng_t ht]; exact h2
theorem w64_id {c : Int} (h : 0 ≤ c ∧ c < 8) : w64 c = c := by unfold w64; omega
theorem put_live {u : Tub} {who x : Int} (h : (u.put who x).2.2.1 = true) : (u.put who x).2.1 ∈ u.gets := by
  cases hw : u.waits who with
  | true => rw [put_waits hw] at h; cases h
  | false =>
    cases hg : u.gets with
    | cons w r => rw [put_get hw hg]; exact List.mem_cons_self
    | nil =>
      by_cases hr : (u.words.length : Int) < u.room
      · rw [put_room hw hg hr] at h; cases h
      · rw [put_full hw hg hr] at h; cases h
theorem get_live {u : Tub} {who : Int} (h : (u.get who).2.2.2.1 = true) : ∃ x ∈ u.puts, x.who = (u.get who).2.2.1 := by
  cases hw : u.waits who with
  | true => rw [get_waits hw] at h; cases h
  | false =>
    cases hg : u.words with
    | nil => rw [get_none hw hg] at h; cases h
    | cons w r =>
      cases hp : u.puts with
      | nil => rw [get_one hw hg hp] at h; cases h
      | cons q r2 => rw [get_two hw hg hp]; exact ⟨q, List.mem_cons_self, rfl⟩
theorem get_word {u : Tub} {who : Int} (h : ∀ w ∈ u.words, 0 ≤ w ∧ w ≤ 18446744073709551615) : 0 ≤ (u.get who).1 ∧ (u.get who).1 ≤ 18446744073709551615 := by
  have h0 : (0 : Int) ≤ 0 ∧ (0 : Int) ≤ 18446744073709551615 := by decide
  cases hw : u.waits who with
  | true => rw [get_waits hw]; exact h0
  | false =>
    cases hg : u.words with
    | nil => rw [get_none hw hg]; exact h0
    | cons w r =>
      have := h w (by rw [hg]; exact List.mem_cons_self)
      cases hp : u.puts with
      | nil => rw [get_one hw hg hp]; exact this
      | cons q r2 => rw [get_two hw hg hp]; exact this
theorem tube_at {d : Dng} {xs : List (Nat × Tub)} (hxs : xs.map (·.2) = d.s.tubes) (h0 : 0 ≤ d.i.n) (h : d.i.n < (d.s.tubes.length : Int)) : ∃ q, xs[d.i.n.toNat]? = some (q, d.tube) ∧ d.tube ∈ d.s.tubes := by
  have hl : xs.length = d.s.tubes.length := by rw [← hxs, List.length_map]
  obtain ⟨⟨q, u⟩, hx⟩ := at_some (show d.i.n.toNat < xs.length by omega)
  have hu := map_get hxs hx
  have : d.tube = u := by unfold Dng.tube; rw [List.getD_eq_getElem?_getD, hu]; rfl
  exact ⟨q, by rw [this]; exact hx, by rw [this]; exact List.mem_of_getElem? hu⟩
theorem spawn_thr {s : Spc} {f arg : Int} {n : Nat} (h : slotFree? s.table 0 = some n) (hl : n < s.thr.length) : ∃ t, (s.begin f arg).2.2.thr[n]? = some (some t) ∧ t = thr0 f arg (slotH ((s.table.getD n (false, 0)).2 + 1) n) := by
  rw [begin_ok h]
  exact ⟨_, List.getElem?_set_self hl, rfl⟩
end Go.SLYtnceicnimongcaaGreat
namespace Go.SLYtnceicnimongcaaGreat
open Go Go.RowKit

theorem whyAll_app (s : Spc) (a b : List Int) : whyAll s (a ++ b) = whyAll (whyAll s a) b := by
  induction a generalizing s with
  | nil => rfl
  | cons x l ih => exact ih _
theorem whyAll_gates (s : Spc) (a : List Int) : (whyAll s a).gates = s.gates := by
  induction a generalizing s with
  | nil => rfl
  | cons x l ih => exact (ih _).trans rfl
theorem live_why {ps : List (Option Nat)} {s : Spc} (m : Nat) (a : List Int) (h : LiveAt ps s m) : LiveAt ps (whyAll s a) m := by
  induction a generalizing s with
  | nil => exact h
  | cons x l ih =>
    refine ih ?_
    by_cases hx : ∃ t, s.thr[x.toNat]? = some (some t)
    · obtain ⟨t, ht⟩ := hx
      rw [show s.t x.toNat = t from spc_t ht]
      obtain ⟨hm, q, u, hq, hu, hR⟩ := h
      rcases Decidable.em (x.toNat = m) with e | hne
      · subst e
        rw [ht] at hu; cases hu
        exact ⟨hm, q, _, hq, setT_same ht, ⟨hR.l, hR.r, hR.i, hR.v, hR.h⟩⟩
      · exact ⟨hm, q, u, hq, setT_thr hu hne, hR⟩
    · obtain ⟨hm, q, u, hq, hu, hR⟩ := h
      exact ⟨hm, q, u, hq, setT_thr hu (fun e => hx ⟨u, by rw [e]; exact hu⟩), hR⟩
theorem ThrR.wakes {t : Thr} (h : ThrR t) {y : Int} (hy : 0 ≤ y ∧ y ≤ 18446744073709551615) : ThrR (t.wakes y) := by
  have h1 : ThrR (if t.into = -1 then t else t.put t.into y) := by split; exact h; exact h.put hy
  have h2 := h1.put (i := 7) (x := 0) (by decide)
  exact ⟨h2.l, h2.r, by show (-1 : Int) ≤ -1 ∧ (-1 : Int) < 8; decide, h2.v, h2.h⟩
theorem goesAll_snoc (d : Dng) (a : List Int) (n : Int) : d.goesAll (a ++ [n]) = (d.goesAll a).goes n.toNat 0 := by
  induction a generalizing d with
  | nil => rfl
  | cons x l ih => exact ih _
theorem goesAll_len (d : Dng) (a : List Int) : (d.goesAll a).ends.length = d.ends.length + a.length ∧ (d.goesAll a).out.woken.length = d.out.woken.length + a.length := by
  induction a generalizing d with
  | nil => exact ⟨rfl, rfl⟩
  | cons x l ih =>
    have := ih (d.goes x.toNat 0)
    simp only [Dng.goes, List.length_append, List.length_cons, List.length_nil] at this
    show (Dng.goesAll (d.goes x.toNat 0) l).ends.length = _ ∧ (Dng.goesAll (d.goes x.toNat 0) l).out.woken.length = _
    rw [List.length_cons]
    exact ⟨by have := this.1; simp only [Dng.goes] at this ⊢; omega, by have := this.2; simp only [Dng.goes] at this ⊢; omega⟩
theorem live_goes {ps : List (Option Nat)} {d : Dng} {m n : Nat} (h : LiveAt ps d.s m) (hn : LiveAt ps d.s n) : LiveAt ps (d.goes n 0).s m := by
  obtain ⟨hn16, q, u, hq, hu, hR⟩ := hn
  have := h.setT (n := n) (hR.wakes (y := 0) (by decide))
  unfold Dng.goes Spc.wake
  simp only
  rw [spc_t hu]; exact this
theorem live_goesAll {ps : List (Option Nat)} (m : Nat) (a : List Int) : ∀ (d : Dng), LiveAt ps d.s m → (∀ w ∈ a, LiveAt ps d.s w.toNat) → LiveAt ps (d.goesAll a).s m := by
  induction a with
  | nil => intro d h _; exact h
  | cons x l ih =>
    intro d h ha
    have hx := ha x List.mem_cons_self
    exact ih _ (live_goes h hx) (fun w hw => live_goes (ha w (List.mem_cons_of_mem _ hw)) hx)
def waitsTo (d : Dng) (k : Nat) : List Int := (d.s.gates.mtx.take k).flatMap fun m => m.wait.map (·.who)
theorem waitsTo_next {d : Dng} {k : Nat} {x : Mtx} (h : d.s.gates.mtx[k]? = some x) : waitsTo d (k + 1) = waitsTo d k ++ x.wait.map (·.who) := by
  unfold waitsTo
  rw [take_snoc h, List.flatMap_append]; simp
theorem sig_mem : ∀ (n : Nat) (c : Int) (r : List Wtr) (ms : List Mtx) (out : List Int), n ≤ r.length → ∀ w ∈ (sigLoop n c r ms out).2.2, w ∈ out ∨ ∃ y ∈ r, y.who = w
  | 0, _, _, _, _, _, _, h => .inl h
  | n + 1, c, r, ms, out, hn, w, h => by
    unfold sigLoop at h
    simp only at h
    obtain ⟨h1, h2, h3⟩ := take_mem (l := r) (c := c) (by omega)
    rcases sig_mem n c _ _ _ (by omega) w h with h | ⟨y, hy, e⟩
    · split at h
      · rcases List.mem_append.1 h with h | h
        · exact .inl h
        · rw [List.mem_singleton] at h; exact .inr ⟨_, h1, h.symm⟩
      · exact .inl h
    · exact .inr ⟨y, h3 y hy, e⟩
theorem sig_len : ∀ (n : Nat) (c : Int) (r : List Wtr) (ms : List Mtx) (out : List Int), (sigLoop n c r ms out).2.2.length ≤ out.length + n
  | 0, _, _, _, _ => by simp [sigLoop]
  | n + 1, c, r, ms, out => by
    unfold sigLoop
    simp only
    refine Nat.le_trans (sig_len n c _ _ _) ?_
    split
    · rw [List.length_append]; simp; omega
    · omega
theorem signal_has {g : Gates} {c ch : Int} {all : Bool} : ∀ w ∈ (g.signal c ch all).1, g.has w := fun w h => by
  unfold Gates.signal at h
  split at h
  · cases h
  · rename_i r e
    rcases sig_mem _ _ _ _ _ (by split <;> omega) w h with h | ⟨y, hy, e2⟩
    · cases h
    · exact .inr (.inl ⟨r, List.mem_of_getElem? (geti_of e).2.2, y, hy, e2⟩)
theorem signal_len {g : Gates} {c ch : Int} {all : Bool} (hg : ∀ r ∈ g.cnd, r.length ≤ 400000) : (g.signal c ch all).1.length ≤ 400000 := by
  unfold Gates.signal
  split
  · simp
  · rename_i r e
    have := hg r (List.mem_of_getElem? (geti_of e).2.2)
    refine Nat.le_trans (sig_len _ _ _ _ _) ?_
    simp only [List.length_nil]
    split <;> omega
theorem sig_mlen : ∀ (n : Nat) (c : Int) (r : List Wtr) (ms : List Mtx) (out : List Int), (sigLoop n c r ms out).2.1.length = ms.length
  | 0, _, _, _, _ => rfl
  | n + 1, c, r, ms, out => by unfold sigLoop; simp only; rw [sig_mlen n, List.length_set]
theorem signal_mlen {g : Gates} {c ch : Int} {all : Bool} : (g.signal c ch all).2.2.mtx.length = g.mtx.length := by
  unfold Gates.signal
  split
  · rfl
  · exact sig_mlen _ _ _ _ _
theorem sig_mwait : ∀ (n : Nat) (c : Int) (r : List Wtr) (ms : List Mtx) (out : List Int) (N : Nat), n ≤ r.length → (∀ x ∈ ms, x.wait.length ≤ N) → ∀ x ∈ (sigLoop n c r ms out).2.1, x.wait.length ≤ N + n ∧ ∀ y ∈ x.wait, (∃ x' ∈ ms, y ∈ x'.wait) ∨ ∃ z ∈ r, z.who = y.who
  | 0, _, _, _, _, _, _, hN, x, h => ⟨hN x h, fun y hy => .inl ⟨x, h, hy⟩⟩
  | n + 1, c, r, ms, out, N, hn, hN, x, h => by
    unfold sigLoop at h
    simp only at h
    obtain ⟨h1, h2, h3⟩ := take_mem (l := r) (c := c) (by omega)
    have hl : ∀ x ∈ ms.set (takeW r c).1.mutex.toNat ((ms.getD (takeW r c).1.mutex.toNat ⟨[], false, 0⟩).lock (takeW r c).1.who).2, x.wait.length ≤ N + 1 ∧ ∀ y ∈ x.wait, (∃ x' ∈ ms, y ∈ x'.wait) ∨ y.who = (takeW r c).1.who := by
      intro x hx
      rcases List.mem_or_eq_of_mem_set hx with hx | rfl
      · exact ⟨by have := hN x hx; omega, fun y hy => .inl ⟨x, hx, hy⟩⟩
      · have hg : ∀ (z : Mtx), (z ∈ ms ∨ z = ⟨[], false, 0⟩) → (z.lock (takeW r c).1.who).2.wait.length ≤ N + 1 ∧ ∀ y ∈ (z.lock (takeW r c).1.who).2.wait, (∃ x' ∈ ms, y ∈ x'.wait) ∨ y.who = (takeW r c).1.who := by
          intro z hz
          have hzl : z.wait.length ≤ N := by
            rcases hz with hz | rfl
            · exact hN z hz
            · exact Nat.zero_le _
          unfold Mtx.lock
          split
          · refine ⟨by rw [List.length_append]; simp; omega, fun y hy => ?_⟩
            rcases List.mem_append.1 hy with hy | hy
            · rcases hz with hz | rfl
              · exact .inl ⟨z, hz, hy⟩
              · cases hy
            · rw [List.mem_singleton] at hy; exact .inr (by rw [hy])
          · refine ⟨by show z.wait.length ≤ _; omega, fun y hy => ?_⟩
            rcases hz with hz | rfl
            · exact .inl ⟨z, hz, hy⟩
            · cases hy
        refine hg _ ?_
        rw [List.getD_eq_getElem?_getD]
        cases e : ms[(takeW r c).1.mutex.toNat]? with
        | none => exact .inr rfl
        | some z => exact .inl (List.mem_of_getElem? e)
    obtain ⟨g1, g2⟩ := sig_mwait n c _ _ _ (N + 1) (by omega) (fun x hx => (hl x hx).1) x h
    refine ⟨by omega, fun y hy => ?_⟩
    rcases g2 y hy with ⟨x', hx', hy'⟩ | ⟨z, hz, e⟩
    · rcases (hl x' hx').2 y hy' with hh | hh
      · exact .inl hh
      · exact .inr ⟨_, h1, hh.symm⟩
    · exact .inr ⟨z, h3 z hz, e⟩
theorem signal_mtx {g : Gates} {c ch : Int} {all : Bool} (h1 : ∀ x ∈ g.mtx, x.wait.length ≤ 400000) (h2 : ∀ r ∈ g.cnd, r.length ≤ 400000) : ∀ x ∈ (g.signal c ch all).2.2.mtx, x.wait.length ≤ 1000000 ∧ ∀ y ∈ x.wait, g.has y.who := by
  intro x hx
  unfold Gates.signal at hx
  split at hx
  · exact ⟨Nat.le_trans (h1 x hx) (by decide), fun y hy => .inl ⟨x, hx, y, hy, rfl⟩⟩
  · rename_i r e
    have hr := List.mem_of_getElem? (geti_of e).2.2
    have hrl := h2 r hr
    obtain ⟨a, b⟩ := sig_mwait _ _ _ _ _ 400000 (by split <;> omega) h1 x hx
    refine ⟨by have : (if all = true then r.length else min r.length 1) ≤ r.length := by split <;> omega
               omega, fun y hy => ?_⟩
    rcases b y hy with ⟨x', hx', hy'⟩ | ⟨z, hz, e2⟩
    · exact .inl ⟨x', hx', y, hy', rfl⟩
    · exact .inr (.inl ⟨r, hr, z, hz, e2⟩)
end Go.SLYtnceicnimongcaaGreat
namespace Go.SLYtnceicnimongcaaGreat
open Go Go.RowKit

structure SpcOk (s : Spc) : Prop where
  lt : s.thr.length = 16
  T : TakeOk s.table
  R : ∀ (n : Nat) (t : Thr), s.thr[n]? = some (some t) → ThrR t ∧ 0 ≤ t.pc ∧ t.pc ≤ 257
  slot : ∀ (h : Int) (m : Nat), slotFind s.table h = some m → ∃ t, s.thr[m]? = some (some t)
  free : ∀ n : Nat, slotFree? s.table 0 = some n → s.thr[n]? = some none
  join : ∀ (n : Nat) (t : Thr), s.thr[n]? = some (some t) → t.why = 0 → ¬ t.joiner = -1 → 0 ≤ t.joiner ∧ t.joiner.toNat ≠ n ∧ ∃ u, s.thr[t.joiner.toNat]? = some (some u)
  recs : s.recs.length ≤ 80000000
  mem : s.mem.length ≤ 1000000
  gl : GatesLen s.gates
  gsem : ∀ x ∈ s.gates.sem, 0 ≤ x.count ∧ x.count ≤ 1048576
  gcnd : ∀ r ∈ s.gates.cnd, ∀ w ∈ r, 0 ≤ w.mutex ∧ w.mutex < (s.gates.mtx.length : Int)
  glive : ∀ w, s.gates.has w → 0 ≤ w ∧ ∃ u, s.thr[w.toNat]? = some (some u)
  gsum : s.prg.mutexes ≤ (s.gates.mtx.length : Int)
  gsm : (∀ x ∈ s.gates.mtx, x.wait.length ≤ 400000) ∧ ∀ r ∈ s.gates.cnd, r.length ≤ 400000
  code : ∀ f ∈ s.prg.funcs, ∀ i ∈ f, InsOk i ∧ (cls i.op ≠ 1 → i.n ≤ 1099511627776) ∧ (i.op = 35 ∨ i.op = 36 → i.n < (s.tubes.length : Int))
  codel : s.prg.funcs.length ≤ 1000000 ∧ ∀ f ∈ s.prg.funcs, f.length ≤ 256
  tl : ∀ u ∈ s.tubes, TubLen u
  tlive : ∀ u ∈ s.tubes, (∀ w ∈ u.gets, 0 ≤ w ∧ ∃ v, s.thr[w.toNat]? = some (some v)) ∧ (∀ x ∈ u.puts, 0 ≤ x.who ∧ ∃ v, s.thr[x.who.toNat]? = some (some v))
  tw : ∀ u ∈ s.tubes, ∀ w ∈ u.words, 0 ≤ w ∧ w ≤ 18446744073709551615
  dw : s.disk.wait.length ≤ 1000000
  db : ∀ r ∈ s.disk.wait, 0 ≤ r.block ∧ r.block < (s.disk.blocks.length : Int)
  dlive : ∀ r ∈ s.disk.wait, 0 ≤ r.who ∧ ∃ v, s.thr[r.who.toNat]? = some (some v)
  wn : 0 ≤ s.wheel.now ∧ s.wheel.now ≤ 1099511627776
  wl : s.wheel.till.length ≤ 1000000
  wlive : ∀ x ∈ s.wheel.till, 0 ≤ x.1 ∧ ∃ v, s.thr[x.1.toNat]? = some (some v)

theorem SpcOk.live {s : Spc} (h : SpcOk s) {ps : List (Option Nat)} (hs : Same ps s.thr) {m : Nat} {t : Thr} (e : s.thr[m]? = some (some t)) : LiveAt ps s m := by
  obtain ⟨q, hq⟩ := hs.2.1 m t e
  exact ⟨h.lt ▸ (List.getElem?_eq_some_iff.1 e).1, q, t, hq, e, (h.R m t e).1⟩
theorem ThrR.frm {t : Thr} (h : ThrR t) (hp : 0 ≤ t.pc ∧ t.pc ≤ 257) : FrmOk t.frm := ⟨h.l, by show 0 ≤ t.pc ∧ t.pc ≤ _; omega, h.r⟩
theorem SpcOk.call {s : Spc} (h : SpcOk s) {ps : List (Option Nat)} (hs : Same ps s.thr) {k : Nat} {t : Thr} {i : Ins} {choice : Int} (ht : s.thr[k]? = some (some t)) (hw : t.why = 0) (hI : InsOk i) (hn : i.n ≤ 1099511627776) (htub : i.op = 35 ∨ i.op = 36 → i.n < (s.tubes.length : Int)) :
    CallOk ps ((s.doing k i choice).setT { t with pc := t.pc + 1 }) { t with pc := t.pc + 1 } := by
  have hk16 : k < 16 := h.lt ▸ (List.getElem?_eq_some_iff.1 ht).1
  have hR := (h.R k t ht).1
  have hR2 : ThrR { t with pc := t.pc + 1 } := ⟨hR.l, hR.r, hR.i, hR.v, hR.h⟩
  have lv : ∀ {m : Nat} {u : Thr}, s.thr[m]? = some (some u) → LiveAt ps (s.setT k { t with pc := t.pc + 1 }) m := fun e => (h.live hs e).setT hR2
  refine ⟨hk16, hR2, ?_, hs.1.trans h.lt, h.T, fun x m e => ?_, fun n e => ?_, fun hj => ?_, hI, hn, Nat.le_trans h.recs (by decide), Nat.zero_le _, Nat.zero_le _, h.mem, h.gl, h.gsem, h.gcnd, fun w hw => ?_, h.gsum, h.gsm, htub, h.tl, fun u hu => ⟨fun w hw => ?_, fun x hx => ?_⟩, h.tw, h.dw, h.wn⟩
  · show (s.thr.set k _).length = 16
    rw [List.length_set]; exact h.lt
  · obtain ⟨u, hu⟩ := h.slot x m e; exact lv hu
  · have := h.free n e
    show (s.thr.set k _)[n]? = _
    rw [List.getElem?_set_ne (fun e => by rw [e, this] at ht; cases ht)]; exact this
  · obtain ⟨a, b, u, hu⟩ := h.join k t ht hw hj
    exact ⟨a, b, lv hu⟩
  · obtain ⟨a, u, hu⟩ := h.glive w hw; exact ⟨a, lv hu⟩
  · obtain ⟨a, u, hu⟩ := (h.tlive u hu).1 w hw; exact ⟨a, lv hu⟩
  · obtain ⟨a, u, hu⟩ := (h.tlive u hu).2 x hx; exact ⟨a, lv hu⟩
theorem SpcOk.joins {s : Spc} (h : SpcOk s) {ps : List (Option Nat)} (hs : Same ps s.thr) {k : Nat} {t : Thr} (ht : s.thr[k]? = some (some t)) (hw : t.why = 0) : ¬ t.joiner = -1 → 0 ≤ t.joiner ∧ t.joiner.toNat ≠ k ∧ LiveAt ps s t.joiner.toNat := fun hj => by
  obtain ⟨a, b, u, hu⟩ := h.join k t ht hw hj
  exact ⟨a, b, h.live hs hu⟩
theorem next_code {s : Spc} (h : SpcOk s) {f : Frm} {i : Ins} (e : nextI s.prg f = some i) : InsOk i ∧ (cls i.op ≠ 1 → i.n ≤ 1099511627776) ∧ (i.op = 35 ∨ i.op = 36 → i.n < (s.tubes.length : Int)) := by
  unfold nextI at e
  split at e
  · cases e
  · have hi := List.mem_of_getElem? e
    cases hf : s.prg.funcs[f.fn.toNat]? with
    | none => rw [List.getD_eq_getElem?_getD, hf] at hi; cases hi
    | some g => rw [List.getD_eq_getElem?_getD, hf] at hi; exact h.code g (List.mem_of_getElem? hf) i hi
theorem at_no {s : Spc} {ps : List (Option Nat)} (hs : Same ps s.thr) {n : Int} (h : atP ps n = none) (hl : s.thr.length = 16) : s.at n = none := by
  unfold atP at h
  unfold Spc.at geti
  split
  · rfl
  · rename_i h0
    by_cases hn : n < 16
    · rw [if_pos ⟨by omega, hn⟩] at h
      obtain ⟨x, hx⟩ := at_some (show n.toNat < s.thr.length by omega)
      rw [hx]
      cases x with
      | none => rfl
      | some t => obtain ⟨q, hq⟩ := hs.2.1 _ t hx; rw [getD_of hq] at h; cases h
    · rw [List.getElem?_eq_none (by omega)]; rfl
theorem at_yes {s : Spc} {ps : List (Option Nat)} (hs : Same ps s.thr) {n : Int} {p : Nat} (h : atP ps n = some p) (hl : s.thr.length = 16) : ∃ k : Nat, ∃ t, n = (k : Int) ∧ k < 16 ∧ ps[k]? = some (some p) ∧ s.thr[k]? = some (some t) ∧ s.at n = some t := by
  unfold atP at h
  split at h
  · rename_i h0
    have hp : ps[n.toNat]? = some (some p) := by
      rw [List.getD_eq_getElem?_getD] at h
      cases e : ps[n.toNat]? with
      | none => rw [e] at h; cases h
      | some x => rw [e] at h; simp only [Option.getD_some] at h; rw [h]
    obtain ⟨x, hx⟩ := at_some (show n.toNat < s.thr.length by omega)
    cases x with
    | none => have := hs.2.2 _ hx; rw [hp] at this; cases this
    | some t => exact ⟨n.toNat, t, by omega, by omega, hp, hx, by unfold Spc.at geti; rw [if_neg (by omega), hx]; rfl⟩
  · cases h

section
variable {P : Program} {W : World}
theorem Fn.byX1 {f : FuncId} {args : List Value} {X X1 : Type} {val : X → Value} {fact : X → Prop} {p : X1 → Prop} {A : X1 → List HProp} (h : ∀ x, p x → Fn P W f args [seps (A x)] X val fact (fun _ => [seps (A x)])) : Fn P W f args [exP1 p A] X val fact (fun _ => [exP1 p A]) := fun F w hs => by
  have h1 : Sat W w (sep (ex fun x : { x // p x } => seps (A x.1)) F) := hs.mono (sep_mono (fun g b => by
    obtain ⟨x, hx, b⟩ : exP1 p A g := by simpa only [seps, sep_emp] using b
    exact ⟨⟨x, hx⟩, b⟩) (fun g b => b))
  obtain ⟨x, h2⟩ := h1.exists
  refine (h x.1 x.2 F w (by simpa only [seps, sep_emp] using h2)).mono ?_
  rintro e w' ⟨y, e1, e2, s⟩
  exact ⟨y, e1, e2, s.mono (sep_mono (fun g b => by
    have b' : seps (A x.1) g := by simpa only [seps, sep_emp] using b
    show seps [exP1 p A] g
    simp only [seps, sep_emp]
    exact ⟨x.1, x.2, b'⟩) (fun g b => b))⟩
end
theorem run_none {s : Spc} {n c : Int} (h : s.at n = none) : s.run n c = (Eff.z, 1, s) := by unfold Spc.run; rw [h]
theorem run_wait {s : Spc} {n c : Int} {t : Thr} (h : s.at n = some t) (hw : t.why ≠ 0) : s.run n c = (Eff.z, 4, s) := by unfold Spc.run; rw [h]; simp only; rw [if_pos hw]
theorem run_end {s : Spc} {k : Nat} {c : Int} {t : Thr} (h : s.at (k : Int) = some t) (hw : ¬ t.why ≠ 0) (hn : nextI s.prg t.frm = none) {z : Dng} (hz : z = ((s.doing k ⟨23, 0, 0, 0, 0⟩ c).tell 0 0 0 true).fin 0) : s.run (k : Int) c = (z.finish.1, 0, z.finish.2) := by
  unfold Spc.run; rw [h]; simp only; rw [if_neg hw, hn]; subst hz; rfl
theorem run_plain {s : Spc} {k : Nat} {c : Int} {t : Thr} {i : Ins} (h : s.at (k : Int) = some t) (hw : ¬ t.why ≠ 0) (hn : nextI s.prg t.frm = some i) (hc : cls i.op = 1) {z : Dng} (hz : z = (s.doing k i c).plain) : s.run (k : Int) c = (z.finish.1, 0, z.finish.2) := by
  unfold Spc.run; rw [h]; simp only; rw [if_neg hw, hn]; simp only; rw [if_pos hc]; subst hz; rfl
theorem run_call {s : Spc} {k : Nat} {c : Int} {t : Thr} {i : Ins} (h : s.at (k : Int) = some t) (hw : ¬ t.why ≠ 0) (hn : nextI s.prg t.frm = some i) (hc : ¬ cls i.op = 1) {z : Dng} (hz : z = ((s.doing k i c).setT { t with pc := t.pc + 1 }).call) : s.run (k : Int) c = (z.finish.1, 0, z.finish.2) := by
  unfold Spc.run; rw [h]; simp only; rw [if_neg hw, hn]; simp only; rw [if_neg hc]; subst hz; rfl
theorem thr_pc (t : Thr) (x : Int) : (thrC t).set 1 (.int .i64 x) = thrC { t with pc := x } := rfl
def prgCells (fv sv pv : Value) (p : Prg) : List Value := [fv, .int .i64 p.words, .int .i64 p.mutexes, .int .i64 p.conds, sv, pv, .int .i64 p.blocks, .int .i64 p.prio]
end Go.SLYtnceicnimongcaaGreat
namespace Go.SLYtnceicnimongcaaGreat
open Go Go.RowKit

def Grew (d e : Dng) (a n : Nat) : Prop := e.s.recs.length ≤ d.s.recs.length + a ∧ e.ends.length ≤ d.ends.length + n
theorem Grew.refl {d : Dng} : Grew d d 0 0 := ⟨Nat.le_refl _, Nat.le_refl _⟩
theorem Grew.up {d e : Dng} {a n a' n' : Nat} (h : Grew d e a n) (ha : a ≤ a') (hn : n ≤ n') : Grew d e a' n' := ⟨Nat.le_trans h.1 (by omega), Nat.le_trans h.2 (by omega)⟩
theorem Grew.trans {d e f : Dng} {a n a' n' : Nat} (h : Grew d e a n) (k : Grew e f a' n') : Grew d f (a + a') (n + n') := ⟨by have := h.1; have := k.1; omega, by have := h.2; have := k.2; omega⟩
theorem Grew.same {d e : Dng} (h1 : e.s.recs = d.s.recs) (h2 : e.ends = d.ends) : Grew d e 0 0 := ⟨by rw [h1]; exact Nat.le_refl _, by rw [h2]; exact Nat.le_refl _⟩
theorem grew_tell {d : Dng} {x y e : Int} {f : Bool} : Grew d (d.tell x y e f) 1 0 := ⟨by simp [Dng.tell, Spc.tell], Nat.le_refl _⟩
theorem grew_pass {d : Dng} {x y e : Int} : Grew d (d.pass x y e) 1 0 := ⟨by simp [Dng.pass, Dng.setT, Spc.setT, Dng.tell, Spc.tell], Nat.le_refl _⟩
theorem grew_block {d : Dng} {w i x y : Int} : Grew d (d.block w i x y) 1 0 := ⟨by simp [Dng.block, Dng.setT, Spc.setT, Dng.tell, Spc.tell], Nat.le_refl _⟩
theorem grew_goes {d : Dng} {n : Nat} {y : Int} : Grew d (d.goes n y) 0 1 := ⟨by simp [Dng.goes, Spc.wake, Spc.setT], by simp [Dng.goes]⟩
theorem grew_fin {d : Dng} {v : Int} : Grew d (d.fin v) 0 1 := by
  unfold Dng.fin
  split
  · exact (Grew.same rfl rfl).up (Nat.le_refl _) (by decide)
  · split
    · exact (Grew.same rfl rfl).up (Nat.le_refl _) (by decide)
    · exact (Grew.same (d := d) (e := d.ended) rfl rfl).trans (grew_goes.trans (Grew.same rfl rfl))
theorem grew_plain {d : Dng} : Grew d d.plain 1 1 := by
  unfold Dng.plain
  split
  · have : ∀ e : Dng, Grew d e 1 0 → ∀ s : Spc, s.recs = e.s.recs → Grew d { e with s := s } 1 1 := fun e h s hs => ⟨by show s.recs.length ≤ _; rw [hs]; exact h.1, Nat.le_trans h.2 (by omega)⟩
    simp only
    refine this _ ?_ _ rfl
    split
    · exact grew_tell
    · split
      · exact grew_tell
      · exact Grew.refl.up (by decide) (by decide)
  · split
    · exact grew_tell.trans grew_fin
    · exact grew_tell.trans grew_fin
theorem grew_given {d : Dng} {n : Int} {ok : Bool} : Grew d (d.given n ok) 0 1 := by
  unfold Dng.given
  split
  · exact grew_goes
  · exact Grew.refl.up (by decide) (by decide)
theorem grew_of {d e f : Dng} {a n : Nat} (h : Grew e f a n) (h1 : e.s.recs = d.s.recs) (h2 : e.ends = d.ends) : Grew d f a n := ⟨by rw [← h1]; exact h.1, by rw [← h2]; exact h.2⟩
theorem begin_recs {s : Spc} {f a : Int} : (s.begin f a).2.2.recs = s.recs := by
  unfold Spc.begin
  split <;> rfl
theorem grew_spawn {d : Dng} : Grew d d.spawn 1 1 := by
  unfold Dng.spawn
  refine Grew.up (a := 1) (n := 0) ?_ (Nat.le_refl _) (by decide)
  exact grew_of grew_pass (begin_recs (s := d.s) (f := d.i.n) (a := d.b)) rfl
theorem grew_join {d : Dng} : Grew d d.join 1 1 := by
  unfold Dng.join
  simp only
  repeat' split
  · exact grew_pass.up (Nat.le_refl _) (by decide)
  · exact (grew_of grew_pass rfl rfl).up (Nat.le_refl _) (by decide)
  · exact (grew_of grew_block rfl rfl).up (Nat.le_refl _) (by decide)
theorem grew_detach {d : Dng} : Grew d d.detach 1 1 := by
  unfold Dng.detach
  simp only
  repeat' split
  · exact grew_pass.up (Nat.le_refl _) (by decide)
  · exact (grew_of grew_pass rfl rfl).up (Nat.le_refl _) (by decide)
  · exact (grew_of grew_pass rfl rfl).up (Nat.le_refl _) (by decide)
theorem grew_mutex {d : Dng} : Grew d d.mutex 1 1 := by
  unfold Dng.mutex
  simp only
  repeat' split
  · exact (grew_of grew_block rfl rfl).up (Nat.le_refl _) (by decide)
  · exact (grew_of grew_pass rfl rfl).up (Nat.le_refl _) (by decide)
  · exact grew_of (grew_pass.trans grew_given) rfl rfl
  · exact (grew_of grew_pass rfl rfl).up (Nat.le_refl _) (by decide)
  · exact grew_of (grew_block.trans grew_given) rfl rfl
theorem grew_sem {d : Dng} : Grew d d.sem 1 1 := by
  unfold Dng.sem
  simp only
  repeat' split
  · exact grew_of (grew_pass.trans grew_given) rfl rfl
  · exact (grew_of grew_block rfl rfl).up (Nat.le_refl _) (by decide)
  · exact (grew_of grew_pass rfl rfl).up (Nat.le_refl _) (by decide)
theorem grew_ask {d : Dng} {b y i : Int} : Grew d (d.ask b y i) 1 1 := by
  unfold Dng.ask
  simp only
  repeat' split
  · exact (grew_of grew_pass rfl rfl).up (Nat.le_refl _) (by decide)
  · exact (grew_of grew_block rfl rfl).up (Nat.le_refl _) (by decide)
  · exact grew_pass.up (Nat.le_refl _) (by decide)
theorem grew_put {d : Dng} : Grew d d.put 1 1 := by
  unfold Dng.put
  simp only
  repeat' split
  · exact (grew_of grew_block rfl rfl).up (Nat.le_refl _) (by decide)
  · exact grew_of (grew_pass.trans grew_goes) rfl rfl
  · exact (grew_of grew_pass rfl rfl).up (Nat.le_refl _) (by decide)
theorem grew_get {d : Dng} : Grew d d.get 1 1 := by
  unfold Dng.get
  simp only
  repeat' split
  · exact (grew_of grew_block rfl rfl).up (Nat.le_refl _) (by decide)
  · exact grew_of (grew_pass.trans grew_goes) rfl rfl
  · exact (grew_of grew_pass rfl rfl).up (Nat.le_refl _) (by decide)
theorem grew_sleep {d : Dng} : Grew d d.sleep 1 1 := by
  unfold Dng.sleep
  simp only
  repeat' split
  · exact grew_pass.up (Nat.le_refl _) (by decide)
  · exact grew_pass.up (Nat.le_refl _) (by decide)
  · exact (grew_of grew_block rfl rfl).up (Nat.le_refl _) (by decide)
theorem grew_kernel {d : Dng} : Grew d d.kernel 1 1 := by
  unfold Dng.kernel
  repeat' split
  · exact grew_ask
  · exact grew_ask
  · exact grew_put
  · exact grew_get
  · exact grew_sleep
  · exact grew_pass.up (Nat.le_refl _) (by decide)
theorem whyAll_recs (s : Spc) (a : List Int) : (whyAll s a).recs = s.recs := by
  induction a generalizing s with
  | nil => rfl
  | cons x l ih => exact (ih _).trans rfl
theorem goesAll_recs (d : Dng) (a : List Int) : (d.goesAll a).s.recs = d.s.recs := by
  induction a generalizing d with
  | nil => rfl
  | cons x l ih => exact (ih _).trans rfl
theorem grew_moved {d : Dng} {l : List Int} : Grew d (d.moved l) 0 l.length := by
  unfold Dng.moved
  refine ⟨?_, ?_⟩
  · rw [goesAll_recs]; show (whyAll d.s d.waits).recs.length ≤ _; rw [whyAll_recs]; exact Nat.le_refl _
  · rw [(goesAll_len _ _).1]; exact Nat.le_refl _
theorem grew_call {d : Dng} (h : ∀ r ∈ d.s.gates.cnd, r.length ≤ 400000) : Grew d d.call 1 400001 := by
  unfold Dng.call
  simp only
  repeat' split
  · exact grew_spawn.up (Nat.le_refl _) (by decide)
  · exact (grew_of grew_pass rfl rfl).up (Nat.le_refl _) (by decide)
  · exact (grew_pass (d := d)).up (Nat.le_refl _) (by decide)
  · exact grew_join.up (Nat.le_refl _) (by decide)
  · exact grew_detach.up (Nat.le_refl _) (by decide)
  · exact (grew_tell.trans grew_fin).up (Nat.le_refl _) (by decide)
  · exact grew_mutex.up (Nat.le_refl _) (by decide)
  · exact (grew_of (grew_pass.trans grew_moved) rfl rfl).up (Nat.le_refl _) (by have := signal_len (c := d.i.n) (ch := d.choice) (all := decide (d.i.op = 29)) h; omega)
  · exact grew_sem.up (Nat.le_refl _) (by decide)
  · exact grew_kernel.up (Nat.le_refl _) (by decide)
end Go.SLYtnceicnimongcaaGreat
namespace Go.SLYtnceicnimongcaaGreat
open Go Go.RowKit

section
variable {P : Program}
theorem eqFields_cons {d : Nat} {xs ys : Array Value} {f : Field} {fs : List Field} {a b : Value} {r : Bool} {w : World} (hn : (f.name != "_") = true) (pa : Part P f.type xs f.offset a) (pb : Part P f.type ys f.offset b) (h : (Op.equalIn d f.type a b).run P w = .ok r w) :
    (Op.eqFields d xs ys (f :: fs)).run P w = if r = true then (Op.eqFields d xs ys fs).run P w else .ok false w := by
  simp only [Op.eqFields, Sem.run_bind, Sem.run_ite, pa w, pb w, Result.andThen_ok, h]
  cases r
  · simp; intro e; simp [e] at hn
  · simp
end
def thdE (t : Thr) : List Value := [.int .u64 t.handle, .int .i64 t.why, .int .i64 t.fn, .int .i64 t.pc, .int .u64 (t.regs.getD 0 0), .int .u64 (t.regs.getD 1 0), .int .u64 (t.regs.getD 2 0), .int .u64 (t.regs.getD 3 0), .int .u64 (t.regs.getD 4 0), .int .u64 (t.regs.getD 5 0), .int .u64 (t.regs.getD 6 0), .int .u64 (t.regs.getD 7 0), .int .u64 t.value]
def thrY : Thr := ⟨0, 0, [], 0, 0, 0, false, 0, 0, 0⟩
theorem class_none {s : Spc} {n : Int} (h : s.at n = none) : s.class n = 0 := by unfold Spc.class; rw [h]
theorem class_wait {s : Spc} {n : Int} {t : Thr} (h : s.at n = some t) (hw : t.why ≠ 0) : s.class n = 0 := by unfold Spc.class; rw [h]; simp only; rw [if_pos hw]
theorem class_end {s : Spc} {n : Int} {t : Thr} (h : s.at n = some t) (hw : ¬ t.why ≠ 0) (hn : nextI s.prg t.frm = none) : s.class n = 2 := by unfold Spc.class; rw [h]; simp only; rw [if_neg hw, hn]
theorem class_some {s : Spc} {n : Int} {t : Thr} {i : Ins} (h : s.at n = some t) (hw : ¬ t.why ≠ 0) (hn : nextI s.prg t.frm = some i) : s.class n = cls i.op := by unfold Spc.class; rw [h]; simp only; rw [if_neg hw, hn]
theorem spc_done_no {s : Spc} {k : Int} (h : (s.disk.done k).2.2.1 = false) : s.done k = (Eff.z, 3, s) := by unfold Spc.done; simp only; rw [if_pos h]
theorem spc_done_ok {s : Spc} {k : Int} {t : Thr} (h : (s.disk.done k).2.2.1 = true) (ht : s.thr[(s.disk.done k).1.who.toNat]? = some (some t)) :
    s.done k = (⟨[(s.disk.done k).1.who], false, false, false⟩, 0, (({ s with disk := (s.disk.done k).2.2.2 } : Spc).wake (s.disk.done k).1.who.toNat (s.disk.done k).2.1).tell (t.woke (s.disk.done k).2.1)) := by
  unfold Spc.done; simp only; rw [if_neg (by rw [h]; simp), show ({ s with disk := (s.disk.done k).2.2.2 } : Spc).t (s.disk.done k).1.who.toNat = t from spc_t ht]
theorem wakeAll_recs (s : Spc) (a : List Int) : (wakeAll s a).recs.length = s.recs.length + a.length := by
  induction a generalizing s with
  | nil => rfl
  | cons x l ih =>
    show (wakeAll _ l).recs.length = _
    rw [ih]; simp [Spc.tell, Spc.wake, Spc.setT]; omega
theorem sortI_len (l : List Int) : (sortI l).length = l.length := by
  induction l with
  | nil => rfl
  | cons a l ih =>
    have hi : ∀ (m : List Int), (insSorted a m).length = m.length + 1 := by
      intro m
      induction m with
      | nil => rfl
      | cons b m ihm => unfold insSorted; split <;> simp [ihm]
    show (insSorted a (sortI l)).length = _
    rw [hi, ih, List.length_cons]
theorem due_len2 (w : Whl) : w.due.length ≤ w.till.length := by
  unfold Whl.due; rw [sortI_len, List.length_map]; exact List.length_filter_le ..
end Go.SLYtnceicnimongcaaGreat
namespace Go.SLYtnceicnimongcaaGreat
open Go Go.RowKit

def sumN {α : Type} (f : α → Nat) (l : List α) : Nat := (l.map f).sum
theorem sumN_set {α : Type} {f : α → Nat} : ∀ {l : List α} {i : Nat} {x : α} (y : α), l[i]? = some x → sumN f (l.set i y) + f x = sumN f l + f y
  | a :: l, 0, x, y, h => by
    obtain rfl : a = x := by simpa using h
    simp [sumN]; omega
  | a :: l, i + 1, x, y, h => by
    have := sumN_set (f := f) (l := l) (i := i) y (by simpa using h)
    simp [sumN] at this ⊢; omega
theorem sumN_ge {α : Type} {f : α → Nat} : ∀ {l : List α} {x : α}, x ∈ l → f x ≤ sumN f l
  | a :: l, x, h => by
    rcases List.mem_cons.1 h with rfl | h
    · simp [sumN]
    · have := sumN_ge (f := f) h
      simp [sumN] at this ⊢; omega
theorem sumN_zero {α : Type} {f : α → Nat} {l : List α} (h : ∀ x ∈ l, f x = 0) : sumN f l = 0 := by
  induction l with
  | nil => rfl
  | cons a l ih =>
    have := ih (fun x hx => h x (List.mem_cons_of_mem _ hx))
    have := h a List.mem_cons_self
    simp [sumN] at *; omega
theorem countP_erase {α : Type} {P : α → Bool} : ∀ {l : List α} {i : Nat} {x : α}, l[i]? = some x → (l.eraseIdx i).countP P + (if P x = true then 1 else 0) = l.countP P
  | a :: l, 0, x, h => by
    obtain rfl : a = x := by simpa using h
    simp [List.countP_cons]
  | a :: l, i + 1, x, h => by
    have := countP_erase (P := P) (l := l) (i := i) (x := x) (by simpa using h)
    simp [List.countP_cons] at this ⊢; omega

def isW (w : Int) (x : Wtr) : Bool := decide (x.who = w)
def cRow (w : Int) (l : List Wtr) : Nat := l.countP (isW w)
def cG (g : Gates) (w : Int) : Nat := sumN (fun m : Mtx => cRow w m.wait) g.mtx + sumN (cRow w) g.cnd + sumN (fun m : Smp => cRow w m.wait) g.sem
def cU (w : Int) (u : Tub) : Nat := u.gets.count w + u.puts.countP fun x => decide (x.who = w)
def cT (l : List Tub) (w : Int) : Nat := sumN (cU w) l
def cD (d : Dsk) (w : Int) : Nat := d.wait.countP fun r => decide (r.who = w)
def cL (u : Whl) (w : Int) : Nat := u.till.countP fun x => decide (x.1 = w)
def jn (w : Int) : Option Thr → Nat
  | none => 0
  | some t => if t.joiner = w ∧ ¬ w = -1 then 1 else 0
def cJ (l : List (Option Thr)) (w : Int) : Nat := sumN (jn w) l
def cnt (s : Spc) (w : Int) : Nat := cG s.gates w + cT s.tubes w + cD s.disk w + cL s.wheel w + cJ s.thr w
def bT (t : Thr) : Nat := if t.why = 0 ∨ t.why = 9 then 0 else 1
def bO : Option Thr → Nat
  | none => 0
  | some t => bT t
def rO : Option Thr → Nat
  | none => 0
  | some t => if t.why = 0 then 1 else 0
def blkS (s : Spc) (w : Int) : Nat := bO (s.at w)
def rdy (s : Spc) (w : Int) : Nat := rO (s.at w)
def W64 (x : Int) : Prop := 0 ≤ x ∧ x ≤ 18446744073709551615
structure GOk (p : Prg) (g : Gates) : Prop where
  m : g.mtx.length = p.mutexes.toNat
  c : g.cnd.length = p.conds.toNat
  s : g.sem.length = p.sems.length
  sc : ∀ x ∈ g.sem, 0 ≤ x.count ∧ x.count ≤ 1048576
  cm : ∀ r ∈ g.cnd, ∀ w ∈ r, 0 ≤ w.mutex ∧ w.mutex < (g.mtx.length : Int)
structure TOk (u : Tub) : Prop where
  r : u.room ≤ 8
  l : u.words.length ≤ 8
  w : ∀ x ∈ u.words, W64 x
  p : ∀ x ∈ u.puts, W64 x.x
structure DkOk (d : Dsk) : Prop where
  l : d.blocks.length ≤ 64
  b : ∀ x ∈ d.blocks, W64 x
  w : ∀ r ∈ d.wait, 0 ≤ r.block ∧ r.block < (d.blocks.length : Int) ∧ W64 r.x
structure HOk (o : Bool × Int) (n : Nat) (t : Thr) : Prop where
  h : t.handle = slotH o.2 n
  R : ThrR t
  pc : 0 ≤ t.pc ∧ t.pc ≤ 257
  d : t.detached = true → t.joiner = -1
  f : t.why = 9 → t.joiner = -1
def PrgOk (p : Prg) : Prop := checkI p = 0 ∧ ∀ f ∈ p.funcs, ∀ i ∈ f, W64 i.n
structure Ok (k : Nat) (s : Spc) (p q : List Int) : Prop where
  chk : PrgOk s.prg
  lt : s.thr.length = 16
  ll : s.table.length = 16
  tk : ∀ o ∈ s.table, 0 ≤ o.2 ∧ o.2 ≤ (k : Int)
  us : ∀ n : Nat, n < 16 → ((s.table.getD n (false, 0)).1 = true ↔ ∃ t, s.thr[n]? = some (some t))
  th : ∀ (n : Nat) (t : Thr), s.thr[n]? = some (some t) → HOk (s.table.getD n (false, 0)) n t
  me : s.mem.length = s.prg.words.toNat ∧ ∀ x ∈ s.mem, W64 x
  gt : GOk s.prg s.gates
  tb : s.tubes.length = s.prg.pipes.length ∧ ∀ u ∈ s.tubes, TOk u
  dk : DkOk s.disk
  wl : 0 ≤ s.wheel.now ∧ s.wheel.now ≤ 1099511627776
  bal : ∀ w, cnt s w + p.count w = blkS s w + q.count w

/-! who is at a place -/
theorem at_nat {s : Spc} {n : Nat} : s.at (n : Int) = (s.thr[n]?).getD none := by
  unfold Spc.at geti; rw [if_neg (by omega), Int.toNat_natCast]
theorem at_neg {s : Spc} {w : Int} (h : w < 0) : s.at w = none := by unfold Spc.at geti; rw [if_pos h]; rfl
theorem at_set {s : Spc} {n : Nat} {o : Option Thr} (hn : n < s.thr.length) (w : Int) : ({ s with thr := s.thr.set n o } : Spc).at w = if w = (n : Int) then o else s.at w := by
  by_cases h0 : w < 0
  · rw [at_neg h0, at_neg h0, if_neg (by omega)]
  · obtain ⟨m, rfl⟩ : ∃ m : Nat, w = (m : Int) := ⟨w.toNat, by omega⟩
    rw [at_nat, at_nat]
    simp only
    by_cases e : m = n
    · subst e; rw [List.getElem?_set_self hn, if_pos rfl]; rfl
    · rw [List.getElem?_set_ne (fun h => e h.symm), if_neg (by omega)]
theorem at_of {s : Spc} {n : Nat} {t : Thr} (h : s.thr[n]? = some (some t)) : s.at (n : Int) = some t := by rw [at_nat, h]; rfl
theorem of_at {s : Spc} {w : Int} {t : Thr} (h : s.at w = some t) : 0 ≤ w ∧ s.thr[w.toNat]? = some (some t) := by
  by_cases h0 : w < 0
  · rw [at_neg h0] at h; cases h
  · obtain ⟨m, rfl⟩ : ∃ m : Nat, w = (m : Int) := ⟨w.toNat, by omega⟩
    rw [at_nat] at h
    refine ⟨by omega, ?_⟩
    rw [Int.toNat_natCast]
    cases e : s.thr[m]? with
    | none => rw [e] at h; cases h
    | some o => rw [e] at h; exact congrArg some h
theorem blk_pos {s : Spc} {w : Int} (h : 0 < blkS s w) : ∃ t, s.at w = some t ∧ t.why ≠ 0 ∧ t.why ≠ 9 := by
  unfold blkS bO at h
  cases e : s.at w with
  | none => rw [e] at h; exact absurd h (by simp)
  | some t =>
    rw [e] at h; simp only [bT] at h
    split at h
    · exact absurd h (by simp)
    · exact ⟨t, rfl, by omega, by omega⟩
theorem blk_le {s : Spc} {w : Int} : blkS s w ≤ 1 := by
  unfold blkS bO
  split
  · omega
  · unfold bT; split <;> omega
theorem bT_run {t : Thr} (h : t.why = 0) : bT t = 0 := by unfold bT; rw [if_pos (.inl h)]
theorem bT_blk {t : Thr} (h : t.why ≠ 0) (h9 : t.why ≠ 9) : bT t = 1 := by unfold bT; rw [if_neg (by omega)]

/-! steps that keep a space in order -/
section
variable {k : Nat} {s : Spc} {p q : List Int}
theorem Ok.recs (h : Ok k s p q) (l : List Rec) : Ok k { s with recs := l } p q := ⟨h.chk, h.lt, h.ll, h.tk, h.us, h.th, h.me, h.gt, h.tb, h.dk, h.wl, h.bal⟩
theorem Ok.bal' (h : Ok k s p q) {p' q' : List Int} (e : ∀ w, p'.count w + q.count w = p.count w + q'.count w) : Ok k s p' q' := ⟨h.chk, h.lt, h.ll, h.tk, h.us, h.th, h.me, h.gt, h.tb, h.dk, h.wl, fun w => by have := h.bal w; have := e w; omega⟩
theorem Ok.more (h : Ok k s p q) {k' : Nat} (hk : k ≤ k') : Ok k' s p q := ⟨h.chk, h.lt, h.ll, fun o ho => by have := h.tk o ho; omega, h.us, h.th, h.me, h.gt, h.tb, h.dk, h.wl, h.bal⟩
theorem Ok.mem (h : Ok k s p q) {m : List Int} (hl : m.length = s.mem.length) (hw : ∀ x ∈ m, W64 x) : Ok k { s with mem := m } p q := ⟨h.chk, h.lt, h.ll, h.tk, h.us, h.th, ⟨hl.trans h.me.1, hw⟩, h.gt, h.tb, h.dk, h.wl, h.bal⟩
theorem Ok.gates (h : Ok k s p q) {g : Gates} (hg : GOk s.prg g) {p' q' : List Int} (e : ∀ w, cG g w + p'.count w + q.count w = cG s.gates w + p.count w + q'.count w) : Ok k { s with gates := g } p' q' :=
  ⟨h.chk, h.lt, h.ll, h.tk, h.us, h.th, h.me, hg, h.tb, h.dk, h.wl, fun w => by
    have h1 := h.bal w; have h2 := e w
    have h3 : blkS { s with gates := g } w = blkS s w := rfl
    rw [h3]; unfold cnt at h1 ⊢; simp only; omega⟩
theorem Ok.tubes (h : Ok k s p q) {l : List Tub} (hl : l.length = s.tubes.length) (hu : ∀ u ∈ l, TOk u) {p' q' : List Int} (e : ∀ w, cT l w + p'.count w + q.count w = cT s.tubes w + p.count w + q'.count w) : Ok k { s with tubes := l } p' q' :=
  ⟨h.chk, h.lt, h.ll, h.tk, h.us, h.th, h.me, h.gt, ⟨hl.trans h.tb.1, hu⟩, h.dk, h.wl, fun w => by
    have h1 := h.bal w; have h2 := e w
    have h3 : blkS { s with tubes := l } w = blkS s w := rfl
    rw [h3]; unfold cnt at h1 ⊢; simp only; omega⟩
theorem Ok.disk (h : Ok k s p q) {d : Dsk} (hd : DkOk d) {p' q' : List Int} (e : ∀ w, cD d w + p'.count w + q.count w = cD s.disk w + p.count w + q'.count w) : Ok k { s with disk := d } p' q' :=
  ⟨h.chk, h.lt, h.ll, h.tk, h.us, h.th, h.me, h.gt, h.tb, hd, h.wl, fun w => by
    have h1 := h.bal w; have h2 := e w
    have h3 : blkS { s with disk := d } w = blkS s w := rfl
    rw [h3]; unfold cnt at h1 ⊢; simp only; omega⟩
theorem Ok.wheel (h : Ok k s p q) {u : Whl} (hu : 0 ≤ u.now ∧ u.now ≤ 1099511627776) {p' q' : List Int} (e : ∀ w, cL u w + p'.count w + q.count w = cL s.wheel w + p.count w + q'.count w) : Ok k { s with wheel := u } p' q' :=
  ⟨h.chk, h.lt, h.ll, h.tk, h.us, h.th, h.me, h.gt, h.tb, h.dk, hu, fun w => by
    have h1 := h.bal w; have h2 := e w
    have h3 : blkS { s with wheel := u } w = blkS s w := rfl
    rw [h3]; unfold cnt at h1 ⊢; simp only; omega⟩
theorem Ok.setT (h : Ok k s p q) {n : Nat} {t t' : Thr} (ht : s.thr[n]? = some (some t)) (hh : HOk (s.table.getD n (false, 0)) n t') {p' q' : List Int}
    (e : ∀ w, jn w (some t') + (if w = (n : Int) then bT t else 0) + p'.count w + q.count w = jn w (some t) + (if w = (n : Int) then bT t' else 0) + p.count w + q'.count w) : Ok k (s.setT n t') p' q' := by
  have hn : n < s.thr.length := (List.getElem?_eq_some_iff.1 ht).1
  refine ⟨h.chk, ?_, h.ll, h.tk, fun m hm => ?_, fun m u hu => ?_, h.me, h.gt, h.tb, h.dk, h.wl, fun w => ?_⟩
  · show (s.thr.set n _).length = 16; rw [List.length_set]; exact h.lt
  · refine (h.us m hm).trans ?_
    show (∃ t, s.thr[m]? = _) ↔ ∃ t, (s.thr.set n (some t'))[m]? = _
    by_cases e : n = m
    · subst e; rw [List.getElem?_set_self hn]; exact ⟨fun _ => ⟨_, rfl⟩, fun _ => ⟨_, ht⟩⟩
    · rw [List.getElem?_set_ne e]
  · have hu : (s.thr.set n (some t'))[m]? = some (some u) := hu
    by_cases e : n = m
    · subst e; rw [List.getElem?_set_self hn] at hu; cases hu; exact hh
    · rw [List.getElem?_set_ne e] at hu; exact h.th m u hu
  · have h1 := h.bal w; have h2 := e w
    have h3 : cJ (s.setT n t').thr w + jn w (some t) = cJ s.thr w + jn w (some t') := sumN_set (f := jn w) (some t') ht
    have h4 : blkS (s.setT n t') w + (if w = (n : Int) then bT t else 0) = blkS s w + (if w = (n : Int) then bT t' else 0) := by
      unfold blkS
      rw [show (s.setT n t').at w = _ from at_set hn w]
      by_cases e : w = (n : Int)
      · subst e; simp only [if_pos]; rw [at_of ht]; simp only [bO]; omega
      · simp only [if_neg e]
    have h5 : cnt (s.setT n t') w = cG s.gates w + cT s.tubes w + cD s.disk w + cL s.wheel w + cJ (s.setT n t').thr w := rfl
    rw [h5]; unfold cnt at h1; omega
end
end Go.SLYtnceicnimongcaaGreat
namespace Go.SLYtnceicnimongcaaGreat
open Go Go.RowKit

section
variable {k : Nat} {s : Spc} {p q : List Int}
theorem find_own {l : List (Bool × Int)} {n : Nat} (hn : n < 16) (hl : l.length = 16) (h1 : (l.getD n (false, 0)).1 = true) (_h0 : 0 ≤ (l.getD n (false, 0)).2) : slotFind l (slotH (l.getD n (false, 0)).2 n) = some n := by
  unfold slotFind
  have e : slotH (l.getD n (false, 0)).2 n % 65536 = (n : Int) + 1 := by unfold slotH; omega
  rw [e, if_neg (by omega), show ((n : Int) + 1 - 1).toNat = n from by omega]
  have hx := getD_some (d := (false, (0 : Int))) (show n < l.length by omega)
  rw [hx]
  simp only
  rw [if_pos (by simp only [and_true]; exact h1)]
theorem Ok.freed (h : Ok k s p q) {n : Nat} {t : Thr} (ht : s.thr[n]? = some (some t)) : s.free n = { s with table := s.table.set n (false, (s.table.getD n (false, 0)).2), thr := s.thr.set n none } := by
  have hn : n < 16 := h.lt ▸ (List.getElem?_eq_some_iff.1 ht).1
  have hx := getD_some (d := (false, (0 : Int))) (show n < s.table.length by rw [h.ll]; exact hn)
  have h0 := h.tk _ (List.mem_of_getElem? hx)
  unfold Spc.free
  rw [spc_t ht, (h.th n t ht).h, freed_some (find_own hn h.ll ((h.us n hn).2 ⟨t, ht⟩) h0.1)]
  rfl
theorem Ok.free (h : Ok k s p q) {n : Nat} {t : Thr} (ht : s.thr[n]? = some (some t)) {p' q' : List Int}
    (e : ∀ w, (if w = (n : Int) then bT t else 0) + p'.count w + q.count w = jn w (some t) + p.count w + q'.count w) : Ok k (s.free n) p' q' := by
  have hn : n < s.thr.length := (List.getElem?_eq_some_iff.1 ht).1
  have hn16 : n < 16 := h.lt ▸ hn
  have hlt : n < s.table.length := by rw [h.ll]; exact hn16
  have hx := getD_some (d := (false, (0 : Int))) hlt
  rw [h.freed ht]
  refine ⟨h.chk, ?_, ?_, fun o ho => ?_, fun m hm => ?_, fun m u hu => ?_, h.me, h.gt, h.tb, h.dk, h.wl, fun w => ?_⟩
  · show (s.thr.set n _).length = 16; rw [List.length_set]; exact h.lt
  · show (s.table.set n _).length = 16; rw [List.length_set]; exact h.ll
  · rcases List.mem_or_eq_of_mem_set ho with ho | rfl
    · exact h.tk o ho
    · show 0 ≤ (s.table.getD n (false, 0)).2 ∧ _
      exact h.tk _ (List.mem_of_getElem? hx)
  · show ((s.table.set n _).getD m (false, 0)).1 = true ↔ ∃ t, (s.thr.set n none)[m]? = _
    by_cases e : n = m
    · subst e
      rw [List.getElem?_set_self hn, List.getD_eq_getElem?_getD, List.getElem?_set_self hlt]
      exact ⟨fun h => (by cases h), fun ⟨t, h⟩ => (by cases h)⟩
    · rw [List.getElem?_set_ne e, List.getD_eq_getElem?_getD, List.getElem?_set_ne e, ← List.getD_eq_getElem?_getD]
      exact h.us m hm
  · have hu : (s.thr.set n none)[m]? = some (some u) := hu
    by_cases e : n = m
    · subst e; rw [List.getElem?_set_self hn] at hu; cases hu
    · rw [List.getElem?_set_ne e] at hu
      show HOk ((s.table.set n _).getD m (false, 0)) m u
      rw [List.getD_eq_getElem?_getD, List.getElem?_set_ne e, ← List.getD_eq_getElem?_getD]
      exact h.th m u hu
  · have h1 := h.bal w; have h2 := e w
    have h3 : cJ (s.thr.set n none) w + jn w (some t) = cJ s.thr w + 0 := sumN_set (f := jn w) none ht
    have h4 : blkS { s with thr := s.thr.set n none } w + (if w = (n : Int) then bT t else 0) = blkS s w := by
      unfold blkS
      rw [at_set hn w]
      by_cases e : w = (n : Int)
      · subst e; simp only [if_pos]; rw [at_of ht]; simp only [bO]; omega
      · simp only [if_neg e]; omega
    have h5 : blkS { s with table := s.table.set n (false, (s.table.getD n (false, 0)).2), thr := s.thr.set n none } w = blkS { s with thr := s.thr.set n none } w := rfl
    rw [h5]
    unfold cnt at h1 ⊢
    simp only
    omega
theorem Ok.begin (h : Ok k s p q) (hk : k ≤ 1000000) {f arg : Int} (ha : W64 arg) : Ok (k + 1) (s.begin f arg).2.2 p q := by
  cases hf : slotFree? s.table 0 with
  | none => rw [begin_no hf]; exact h.more (Nat.le_succ _)
  | some n =>
    have hfr : ∀ (l : List (Bool × Int)) (i n : Nat), slotFree? l i = some n → i ≤ n ∧ ∃ o, l[n - i]? = some o ∧ o.1 = false := by
      intro l
      induction l with
      | nil => intro i n h; cases h
      | cons o l ih =>
        intro i n h
        unfold slotFree? at h
        split at h
        · obtain ⟨a, o', b, c⟩ := ih (i + 1) n h
          exact ⟨by omega, o', by rw [show n - i = (n - (i + 1)) + 1 from by omega]; simpa using b, c⟩
        · cases h; rename_i hb
          exact ⟨Nat.le_refl _, o, by simp, by simpa using hb⟩
    obtain ⟨-, o, ho, ho1⟩ := hfr _ _ _ hf
    rw [Nat.sub_zero] at ho
    have hlt : n < s.table.length := (List.getElem?_eq_some_iff.1 ho).1
    have hn16 : n < 16 := h.ll ▸ hlt
    have hn : n < s.thr.length := by rw [h.lt]; exact hn16
    have hgd : s.table.getD n (false, 0) = o := by rw [List.getD_eq_getElem?_getD, ho]; rfl
    have hno : s.thr[n]? = some none := by
      obtain ⟨x, hx⟩ := at_some hn
      cases x with
      | none => exact hx
      | some t => have := (h.us n hn16).2 ⟨t, hx⟩; rw [hgd, ho1] at this; cases this
    have htk := h.tk o (List.mem_of_getElem? ho)
    rw [begin_ok hf, hgd]
    refine ⟨h.chk, ?_, ?_, fun o' ho' => ?_, fun m hm => ?_, fun m u hu => ?_, h.me, h.gt, h.tb, h.dk, h.wl, fun w => ?_⟩
    · show (s.thr.set n _).length = 16; rw [List.length_set]; exact h.lt
    · show (s.table.set n _).length = 16; rw [List.length_set]; exact h.ll
    · rcases List.mem_or_eq_of_mem_set ho' with ho' | rfl
      · have := h.tk o' ho'; omega
      · show 0 ≤ o.2 + 1 ∧ o.2 + 1 ≤ ((k + 1 : Nat) : Int); omega
    · show ((s.table.set n _).getD m (false, 0)).1 = true ↔ ∃ t, (s.thr.set n _)[m]? = _
      by_cases e : n = m
      · subst e
        rw [List.getElem?_set_self hn, List.getD_eq_getElem?_getD, List.getElem?_set_self hlt]
        exact ⟨fun _ => ⟨_, rfl⟩, fun _ => rfl⟩
      · rw [List.getElem?_set_ne e, List.getD_eq_getElem?_getD, List.getElem?_set_ne e, ← List.getD_eq_getElem?_getD]
        exact h.us m hm
    · have hu : (s.thr.set n _)[m]? = some (some u) := hu
      by_cases e : n = m
      · subst e; rw [List.getElem?_set_self hn] at hu; cases hu
        show HOk ((s.table.set n _).getD n (false, 0)) n _
        rw [List.getD_eq_getElem?_getD, List.getElem?_set_self hlt]
        refine ⟨rfl, ⟨rfl, fun m => ?_, by show (-1 : Int) ≤ -1 ∧ (-1 : Int) < 8; decide, by show (0 : Int) ≤ 0 ∧ (0 : Int) ≤ _; decide, ?_⟩, by show (0 : Int) ≤ 0 ∧ (0 : Int) ≤ 257; decide, fun h => (by cases h), fun h => rfl⟩
        · have h0 : (0 : Int) ≤ 0 ∧ (0 : Int) ≤ 18446744073709551615 := by decide
          show 0 ≤ ([arg, 0, 0, 0, 0, 0, 0, 0] : List Int).getD m 0 ∧ _
          match m with
          | 0 => exact ha
          | 1 => exact h0
          | 2 => exact h0
          | 3 => exact h0
          | 4 => exact h0
          | 5 => exact h0
          | 6 => exact h0
          | 7 => exact h0
          | m + 8 => exact h0
        · show 0 ≤ slotH (o.2 + 1) n ∧ slotH (o.2 + 1) n ≤ _; unfold slotH; omega
      · rw [List.getElem?_set_ne e] at hu
        show HOk ((s.table.set n _).getD m (false, 0)) m u
        rw [List.getD_eq_getElem?_getD, List.getElem?_set_ne e, ← List.getD_eq_getElem?_getD]
        exact h.th m u hu
    · have h1 := h.bal w
      have h3 : cJ (s.thr.set n (some (thr0 f arg (slotH (o.2 + 1) n)))) w + 0 = cJ s.thr w + jn w (some (thr0 f arg (slotH (o.2 + 1) n))) := sumN_set (f := jn w) _ hno
      have hj : jn w (some (thr0 f arg (slotH (o.2 + 1) n))) = 0 := by unfold jn; exact if_neg (by rintro ⟨a, b⟩; exact b a.symm)
      have h4 : blkS { s with thr := s.thr.set n (some (thr0 f arg (slotH (o.2 + 1) n))) } w = blkS s w := by
        unfold blkS
        rw [at_set hn w]
        by_cases e : w = (n : Int)
        · subst e; simp only [if_pos]; rw [at_nat, hno]; rfl
        · simp only [if_neg e]
      have h5 : blkS { s with table := s.table.set n (true, o.2 + 1), thr := s.thr.set n (some (thr0 f arg (slotH (o.2 + 1) n))) } w = blkS { s with thr := s.thr.set n (some (thr0 f arg (slotH (o.2 + 1) n))) } w := rfl
      rw [h5]
      unfold cnt at h1 ⊢
      simp only
      omega
end
end Go.SLYtnceicnimongcaaGreat
namespace Go.SLYtnceicnimongcaaGreat
open Go Go.RowKit

def opn (V : List Rec) (h : Int) : Option Int := match (V.filter fun r => decide (r.thread = h)).getLast? with | none => none | some r => if r.fin = true then none else some r.op
theorem opn_same {V : List Rec} {r : Rec} {h : Int} (e : r.thread = h) : opn (V ++ [r]) h = if r.fin = true then none else some r.op := by
  unfold opn; rw [List.filter_append]; simp [e]
theorem opn_other {V : List Rec} {r : Rec} {h : Int} (e : r.thread ≠ h) : opn (V ++ [r]) h = opn V h := by
  unfold opn; rw [List.filter_append]; simp [e]
def Pairs (V : List Rec) : Prop := ∀ a r b, V = a ++ r :: b → ∀ op, opn a r.thread = some op → r.fin = true ∧ r.op = op ∧ r.x = 0 ∧ r.result = 0
theorem Pairs.nil : Pairs [] := fun a r b e => by cases a <;> cases e
theorem Pairs.snoc {V : List Rec} {r : Rec} (h : Pairs V) (hr : ∀ op, opn V r.thread = some op → r.fin = true ∧ r.op = op ∧ r.x = 0 ∧ r.result = 0) : Pairs (V ++ [r]) := fun a q b e => by
  rcases List.eq_nil_or_concat b with rfl | ⟨b', z, rfl⟩
  · have := List.append_inj' e rfl
    obtain ⟨rfl, h2⟩ := this
    cases h2
    exact hr
  · rw [List.concat_eq_append, ← List.cons_append, ← List.append_assoc] at e
    have := List.append_inj' e rfl
    exact h a q b' this.1
structure RecI (s : Spc) (V : List Rec) : Prop where
  pr : Pairs V
  op : ∀ (n : Nat) (t : Thr), s.thr[n]? = some (some t) → opn V t.handle = if bT t = 1 then some t.op else none
  hd : ∀ r ∈ V, ∃ (n : Nat) (k : Int), n < 16 ∧ r.thread = slotH k n ∧ k ≤ (s.table.getD n (false, 0)).2
theorem slotH_inj {a b : Int} {n m : Nat} (hn : n < 16) (hm : m < 16) (h : slotH a n = slotH b m) : n = m ∧ a = b := by unfold slotH at h; omega
section
variable {k : Nat} {s : Spc} {p q : List Int} {V : List Rec} {n : Nat} {t t' : Thr}
theorem RecI.of (h : RecI s V) {s' : Spc} (e1 : s'.thr = s.thr) (e2 : s'.table = s.table) : RecI s' V := ⟨h.pr, fun n t ht => h.op n t (by rw [← e1]; exact ht), fun r hr => by rw [e2]; exact h.hd r hr⟩
theorem handle_ne (hO : Ok k s p q) {m : Nat} {u : Thr} (ht : s.thr[n]? = some (some t)) (hu : s.thr[m]? = some (some u)) (hne : n ≠ m) : t.handle ≠ u.handle := fun e => by
  rw [(hO.th n t ht).h, (hO.th m u hu).h] at e
  exact hne (slotH_inj (hO.lt ▸ (List.getElem?_eq_some_iff.1 ht).1) (hO.lt ▸ (List.getElem?_eq_some_iff.1 hu).1) e).1
theorem RecI.snocSet (h : RecI s V) (hO : Ok k s p q) (ht : s.thr[n]? = some (some t)) {r : Rec} (hr : r.thread = t.handle) (hh : t'.handle = t.handle) (hp : ∀ op, opn V t.handle = some op → r.fin = true ∧ r.op = op ∧ r.x = 0 ∧ r.result = 0)
    (he : (if r.fin = true then none else some r.op) = if bT t' = 1 then some t'.op else none) : RecI (s.setT n t') (V ++ [r]) := by
  have hn : n < s.thr.length := (List.getElem?_eq_some_iff.1 ht).1
  refine ⟨h.pr.snoc (by rw [hr]; exact hp), fun m u hu => ?_, fun x hx => ?_⟩
  · have hu : (s.thr.set n (some t'))[m]? = some (some u) := hu
    by_cases e : n = m
    · subst e; rw [List.getElem?_set_self hn] at hu; cases hu
      rw [hh, opn_same hr]; exact he
    · rw [List.getElem?_set_ne e] at hu
      rw [opn_other (by rw [hr]; exact handle_ne hO ht hu e)]
      exact h.op m u hu
  · rcases List.mem_append.1 hx with hx | hx
    · exact h.hd x hx
    · rw [List.mem_singleton] at hx
      rw [hx, hr, (hO.th n t ht).h]
      exact ⟨n, _, hO.lt ▸ hn, rfl, Int.le_refl _⟩
theorem RecI.setT (h : RecI s V) (ht : s.thr[n]? = some (some t)) (hh : t'.handle = t.handle) (hb : bT t' = bT t) (ho : bT t = 1 → t'.op = t.op) : RecI (s.setT n t') V := by
  have hn : n < s.thr.length := (List.getElem?_eq_some_iff.1 ht).1
  refine ⟨h.pr, fun m u hu => ?_, h.hd⟩
  have hu : (s.thr.set n (some t'))[m]? = some (some u) := hu
  by_cases e : n = m
  · subst e; rw [List.getElem?_set_self hn] at hu; cases hu
    rw [hh, h.op n t ht, hb]
    by_cases e : bT t = 1
    · rw [if_pos e, if_pos e, ho e]
    · rw [if_neg e, if_neg e]
  · rw [List.getElem?_set_ne e] at hu
    exact h.op m u hu
theorem RecI.tell (h : RecI s V) (hO : Ok k s p q) (ht : s.thr[n]? = some (some t)) (hb : bT t = 0) {o x y e : Int} : RecI s (V ++ [⟨t.handle, o, x, y, e, true⟩]) := by
  have h0 : opn V t.handle = none := by rw [h.op n t ht, hb]; rfl
  have := h.snocSet (t' := t) hO ht (r := ⟨t.handle, o, x, y, e, true⟩) rfl rfl (fun op e => by rw [h0] at e; cases e) (by rw [hb]; rfl)
  refine this.of ?_ rfl
  show s.thr = s.thr.set n (some t)
  rw [set_same ht]
theorem RecI.free (h : RecI s V) (hO : Ok k s p q) (ht : s.thr[n]? = some (some t)) : RecI (s.free n) V := by
  have hn : n < s.thr.length := (List.getElem?_eq_some_iff.1 ht).1
  have hlt : n < s.table.length := by rw [hO.ll, ← hO.lt]; exact hn
  rw [hO.freed ht]
  refine ⟨h.pr, fun m u hu => ?_, fun r hr => ?_⟩
  · have hu : (s.thr.set n none)[m]? = some (some u) := hu
    by_cases e : n = m
    · subst e; rw [List.getElem?_set_self hn] at hu; cases hu
    · rw [List.getElem?_set_ne e] at hu; exact h.op m u hu
  · obtain ⟨m, k, h1, h2, h3⟩ := h.hd r hr
    refine ⟨m, k, h1, h2, ?_⟩
    show k ≤ ((s.table.set n (false, (s.table.getD n (false, 0)).2)).getD m (false, 0)).2
    by_cases e : n = m
    · subst e; rw [List.getD_eq_getElem?_getD, List.getElem?_set_self hlt]; exact h3
    · rw [List.getD_eq_getElem?_getD, List.getElem?_set_ne e, ← List.getD_eq_getElem?_getD]; exact h3
theorem opn_none {V : List Rec} {h : Int} (e : ∀ r ∈ V, r.thread ≠ h) : opn V h = none := by
  unfold opn
  rw [List.filter_eq_nil_iff.2 (fun r hr => by simpa using e r hr)]; rfl
theorem RecI.begin (h : RecI s V) (hO : Ok k s p q) {f a : Int} : RecI (s.begin f a).2.2 V := by
  cases hf : slotFree? s.table 0 with
  | none => rw [begin_no hf]; exact h
  | some n =>
    have hn16 : n < 16 := by
      have hfr : ∀ (l : List (Bool × Int)) (i n : Nat), slotFree? l i = some n → n < i + l.length := by
        intro l
        induction l with
        | nil => intro i n h; cases h
        | cons o l ih =>
          intro i n h
          unfold slotFree? at h
          split at h
          · have := ih (i + 1) n h; simp only [List.length_cons]; omega
          · cases h; simp only [List.length_cons]; omega
      have := hfr _ _ _ hf
      have := hO.ll
      omega
    have hn : n < s.thr.length := by rw [hO.lt]; exact hn16
    have hlt : n < s.table.length := by rw [hO.ll]; exact hn16
    rw [begin_ok hf]
    refine ⟨h.pr, fun m u hu => ?_, fun r hr => ?_⟩
    · have hu : (s.thr.set n _)[m]? = some (some u) := hu
      by_cases e : n = m
      · subst e; rw [List.getElem?_set_self hn] at hu; cases hu
        refine (opn_none fun r hr e => ?_).trans rfl
        obtain ⟨m, k, h1, h2, h3⟩ := h.hd r hr
        rw [h2] at e
        obtain ⟨rfl, rfl⟩ := slotH_inj h1 hn16 e
        omega
      · rw [List.getElem?_set_ne e] at hu; exact h.op m u hu
    · obtain ⟨m, k, h1, h2, h3⟩ := h.hd r hr
      refine ⟨m, k, h1, h2, ?_⟩
      show k ≤ ((s.table.set n (true, (s.table.getD n (false, 0)).2 + 1)).getD m (false, 0)).2
      by_cases e : n = m
      · subst e; rw [List.getD_eq_getElem?_getD, List.getElem?_set_self hlt]; show k ≤ (s.table.getD n (false, 0)).2 + 1; omega
      · rw [List.getD_eq_getElem?_getD, List.getElem?_set_ne e, ← List.getD_eq_getElem?_getD]; exact h3
theorem woke_handle {u : Thr} {y : Int} : (u.wakes y).handle = u.handle := by show (if u.into = -1 then u else u.put u.into y).handle = _; split <;> rfl
theorem RecI.wake (h : RecI s V) (hO : Ok k s p q) {w0 : Int} {u : Thr} (hu : s.at w0 = some u) (hu0 : u.why ≠ 0) (hu9 : u.why ≠ 9) {y : Int} : RecI (s.wake w0.toNat y) (V ++ [u.woke y]) := by
  obtain ⟨h0, hat⟩ := of_at hu
  unfold Spc.wake
  rw [spc_t hat]
  have hb : bT u = 1 := bT_blk hu0 hu9
  refine h.snocSet hO hat rfl woke_handle (fun op e => ?_) ?_
  · rw [h.op _ u hat, hb, if_pos rfl] at e
    cases e
    exact ⟨rfl, rfl, rfl, rfl⟩
  · rw [show bT (u.wakes y) = 0 from bT_run rfl]; rfl
end
end Go.SLYtnceicnimongcaaGreat
namespace Go.SLYtnceicnimongcaaGreat
open Go Go.RowKit

structure GoI (k : Nat) (s0 : Spc) (d : Dng) (p q : List Int) : Prop where
  ok : Ok k d.s p q
  rd : ∀ w, rdy d.s w + (if (d.out.stopped = true ∨ d.out.ended = true) ∧ w = (d.n : Int) then 1 else 0) = rdy s0 w + d.out.woken.count w
  wk : ∀ w ∈ d.out.woken, rdy s0 w = 0
  rc : RecI d.s (d.s.recs ++ d.ends)
  px : s0.recs <+: d.s.recs
section
variable {k : Nat} {s0 : Spc} {d : Dng} {p q : List Int} {t : Thr}
theorem jn_some {w : Int} {t : Thr} : jn w (some t) = if t.joiner = w ∧ ¬ w = -1 then 1 else 0 := rfl
theorem rO_some {t : Thr} : rO (some t) = if t.why = 0 then 1 else 0 := rfl
theorem rdy_setT {s : Spc} {n : Nat} {t t' : Thr} (ht : s.thr[n]? = some (some t)) (w : Int) : rdy (s.setT n t') w = if w = (n : Int) then rO (some t') else rdy s w := by
  unfold rdy
  rw [show (s.setT n t').at w = _ from at_set (List.getElem?_eq_some_iff.1 ht).1 w]
  split <;> rfl
theorem rdy_of {s : Spc} {n : Nat} {t : Thr} (ht : s.thr[n]? = some (some t)) : rdy s (n : Int) = rO (some t) := by unfold rdy; rw [at_of ht]
theorem GoI.bal (h : GoI k s0 d p q) {p' q' : List Int} (e : ∀ w, p'.count w + q.count w = p.count w + q'.count w) : GoI k s0 d p' q' := ⟨h.ok.bal' e, h.rd, h.wk, h.rc, h.px⟩
theorem GoI.tell (h : GoI k s0 d p q) (ht : d.s.thr[d.n]? = some (some t)) (hw : t.why = 0) (hn : d.ends = []) {x y e : Int} : GoI k s0 (d.tell x y e true) p q := ⟨h.ok.recs _, h.rd, h.wk, by
  have h1 := h.rc
  rw [hn, List.append_nil] at h1
  have h2 := h1.tell h.ok ht (bT_run hw) (o := d.i.op) (x := x) (y := y) (e := e)
  show RecI (d.s.tell ⟨d.t.handle, d.i.op, x, y, e, true⟩) ((d.s.recs ++ [⟨d.t.handle, d.i.op, x, y, e, true⟩]) ++ d.ends)
  rw [hn, List.append_nil, dng_t ht]
  exact h2.of rfl rfl, h.px.trans (List.prefix_append _ _)⟩
theorem GoI.own (h : GoI k s0 d p q) (ht : d.s.thr[d.n]? = some (some t)) {t' : Thr} (hR : ThrR t') (hpc : 0 ≤ t'.pc ∧ t'.pc ≤ 257) (e1 : t'.handle = t.handle) (e2 : t'.why = t.why) (e3 : t'.joiner = t.joiner) (e4 : t'.detached = t.detached) (e5 : t'.op = t.op) : GoI k s0 (d.setT t') p q := by
  have ho := h.ok.th d.n t ht
  refine ⟨h.ok.setT ht ⟨e1.trans ho.h, hR, hpc, fun a => by rw [e3]; exact ho.d (by rw [← e4]; exact a), fun a => by rw [e3]; exact ho.f (by rw [← e2]; exact a)⟩ (fun w => ?_), fun w => ?_, h.wk, h.rc.setT ht e1 (by unfold bT; rw [e2]) (fun _ => e5), h.px⟩
  · have hjj : jn w (some t') = jn w (some t) := by rw [jn_some, jn_some, e3]
    have hbb : bT t' = bT t := by unfold bT; rw [e2]
    rw [hjj, hbb]
  · have := h.rd w
    have hr : rdy (d.setT t').s w = rdy d.s w := by
      show rdy (d.s.setT d.n t') w = _
      rw [rdy_setT ht]
      split
      · rename_i e; rw [e, rdy_of ht, rO_some, rO_some, e2]
      · rfl
    rw [hr]; exact this
theorem GoI.pass (h : GoI k s0 d p q) (ht : d.s.thr[d.n]? = some (some t)) (hw : t.why = 0) (hn : d.ends = []) {x y e : Int} (he : 0 ≤ e ∧ e ≤ 11) : GoI k s0 (d.pass x y e) p q := by
  have ho := h.ok.th d.n t ht
  unfold Dng.pass
  rw [dng_t ht]
  exact GoI.own (d := d.tell x y e true) (h.tell ht hw hn) ht (ho.R.put (by omega)) ho.pc rfl rfl rfl rfl rfl
theorem GoI.block (h : GoI k s0 d p ((d.n : Int) :: q)) (ht : d.s.thr[d.n]? = some (some t)) (hw : t.why = 0) (hn : d.ends = []) (hs : d.out.stopped = false) (hd : d.out.ended = false) {a i x y : Int} (ha : a ≠ 0 ∧ a ≠ 9) (hi : -1 ≤ i ∧ i < 8) : GoI k s0 (d.block a i x y) p q := by
  have ho := h.ok.th d.n t ht
  have hTo : Ok k (d.tell x y 0 false).s p ((d.n : Int) :: q) := h.ok.recs _
  have ht2 : (d.tell x y 0 false).s.thr[d.n]? = some (some t) := ht
  unfold Dng.block
  rw [dng_t ht]
  refine ⟨hTo.setT ht2 (t' := { t with why := a, op := d.i.op, into := i }) ⟨ho.h, ho.R.with hi, ho.pc, ho.d, fun e => absurd e ha.2⟩ (fun w => ?_), fun w => ?_, h.wk, ?_, h.px.trans (List.prefix_append _ _)⟩
  · have e1 : bT t = 0 := bT_run hw
    have e2 : bT { t with why := a, op := d.i.op, into := i } = 1 := bT_blk ha.1 ha.2
    have e3 : jn w (some { t with why := a, op := d.i.op, into := i }) = jn w (some t) := rfl
    rw [e1, e2, e3, List.count_cons]
    simp only [beq_iff_eq]
    by_cases e : w = (d.n : Int)
    · rw [if_pos e, if_pos e, if_pos e.symm]; omega
    · rw [if_neg e, if_neg e, if_neg (fun h => e h.symm)]; omega
  · have h1 := h.rd w
    rw [if_neg (by rw [hs, hd]; simp)] at h1
    show rdy ((d.tell x y 0 false).s.setT d.n { t with why := a, op := d.i.op, into := i }) w + (if (true = true ∨ d.out.ended = true) ∧ w = (d.n : Int) then 1 else 0) = rdy s0 w + d.out.woken.count w
    rw [rdy_setT ht2]
    by_cases e : w = (d.n : Int)
    · rw [if_pos e, if_pos ⟨.inl rfl, e⟩]
      rw [e, rdy_of ht] at h1
      have : rO (some t) = 1 := by rw [rO_some, if_pos hw]
      have : rO (some { t with why := a, op := d.i.op, into := i }) = 0 := by rw [rO_some]; exact if_neg ha.1
      rw [e]; omega
    · rw [if_neg e, if_neg (fun h => e h.2)]
      exact h1
  · have h1 := h.rc
    rw [hn, List.append_nil] at h1
    have e2 : bT { t with why := a, op := d.i.op, into := i } = 1 := bT_blk ha.1 ha.2
    have h0 : opn d.s.recs t.handle = none := by rw [h1.op d.n t ht, bT_run hw]; rfl
    have h2 := h1.snocSet (t' := { t with why := a, op := d.i.op, into := i }) h.ok ht (r := ⟨t.handle, d.i.op, x, y, 0, false⟩) rfl rfl (fun op e => by rw [h0] at e; cases e) (by rw [e2]; rfl)
    show RecI ((d.tell x y 0 false).s.setT d.n { t with why := a, op := d.i.op, into := i }) ((d.s.recs ++ [⟨d.t.handle, d.i.op, x, y, 0, false⟩]) ++ d.ends)
    rw [hn, List.append_nil, dng_t ht]
    exact h2.of rfl rfl
theorem wakes_joiner {u : Thr} {y : Int} : (u.wakes y).joiner = u.joiner := by show (if u.into = -1 then u else u.put u.into y).joiner = _; split <;> rfl
theorem Ok.wake {s : Spc} (h : Ok k s p q) {w0 : Int} {u : Thr} (hu : s.at w0 = some u) (hu0 : u.why ≠ 0) (hu9 : u.why ≠ 9) {y : Int} (hy : W64 y) : Ok k (s.wake w0.toNat y) p (w0 :: q) := by
  obtain ⟨h0, hat⟩ := of_at hu
  have ho := h.th _ u hat
  have hc : ((w0.toNat : Nat) : Int) = w0 := by omega
  unfold Spc.wake
  rw [spc_t hat]
  refine h.setT hat ⟨?_, ho.R.wakes hy, ?_, ?_, ?_⟩ (fun w => ?_)
  · rw [← ho.h]; show (if u.into = -1 then u else u.put u.into y).handle = _; split <;> rfl
  · show 0 ≤ (if u.into = -1 then u else u.put u.into y).pc ∧ (if u.into = -1 then u else u.put u.into y).pc ≤ 257; split <;> exact ho.pc
  · intro e
    rw [wakes_joiner]; refine ho.d ?_
    rw [← e]; show _ = (if u.into = -1 then u else u.put u.into y).detached; split <;> rfl
  · intro e; exact absurd (show (0 : Int) = 9 from e) (by decide)
  · have e1 : bT u = 1 := bT_blk hu0 hu9
    have e2 : bT (u.wakes y) = 0 := bT_run rfl
    have e3 : jn w (some (u.wakes y)) = jn w (some u) := by rw [jn_some, jn_some, wakes_joiner]
    rw [e1, e2, e3, List.count_cons, hc]
    simp only [beq_iff_eq]
    by_cases e : w = w0
    · rw [if_pos e, if_pos e, if_pos e.symm]; omega
    · rw [if_neg e, if_neg e, if_neg (fun h => e h.symm)]; omega
theorem rdy_wake {s : Spc} {w0 : Int} {u : Thr} (hu : s.at w0 = some u) {y : Int} (w : Int) : rdy (s.wake w0.toNat y) w = if w = w0 then 1 else rdy s w := by
  obtain ⟨h0, hat⟩ := of_at hu
  unfold Spc.wake
  rw [spc_t hat, rdy_setT hat, show ((w0.toNat : Nat) : Int) = w0 from by omega]
  rfl
theorem GoI.goesB (h : GoI k s0 d p q) {w0 : Int} {u : Thr} (hu : d.s.at w0 = some u) (hu0 : u.why ≠ 0) (hu9 : u.why ≠ 9) {y : Int} (hy : W64 y) (hne : w0 = (d.n : Int) → d.out.stopped = false ∧ d.out.ended = false) : GoI k s0 (d.goes w0.toNat y) p (w0 :: q) := by
  have h0 := (of_at hu).1
  have hr : rdy d.s w0 = 0 := by unfold rdy; rw [hu, rO_some]; exact if_neg hu0
  refine ⟨h.ok.wake hu hu0 hu9 hy, fun w => ?_, fun w hw => ?_, ?_, h.px⟩
  · have h1 := h.rd w
    show rdy (d.s.wake w0.toNat y) w + (if (d.out.stopped = true ∨ d.out.ended = true) ∧ w = (d.n : Int) then 1 else 0) = rdy s0 w + (d.out.woken ++ [((w0.toNat : Nat) : Int)]).count w
    rw [rdy_wake hu, List.count_append, List.count_singleton, show ((w0.toNat : Nat) : Int) = w0 from by omega]
    simp only [beq_iff_eq]
    generalize (if (d.out.stopped = true ∨ d.out.ended = true) ∧ w = (d.n : Int) then 1 else 0) = B at h1 ⊢
    by_cases e : w = w0
    · rw [if_pos e, if_pos e.symm]
      rw [e] at h1 ⊢
      omega
    · rw [if_neg e, if_neg (fun h => e h.symm)]; omega
  · have hw : w ∈ d.out.woken ++ [((w0.toNat : Nat) : Int)] := hw
    rcases List.mem_append.1 hw with hw | hw
    · exact h.wk w hw
    · rw [List.mem_singleton, show ((w0.toNat : Nat) : Int) = w0 from by omega] at hw
      subst hw
      have h1 := h.rd w
      by_cases e : w = (d.n : Int)
      · obtain ⟨e1, e2⟩ := hne e
        rw [if_neg (by rw [e1, e2]; simp)] at h1; omega
      · rw [if_neg (fun h => e h.2)] at h1; omega
  · have h2 := h.rc.wake h.ok hu hu0 hu9 (y := y)
    show RecI (d.s.wake w0.toNat y) (d.s.recs ++ (d.ends ++ [(d.s.t w0.toNat).woke y]))
    rw [← List.append_assoc, spc_t (of_at hu).2]
    exact h2
theorem GoI.goes (h : GoI k s0 d p q) {w0 : Int} (hpq : q.count w0 < p.count w0) {y : Int} (hy : W64 y) (hne : w0 = (d.n : Int) → d.out.stopped = false ∧ d.out.ended = false) : GoI k s0 (d.goes w0.toNat y) p (w0 :: q) := by
  have hb := h.ok.bal w0
  obtain ⟨u, hu, hu0, hu9⟩ := blk_pos (show 0 < blkS d.s w0 by omega)
  exact h.goesB hu hu0 hu9 hy hne
theorem GoI.withG (h : GoI k s0 d p q) {g : Gates} (hg : GOk d.s.prg g) {p' q' : List Int} (e : ∀ w, cG g w + p'.count w + q.count w = cG d.s.gates w + p.count w + q'.count w) : GoI k s0 (d.withG g) p' q' := ⟨h.ok.gates hg e, h.rd, h.wk, h.rc.of rfl rfl, h.px⟩
theorem GoI.withU (h : GoI k s0 d p q) {i : Nat} {u v : Tub} (hi : d.s.tubes[i]? = some u) (hv : TOk v) {p' q' : List Int} (e : ∀ w, cU w v + p'.count w + q.count w = cU w u + p.count w + q'.count w) : GoI k s0 (d.withU i v) p' q' := by
  refine ⟨h.ok.tubes (by rw [List.length_set]) (fun x hx => ?_) (fun w => ?_), h.rd, h.wk, h.rc.of rfl rfl, h.px⟩
  · rcases List.mem_or_eq_of_mem_set hx with hx | rfl
    · exact h.ok.tb.2 x hx
    · exact hv
  · have h1 : cT (d.s.tubes.set i v) w + cU w u = cT d.s.tubes w + cU w v := sumN_set (f := cU w) v hi
    have := e w; omega
theorem GoI.withD (h : GoI k s0 d p q) {u : Dsk} (hu : DkOk u) {p' q' : List Int} (e : ∀ w, cD u w + p'.count w + q.count w = cD d.s.disk w + p.count w + q'.count w) : GoI k s0 (d.withD u) p' q' := ⟨h.ok.disk hu e, h.rd, h.wk, h.rc.of rfl rfl, h.px⟩
theorem GoI.withW (h : GoI k s0 d p q) {u : Whl} (hu : 0 ≤ u.now ∧ u.now ≤ 1099511627776) {p' q' : List Int} (e : ∀ w, cL u w + p'.count w + q.count w = cL d.s.wheel w + p.count w + q'.count w) : GoI k s0 (d.withW u) p' q' := ⟨h.ok.wheel hu e, h.rd, h.wk, h.rc.of rfl rfl, h.px⟩
theorem rdy_free (h : Ok k d.s p q) {n : Nat} (ht : d.s.thr[n]? = some (some t)) (w : Int) : rdy (d.s.free n) w = if w = (n : Int) then 0 else rdy d.s w := by
  rw [h.freed ht]
  unfold rdy
  rw [show ({ d.s with table := d.s.table.set n (false, (d.s.table.getD n (false, 0)).2), thr := d.s.thr.set n none } : Spc).at w = ({ d.s with thr := d.s.thr.set n none } : Spc).at w from rfl, at_set (List.getElem?_eq_some_iff.1 ht).1 w]
  split <;> rfl
theorem GoI.free (h : GoI k s0 d p q) {m : Nat} (ht : d.s.thr[m]? = some (some t)) (h9 : t.why = 9) : GoI k s0 (d.free m) p q := by
  have ho := h.ok.th m t ht
  refine ⟨h.ok.free ht (fun w => ?_), fun w => ?_, h.wk, h.rc.free h.ok ht, h.px⟩
  · have e1 : bT t = 0 := by unfold bT; rw [if_pos (.inr h9)]
    have e2 : jn w (some t) = 0 := by rw [jn_some, ho.f h9]; exact if_neg (by rintro ⟨a, b⟩; exact b a.symm)
    rw [e1, e2]; split <;> omega
  · have h1 := h.rd w
    show rdy (d.s.free m) w + _ = _
    rw [rdy_free h.ok ht]
    by_cases e : w = (m : Int)
    · have h2 : rdy d.s w = 0 := by rw [e, rdy_of ht, rO_some]; exact if_neg (by omega)
      rw [if_pos e]; rw [h2] at h1; exact h1
    · rw [if_neg e]; exact h1
theorem GoI.fin (h : GoI k s0 d [] []) (ht : d.s.thr[d.n]? = some (some t)) (hw : t.why = 0) (hs : d.out.stopped = false) (hd : d.out.ended = false) {v : Int} (hv : W64 v) : GoI k s0 (d.fin v) [] [] := by
  have ho := h.ok.th d.n t ht
  have hr0 : rO (some t) = 1 := by rw [rO_some]; exact if_pos hw
  have hbt : bT t = 0 := bT_run hw
  have h1 := h.rd
  have hend : ∀ w, (if (d.ended.out.stopped = true ∨ d.ended.out.ended = true) ∧ w = (d.ended.n : Int) then 1 else 0) = if w = (d.n : Int) then 1 else 0 := fun w => by
    by_cases e : w = (d.n : Int)
    · rw [if_pos (show (d.ended.out.stopped = true ∨ d.ended.out.ended = true) ∧ w = (d.ended.n : Int) from ⟨.inr rfl, e⟩), if_pos e]
    · rw [if_neg (show ¬ ((d.ended.out.stopped = true ∨ d.ended.out.ended = true) ∧ w = (d.ended.n : Int)) from fun h => e h.2), if_neg e]
  have hrd : ∀ w, rdy d.s w = rdy s0 w + d.out.woken.count w := fun w => by
    have := h1 w; rw [if_neg (by rw [hs, hd]; simp)] at this; exact this
  cases hdt : t.detached with
  | true =>
    rw [fin_det ht hdt]
    refine ⟨h.ok.free ht (fun w => ?_), fun w => ?_, h.wk, h.rc.free h.ok ht, h.px⟩
    · have e2 : jn w (some t) = 0 := by rw [jn_some, ho.d hdt]; exact if_neg (by rintro ⟨a, b⟩; exact b a.symm)
      rw [hbt, e2]; split <;> omega
    · show rdy (d.s.free d.n) w + (if (d.ended.out.stopped = true ∨ d.ended.out.ended = true) ∧ w = (d.ended.n : Int) then 1 else 0) = rdy s0 w + d.out.woken.count w
      rw [hend, rdy_free h.ok ht, ← hrd]
      by_cases e : w = (d.n : Int)
      · rw [if_pos e, if_pos e, e, rdy_of ht, hr0]
      · rw [if_neg e, if_neg e]; rfl
  | false =>
    by_cases hj : t.joiner = -1
    · rw [fin_none ht hdt hj]
      refine ⟨h.ok.setT (s := d.s) (t' := { t with why := 9, value := v }) ht ⟨ho.h, ⟨ho.R.l, ho.R.r, ho.R.i, hv, ho.R.h⟩, ho.pc, ho.d, fun _ => hj⟩ (fun w => ?_), fun w => ?_, h.wk, h.rc.setT (s := d.s) (t' := { t with why := 9, value := v }) ht rfl (by rw [hbt]; try rfl) (fun e => absurd e (by rw [hbt]; decide)), h.px⟩
      · have e1 : bT { t with why := 9, value := v } = 0 := by unfold bT; exact if_pos (.inr rfl)
        have e3 : jn w (some { t with why := 9, value := v }) = jn w (some t) := rfl
        rw [hbt, e1, e3]
      · show rdy (d.s.setT d.n { t with why := 9, value := v }) w + (if (d.ended.out.stopped = true ∨ d.ended.out.ended = true) ∧ w = (d.ended.n : Int) then 1 else 0) = rdy s0 w + d.out.woken.count w
        rw [hend, rdy_setT ht, ← hrd]
        by_cases e : w = (d.n : Int)
        · rw [if_pos e, if_pos e, e, rdy_of ht, hr0, rO_some, if_neg (by show (9 : Int) ≠ 0; decide)]
        · rw [if_neg e, if_neg e]; rfl
    · rw [fin_join ht hdt hj]
      -- who joined goes on: it is counted by this thread's own word
      have hcj : 1 ≤ cnt d.s t.joiner := by
        have : jn t.joiner (some t) = 1 := by rw [jn_some]; exact if_pos ⟨rfl, hj⟩
        have h2 : jn t.joiner (some t) ≤ cJ d.s.thr t.joiner := sumN_ge (f := jn t.joiner) (List.mem_of_getElem? ht)
        unfold cnt; omega
      have hb := h.ok.bal t.joiner
      obtain ⟨u, hu, hu0, hu9⟩ := blk_pos (s := d.s) (w := t.joiner) (by simp at hb; omega)
      obtain ⟨h0, hat⟩ := of_at hu
      have hne : t.joiner.toNat ≠ d.n := fun e => by rw [e, ht] at hat; cases hat; exact hu0 hw
      have hc : ((t.joiner.toNat : Nat) : Int) = t.joiner := by omega
      have hk := h.ok.wake hu hu0 hu9 hv
      have ht2 : (d.s.wake t.joiner.toNat v).thr[d.n]? = some (some t) := by
        unfold Spc.wake; exact setT_thr ht hne
      refine ⟨hk.free (n := d.n) ht2 (fun w => ?_), fun w => ?_, fun w hw => ?_, ?_, h.px⟩
      · rw [hbt, jn_some, List.count_cons]
        simp only [beq_iff_eq, List.count_nil]
        by_cases e : t.joiner = w
        · rw [if_pos (show t.joiner = w ∧ ¬ w = -1 from ⟨e, by rw [← e]; exact hj⟩), if_pos e]; split <;> omega
        · rw [if_neg (show ¬ (t.joiner = w ∧ ¬ w = -1) from fun h => e h.1), if_neg e]; split <;> omega
      · show rdy ((d.s.wake t.joiner.toNat v).free d.n) w + (if (d.ended.out.stopped = true ∨ d.ended.out.ended = true) ∧ w = (d.ended.n : Int) then 1 else 0) = rdy s0 w + (d.out.woken ++ [((t.joiner.toNat : Nat) : Int)]).count w
        rw [hend, rdy_free (d := { d with s := d.s.wake t.joiner.toNat v }) hk ht2, hc, List.count_append, List.count_singleton]
        simp only [beq_iff_eq]
        rw [rdy_wake hu]
        have h2 := hrd w
        by_cases e : w = (d.n : Int)
        · rw [if_pos e, if_pos e, if_neg (show ¬ t.joiner = w by rw [e]; omega)]
          rw [e, rdy_of ht, hr0] at h2
          rw [e]; omega
        · rw [if_neg e, if_neg e]
          by_cases e2 : w = t.joiner
          · rw [if_pos e2, if_pos e2.symm]
            have : rdy d.s w = 0 := by rw [e2]; unfold rdy; rw [hu, rO_some]; exact if_neg hu0
            omega
          · rw [if_neg e2, if_neg (fun h => e2 h.symm)]; omega
      · have hw : w ∈ d.out.woken ++ [((t.joiner.toNat : Nat) : Int)] := hw
        rcases List.mem_append.1 hw with hw | hw
        · exact h.wk w hw
        · rw [List.mem_singleton, hc] at hw
          have h2 := hrd w
          have : rdy d.s w = 0 := by rw [hw]; unfold rdy; rw [hu, rO_some]; exact if_neg hu0
          omega
      · have h2 := h.rc.wake h.ok hu hu0 hu9 (y := v)
        have h3 := h2.free hk (n := d.n) ht2
        show RecI ((d.s.wake t.joiner.toNat v).free d.n) (d.s.recs ++ (d.ends ++ [(d.s.t t.joiner.toNat).woke v]))
        rw [← List.append_assoc, spc_t hat]
        exact h3
end
end Go.SLYtnceicnimongcaaGreat
namespace Go.SLYtnceicnimongcaaGreat
open Go Go.RowKit

theorem w64_W {n : Int} : W64 (w64 n) := by unfold w64 W64; omega
theorem none_W : W64 fNone := by unfold fNone W64; decide
theorem clean_W {n : Int} (h : W64 n) : W64 (fClean n) := by unfold fClean; split; exact none_W; exact h
theorem out_W {o : Option Nat} (h : ∀ r, o = some r → r < 18446744073709551616) : W64 (fOut o) := by
  cases o with
  | none => exact none_W
  | some r => have := h r rfl; exact clean_W ⟨by omega, by omega⟩
theorem ite_W {c : Prop} [Decidable c] {a b : Int} (h1 : W64 a) (h2 : W64 b) : W64 (if c then a else b) := by split; exact h1; exact h2
theorem yes_W {b : Bool} : W64 (yesI b) := by unfold yesI; exact ite_W ⟨by decide, by decide⟩ ⟨by decide, by decide⟩
theorem pick_W {neg : Bool} {win : Ordering} {x y : Nat} (hx : x < 18446744073709551616) (hy : y < 18446744073709551616) : W64 ((archPick neg win x y : Nat) : Int) := by
  have h1 : Go.FloatKind.f64.encode (.infinity neg) < 18446744073709551616 := by cases neg <;> decide +kernel
  unfold archPick
  simp only
  unfold W64
  repeat' split
  all_goals omega
theorem arith_W {op a b : Int} (ha : W64 a) (hb : W64 b) : W64 (arithI op a b) := by
  have hx : a.toNat < 18446744073709551616 := by have := ha.1; have := ha.2; omega
  have hy : b.toNat < 18446744073709551616 := by have := hb.1; have := hb.2; omega
  have h0 : W64 0 := ⟨by decide, by decide⟩
  have hmin : W64 (fMinW a b) := by unfold fMinW; exact ite_W none_W (clean_W (pick_W hx hy))
  have hmax : W64 (fMaxW a b) := by unfold fMaxW; exact ite_W none_W (clean_W (pick_W hx hy))
  have hti : W64 (fToInt a) := by unfold fToInt; exact ite_W h0 (ite_W ⟨by decide, by decide⟩ (ite_W ⟨by decide, by decide⟩ w64_W))
  have htf : W64 (fToFloat a) := by
    unfold fToFloat
    refine clean_W ⟨by omega, ?_⟩
    have : Go.FloatKind.f64.nearest (Go.IntKind.i64.wrap a) < 18446744073709551616 := (Ieee.Format.write_lt Ieee.double (.number (decide (Go.IntKind.i64.wrap a < 0)) (Go.IntKind.i64.wrap a).natAbs 0) : _)
    omega
  unfold arithI
  refine ite_W ha (ite_W w64_W (ite_W w64_W (ite_W w64_W (ite_W yes_W (ite_W (out_W fun r h => Ieee.Format.add_lt _ h) (ite_W (out_W fun r h => Ieee.Format.sub_lt _ h) (ite_W (out_W fun r h => Ieee.Format.mul_lt _ h) (ite_W (out_W fun r h => Ieee.Format.div_lt _ h) (ite_W hmin (ite_W hmax (ite_W yes_W (ite_W hti (ite_W htf h0)))))))))))))
end Go.SLYtnceicnimongcaaGreat
namespace Go.SLYtnceicnimongcaaGreat
open Go Go.RowKit

def b2 (p : Prop) [Decidable p] : Nat := if p then 1 else 0
theorem cRow_app {w : Int} {l : List Wtr} {a b : Int} : cRow w (l ++ [⟨a, b⟩]) = cRow w l + b2 (a = w) := by
  unfold cRow b2 isW; rw [List.countP_append]; simp [List.countP_cons]
theorem cRow_take {w : Int} {l : List Wtr} {c : Int} : cRow w (takeW l c).2.2 + b2 ((takeW l c).2.1 = true ∧ (takeW l c).1.who = w) = cRow w l := by
  by_cases h0 : l.length = 0
  · rw [take_no h0]; unfold b2; rw [if_neg (by rintro ⟨a, b⟩; cases a)]; rfl
  · rw [take_ok h0]
    have hp := pick_lt (t := c) (n := l.length) (by omega)
    have hx : l[pick c l.length]? = some (l.getD (pick c l.length) ⟨0, 0⟩) := getD_some hp
    have := countP_erase (P := isW w) hx
    unfold cRow b2
    rw [← this]
    simp only [true_and, isW, decide_eq_true_eq]
theorem hasW_zero {w : Int} {l : List Wtr} (h : cRow w l = 0) : hasW l w = false := by
  unfold hasW
  rw [List.any_eq_false]
  intro x hx e
  have : 0 < cRow w l := List.countP_pos_iff.2 ⟨x, hx, e⟩
  omega
theorem waits_zero {g : Gates} {w : Int} (h : cG g w = 0) : g.waits w = false := by
  unfold cG at h
  unfold Gates.waits
  rw [Bool.or_eq_false_iff, Bool.or_eq_false_iff, List.any_eq_false, List.any_eq_false, List.any_eq_false]
  refine ⟨⟨fun x hx => ?_, fun x hx => ?_⟩, fun x hx => ?_⟩
  · have := sumN_ge (f := fun m : Mtx => cRow w m.wait) hx
    rw [hasW_zero (by omega)]; simp
  · have := sumN_ge (f := cRow w) hx
    rw [hasW_zero (by omega)]; simp
  · have := sumN_ge (f := fun m : Smp => cRow w m.wait) hx
    rw [hasW_zero (by omega)]; simp
theorem d1 : (1 : Int) ≠ 0 := by decide
theorem d4 : (4 : Int) ≠ 0 := by decide
theorem d5 : (5 : Int) ≠ 0 := by decide
section
variable {g : Gates} {p : Prg}
theorem cG_mtx {i : Nat} {x y : Mtx} (h : g.mtx[i]? = some x) (w : Int) : cG { g with mtx := g.mtx.set i y } w + cRow w x.wait = cG g w + cRow w y.wait := by
  have := sumN_set (f := fun m : Mtx => cRow w m.wait) y h
  unfold cG; simp only at this ⊢; omega
theorem cG_cnd {i : Nat} {x y : List Wtr} (h : g.cnd[i]? = some x) (w : Int) : cG { g with cnd := g.cnd.set i y } w + cRow w x = cG g w + cRow w y := by
  have := sumN_set (f := cRow w) y h
  unfold cG; simp only at this ⊢; omega
theorem cG_sem {i : Nat} {x y : Smp} (h : g.sem[i]? = some x) (w : Int) : cG { g with sem := g.sem.set i y } w + cRow w x.wait = cG g w + cRow w y.wait := by
  have := sumN_set (f := fun m : Smp => cRow w m.wait) y h
  unfold cG; simp only at this ⊢; omega
theorem GOk.mtx (h : GOk p g) {i : Nat} {y : Mtx} : GOk p { g with mtx := g.mtx.set i y } := ⟨by simp only [List.length_set]; exact h.m, h.c, h.s, h.sc, fun r hr w hw => by simp only [List.length_set]; exact h.cm r hr w hw⟩
theorem GOk.cnd (h : GOk p g) {i : Nat} {y : List Wtr} (hy : ∀ w ∈ y, 0 ≤ w.mutex ∧ w.mutex < (g.mtx.length : Int)) : GOk p { g with cnd := g.cnd.set i y } := ⟨h.m, by simp only [List.length_set]; exact h.c, h.s, h.sc, fun r hr w hw => by
  rcases List.mem_or_eq_of_mem_set hr with hr | rfl
  · exact h.cm r hr w hw
  · exact hy w hw⟩
theorem GOk.sem (h : GOk p g) {i : Nat} {y : Smp} (hy : 0 ≤ y.count ∧ y.count ≤ 1048576) : GOk p { g with sem := g.sem.set i y } := ⟨h.m, h.c, by simp only [List.length_set]; exact h.s, fun x hx => by
  rcases List.mem_or_eq_of_mem_set hx with hx | rfl
  · exact h.sc x hx
  · exact hy, h.cm⟩
theorem b2_no {q : Prop} [Decidable q] (h : ¬ q) : b2 q = 0 := if_neg h
theorem b2_yes {q : Prop} [Decidable q] (h : q) : b2 q = 1 := if_pos h
theorem lock_c (h : GOk p g) {n m : Int} : GOk p (g.lock n m).2.2 ∧ ∀ w, cG (g.lock n m).2.2 w = cG g w + b2 (((g.lock n m).2.1 = 0 ∧ (g.lock n m).1 = false) ∧ n = w) := by
  have nope : ∀ (b : Bool) (e : Int), (e ≠ 0 ∨ b = true) → ∀ w, cG g w = cG g w + b2 ((e = 0 ∧ b = false) ∧ n = w) := fun b e he w => by
    rw [b2_no (by rintro ⟨⟨a, c⟩, -⟩; rcases he with he | he; exact he a; rw [he] at c; cases c)]; rfl
  by_cases hm : 0 ≤ m ∧ m < (g.mtx.length : Int)
  · obtain ⟨x, hx, hgx⟩ := geti_some hm
    cases hb : (g.waits n || x.is n) with
    | true => rw [g_lock_busy hgx hb]; exact ⟨h, nope _ _ (.inl d4)⟩
    | false =>
      rw [g_lock_go hgx hb]
      cases hh : x.held with
      | true =>
        rw [lock_no hh]
        refine ⟨h.mtx, fun w => ?_⟩
        have := cG_mtx (y := { x with wait := x.wait ++ [⟨n, 0⟩] }) hx w
        rw [cRow_app] at this
        have e : b2 (((0 : Int) = 0 ∧ false = false) ∧ n = w) = b2 (n = w) := by unfold b2; simp
        rw [e]; simp only at this ⊢; omega
      | false =>
        rw [lock_ok hh]
        refine ⟨h.mtx, fun w => ?_⟩
        have := cG_mtx (y := { x with held := true, owner := n }) hx w
        rw [b2_no (by rintro ⟨⟨a, c⟩, -⟩; cases c)]
        simp only at this ⊢; omega
  · rw [g_lock_no hm]; exact ⟨h, nope _ _ (.inl d1)⟩
theorem cRow_unlock {x : Mtx} {c w : Int} : cRow w (x.unlock c).2.2.wait + b2 ((x.unlock c).2.1 = true ∧ (x.unlock c).1 = w) = cRow w x.wait := cRow_take
theorem unlock_c (h : GOk p g) {n m c : Int} : GOk p (g.unlock n m c).2.2.2 ∧ ∀ w, cG (g.unlock n m c).2.2.2 w + b2 ((g.unlock n m c).2.1 = true ∧ (g.unlock n m c).1 = w) = cG g w := by
  have nope : ∀ w, cG g w + b2 (false = true ∧ (0 : Int) = w) = cG g w := fun w => by rw [b2_no (by rintro ⟨a, -⟩; cases a)]; rfl
  by_cases hm : 0 ≤ m ∧ m < (g.mtx.length : Int)
  · obtain ⟨x, hx, hgx⟩ := geti_some hm
    cases hb : x.is n with
    | false => rw [g_unlock_own hgx hb]; exact ⟨h, nope⟩
    | true =>
      rw [g_unlock_go hgx hb]
      refine ⟨h.mtx, fun w => ?_⟩
      have := cG_mtx (y := (x.unlock c).2.2) hx w
      have := cRow_unlock (x := x) (c := c) (w := w)
      simp only at *; omega
  · rw [g_unlock_no hm]; exact ⟨h, nope⟩
theorem wait_c (h : GOk p g) {n c m ch : Int} (hw0 : g.waits n = false) : GOk p (g.wait n c m ch).2.2.2 ∧ ∀ w, cG (g.wait n c m ch).2.2.2 w + b2 ((g.wait n c m ch).2.1 = true ∧ (g.wait n c m ch).1 = w) = cG g w + b2 ((g.wait n c m ch).2.2.1 = 0 ∧ n = w) := by
  have nope : ∀ e : Int, e ≠ 0 → ∀ w, cG g w + b2 (false = true ∧ (0 : Int) = w) = cG g w + b2 (e = 0 ∧ n = w) := fun e he w => by rw [b2_no (by rintro ⟨a, -⟩; cases a), b2_no (fun h => he h.1)]
  by_cases hm : 0 ≤ m ∧ m < (g.mtx.length : Int)
  · by_cases hc : 0 ≤ c ∧ c < (g.cnd.length : Int)
    · obtain ⟨x, hx, hgx⟩ := geti_some hm
      obtain ⟨r, hr, hgr⟩ := geti_some hc
      cases hb : x.is n with
      | false => rw [g_wait_own hgx hgr hw0 hb]; exact ⟨h, nope _ d5⟩
      | true =>
        rw [g_wait_go hgx hgr hw0 hb]
        have h1 := h.mtx (i := m.toNat) (y := (x.unlock ch).2.2)
        refine ⟨h1.cnd (i := c.toNat) (y := r ++ [⟨n, m⟩]) (fun w hw => ?_), fun w => ?_⟩
        · simp only [List.length_set]
          rcases List.mem_append.1 hw with hw | hw
          · exact h.cm r (List.mem_of_getElem? hr) w hw
          · rw [List.mem_singleton] at hw; rw [hw]; exact hm
        · have a1 := cG_mtx (y := (x.unlock ch).2.2) hx w
          have a2 := cRow_unlock (x := x) (c := ch) (w := w)
          have a3 := cG_cnd (g := { g with mtx := g.mtx.set m.toNat (x.unlock ch).2.2 }) (y := r ++ [⟨n, m⟩]) hr w
          rw [cRow_app] at a3
          have e : b2 ((0 : Int) = 0 ∧ n = w) = b2 (n = w) := by unfold b2; simp
          simp only at *
          omega
    · rw [g_wait_no2 hc]; exact ⟨h, nope _ d1⟩
  · rw [g_wait_no1 hm]; exact ⟨h, nope _ d1⟩
theorem down_c (h : GOk p g) {n s : Int} (hw0 : g.waits n = false) : GOk p (g.down n s).2.2 ∧ ∀ w, cG (g.down n s).2.2 w = cG g w + b2 (((g.down n s).2.1 = 0 ∧ (g.down n s).1 = false) ∧ n = w) := by
  by_cases hs : 0 ≤ s ∧ s < (g.sem.length : Int)
  · obtain ⟨x, hx, hgx⟩ := geti_some hs
    have hxc := h.sc x (List.mem_of_getElem? hx)
    by_cases hc : 0 < x.count
    · rw [g_down_go hgx hw0 hc]
      refine ⟨h.sem (by simp only; omega), fun w => ?_⟩
      have := cG_sem (y := { x with count := x.count - 1 }) hx w
      rw [b2_no (by rintro ⟨⟨a, c⟩, -⟩; cases c)]
      simp only at this ⊢; omega
    · rw [g_down_wait hgx hw0 hc]
      refine ⟨h.sem hxc, fun w => ?_⟩
      have := cG_sem (y := { x with wait := x.wait ++ [⟨n, 0⟩] }) hx w
      rw [cRow_app] at this
      have e : b2 (((0 : Int) = 0 ∧ false = false) ∧ n = w) = b2 (n = w) := by unfold b2; simp
      rw [e]; simp only at this ⊢; omega
  · rw [g_down_no hs]
    exact ⟨h, fun w => by rw [b2_no (by rintro ⟨⟨a, c⟩, -⟩; exact d1 a)]; rfl⟩
theorem up_c (h : GOk p g) {s c : Int} : GOk p (g.up s c).2.2.2 ∧ ∀ w, cG (g.up s c).2.2.2 w + b2 ((g.up s c).2.1 = true ∧ (g.up s c).1 = w) = cG g w := by
  have no : ∀ w, b2 (false = true ∧ (0 : Int) = w) = 0 := fun w => b2_no (by rintro ⟨a, -⟩; cases a)
  by_cases hs : 0 ≤ s ∧ s < (g.sem.length : Int)
  · obtain ⟨x, hx, hgx⟩ := geti_some hs
    have hxc := h.sc x (List.mem_of_getElem? hx)
    cases ht : (takeW x.wait c).2.1 with
    | true =>
      rw [g_up_take hgx ht]
      refine ⟨h.sem hxc, fun w => ?_⟩
      have a1 := cG_sem (y := { x with wait := (takeW x.wait c).2.2 }) hx w
      have a2 := cRow_take (w := w) (l := x.wait) (c := c)
      rw [ht] at a2
      simp only at *; omega
    | false =>
      by_cases hc : 1048576 ≤ x.count
      · rw [g_up_full hgx ht hc]; exact ⟨h, fun w => by rw [no]; rfl⟩
      · rw [g_up_go hgx ht hc]
        refine ⟨h.sem (by simp only; omega), fun w => ?_⟩
        have := cG_sem (y := { x with count := x.count + 1 }) hx w
        rw [no]; simp only at this ⊢; omega
  · rw [g_up_no hs]; exact ⟨h, fun w => by rw [no]; rfl⟩
theorem sig_c : ∀ (n : Nat) (c : Int) (r : List Wtr) (ms : List Mtx) (out : List Int) (w : Int), n ≤ r.length → (∀ y ∈ r, 0 ≤ y.mutex ∧ y.mutex < (ms.length : Int)) →
    cRow w (sigLoop n c r ms out).1 + sumN (fun m : Mtx => cRow w m.wait) (sigLoop n c r ms out).2.1 + (sigLoop n c r ms out).2.2.count w = cRow w r + sumN (fun m : Mtx => cRow w m.wait) ms + out.count w ∧ ∀ y ∈ (sigLoop n c r ms out).1, y ∈ r
  | 0, _, _, _, _, _, _, _ => ⟨rfl, fun _ h => h⟩
  | n + 1, c, r, ms, out, w, hn, hr => by
    obtain ⟨h1, h2, h3⟩ := take_mem (l := r) (c := c) (by omega)
    have hm := hr _ h1
    obtain ⟨x, hx⟩ := at_some (show (takeW r c).1.mutex.toNat < ms.length by omega)
    have ht : (takeW r c).2.1 = true := by rw [take_ok (by omega)]
    have hgx : ms.getD (takeW r c).1.mutex.toNat ⟨[], false, 0⟩ = x := by rw [List.getD_eq_getElem?_getD, hx]; rfl
    unfold sigLoop
    simp only
    rw [hgx]
    obtain ⟨a1, a2⟩ := sig_c n c (takeW r c).2.2 (ms.set (takeW r c).1.mutex.toNat (x.lock (takeW r c).1.who).2) (if (x.lock (takeW r c).1.who).1 = true then out ++ [(takeW r c).1.who] else out) w (by omega) (fun y hy => by rw [List.length_set]; exact hr y (h3 y hy))
    refine ⟨a1.trans ?_, fun y hy => h3 y (a2 y hy)⟩
    have b1 := cRow_take (w := w) (l := r) (c := c)
    have b3 := sumN_set (f := fun m : Mtx => cRow w m.wait) (x.lock (takeW r c).1.who).2 hx
    have e : b2 ((takeW r c).2.1 = true ∧ (takeW r c).1.who = w) = b2 ((takeW r c).1.who = w) := by unfold b2; simp [ht]
    rw [e] at b1
    cases hh : x.held with
    | true =>
      rw [lock_no hh] at b3 ⊢
      simp only [Bool.false_eq_true, if_false] at b3 ⊢
      rw [cRow_app] at b3
      omega
    | false =>
      rw [lock_ok hh] at b3 ⊢
      simp only [if_true] at b3 ⊢
      rw [List.count_append, List.count_singleton]
      have e2 : (if ((takeW r c).1.who == w) = true then 1 else 0) = b2 ((takeW r c).1.who = w) := by unfold b2; simp
      rw [e2]; omega
theorem signal_c (h : GOk p g) {c ch : Int} {all : Bool} : GOk p (g.signal c ch all).2.2 ∧ ∀ w, cG (g.signal c ch all).2.2 w + (g.signal c ch all).1.count w = cG g w := by
  by_cases hc : 0 ≤ c ∧ c < (g.cnd.length : Int)
  · obtain ⟨r, hr, hgr⟩ := geti_some hc
    have hrm := h.cm r (List.mem_of_getElem? hr)
    rw [g_signal_go hgr rfl]
    have hs := fun w => sig_c (if all = true then r.length else min r.length 1) (if all = true then 0 else ch) r g.mtx [] w (by split <;> omega) hrm
    refine ⟨⟨?_, ?_, h.s, h.sc, fun y hy w hw => ?_⟩, fun w => ?_⟩
    · rw [sig_mlen]; exact h.m
    · simp only [List.length_set]; exact h.c
    · rw [sig_mlen]
      rcases List.mem_or_eq_of_mem_set hy with hy | rfl
      · exact h.cm y hy w hw
      · exact hrm w ((hs 0).2 w hw)
    · have a1 := (hs w).1
      have a2 := sumN_set (f := cRow w) (sigLoop (if all = true then r.length else min r.length 1) (if all = true then 0 else ch) r g.mtx []).1 hr
      unfold cG
      simp only [List.count_nil] at *
      omega
  · rw [g_signal_no hc]; exact ⟨h, fun w => rfl⟩
end
end Go.SLYtnceicnimongcaaGreat
namespace Go.SLYtnceicnimongcaaGreat
open Go Go.RowKit

theorem cnt1 {n w : Int} : [n].count w = b2 (n = w) := by rw [List.count_singleton]; unfold b2; simp
theorem cntIf {ok : Bool} {n w : Int} : (if ok = true then [n] else []).count w = b2 (ok = true ∧ n = w) := by
  cases ok
  · simp [b2]
  · simp only [if_true, cnt1, true_and]
structure St (k : Nat) (s0 : Spc) (d : Dng) (t : Thr) : Prop where
  h : GoI k s0 d [] []
  ht : d.s.thr[d.n]? = some (some t)
  hw : t.why = 0
  hs : d.out.stopped = false
  he : d.out.ended = false
  I : InsOk d.i
  hn : d.ends = []
section
variable {k : Nat} {s0 : Spc} {d : Dng} {p q : List Int} {t : Thr}
theorem St.o (S : St k s0 d t) : HOk (d.s.table.getD d.n (false, 0)) d.n t := S.h.ok.th d.n t S.ht
theorem St.zero (S : St k s0 d t) : cnt d.s d.n = 0 := by
  have := S.h.ok.bal d.n
  have e : blkS d.s d.n = 0 := by unfold blkS; rw [at_of S.ht]; exact bT_run S.hw
  simp at this; omega
theorem St.a (S : St k s0 d t) : W64 d.a := by unfold Dng.a; rw [dng_t S.ht]; exact S.o.R.r _
theorem St.b (S : St k s0 d t) : W64 d.b := by unfold Dng.b; rw [dng_t S.ht]; exact S.o.R.r _
theorem St.pass (S : St k s0 d t) {x y e : Int} (he : 0 ≤ e ∧ e ≤ 11) : GoI k s0 (d.pass x y e) [] [] := S.h.pass S.ht S.hw S.hn he
theorem GoI.given {ok : Bool} {n : Int} (h : GoI k s0 d (if ok = true then [n] else []) []) (hne : ok = true → n = (d.n : Int) → d.out.stopped = false ∧ d.out.ended = false) : GoI k s0 (d.given n ok) [] [] := by
  unfold Dng.given
  cases ok with
  | false => exact h
  | true =>
    have := GoI.goes (y := 0) h (w0 := n) (by simp) ⟨by decide, by decide⟩ (hne rfl)
    exact this.bal (fun w => by simp)
theorem wait_err {g : Gates} {n c m ch : Int} (h : (g.wait n c m ch).2.2.1 ≠ 0) : (g.wait n c m ch).2.1 = false := by
  unfold Gates.wait at h ⊢
  repeat' split
  all_goals first | rfl | skip
  rename_i h1 h2 h3 h4
  rw [h1, h2] at h
  simp only at h
  rw [if_neg h3, if_pos h4] at h
  exact absurd rfl h
theorem St.waits (S : St k s0 d t) : d.s.gates.waits d.n = false := waits_zero (by have := S.zero; unfold cnt at this; omega)
theorem wait_own {g : Gates} {n c m ch : Int} (hw0 : g.waits n = false) (h : (g.wait n c m ch).2.2.1 = 0) : 1 ≤ cG (g.wait n c m ch).2.2.2 n := by
  by_cases hm : 0 ≤ m ∧ m < (g.mtx.length : Int)
  · by_cases hc : 0 ≤ c ∧ c < (g.cnd.length : Int)
    · obtain ⟨x, hx, hgx⟩ := geti_some hm
      obtain ⟨r, hr, hgr⟩ := geti_some hc
      cases hb : x.is n with
      | false => rw [g_wait_own hgx hgr hw0 hb] at h; exact absurd h d5
      | true =>
        rw [g_wait_go hgx hgr hw0 hb]
        have a3 := cG_cnd (g := { g with mtx := g.mtx.set m.toNat (x.unlock ch).2.2 }) (y := r ++ [⟨n, m⟩]) hr n
        have a4 : cRow n r ≤ cG { g with mtx := g.mtx.set m.toNat (x.unlock ch).2.2 } n := by
          have := sumN_ge (f := cRow n) (List.mem_of_getElem? hr)
          unfold cG; simp only; omega
        rw [cRow_app, b2_yes rfl] at a3
        simp only at a3 ⊢
        omega
    · rw [g_wait_no2 hc] at h; exact absurd h d1
  · rw [g_wait_no1 hm] at h; exact absurd h d1
theorem St.mutex (S : St k s0 d t) : GoI k s0 d.mutex [] [] := by
  unfold Dng.mutex
  simp only
  split
  · obtain ⟨hg, hc⟩ := lock_c (n := d.n) (m := d.i.n) S.h.ok.gt
    split
    · rename_i hb
      have h1 := S.h.withG hg (p' := []) (q' := [(d.n : Int)]) (fun w => by
        rw [hc w, cnt1]
        have : b2 (((d.s.gates.lock d.n d.i.n).2.1 = 0 ∧ (d.s.gates.lock d.n d.i.n).1 = false) ∧ (d.n : Int) = w) = b2 ((d.n : Int) = w) := by unfold b2; simp [hb]
        rw [this]; simp)
      exact h1.block S.ht S.hw S.hn S.hs S.he ⟨by decide, by decide⟩ (by decide)
    · rename_i hb
      have h1 := S.h.withG hg (p' := []) (q' := []) (fun w => by rw [hc w, b2_no (fun h => hb h.1)]; rfl)
      exact h1.pass S.ht S.hw S.hn lock_bd
  · split
    · obtain ⟨hg, hc⟩ := unlock_c (n := d.n) (m := d.i.n) (c := d.choice) S.h.ok.gt
      have h1 := S.h.withG hg (p' := if (d.s.gates.unlock d.n d.i.n d.choice).2.1 = true then [(d.s.gates.unlock d.n d.i.n d.choice).1] else []) (q' := []) (fun w => by rw [cntIf]; have := hc w; simp; omega)
      exact (h1.pass S.ht S.hw S.hn unlock_bd).given (fun _ _ => ⟨S.hs, S.he⟩)
    · obtain ⟨hg, hc⟩ := wait_c (n := d.n) (c := d.i.n) (m := d.i.c) (ch := d.choice) S.h.ok.gt S.waits
      have hc2 := fun w => hc w
      split
      · rename_i he
        have h1 := S.h.withG hg (p' := []) (q' := []) (fun w => by
          have := hc w
          rw [b2_no (fun h => by rw [wait_err he] at h; exact absurd h.1 (by simp)), b2_no (fun h => he h.1)] at this
          simp; omega)
        exact h1.pass S.ht S.hw S.hn wait_bd
      · rename_i he
        have he : (d.s.gates.wait d.n d.i.n d.i.c d.choice).2.2.1 = 0 := Decidable.not_not.mp he
        have hno : (d.s.gates.wait d.n d.i.n d.i.c d.choice).2.1 = true → ¬ (d.s.gates.wait d.n d.i.n d.i.c d.choice).1 = (d.n : Int) := fun ho hn => by
          have h1 := hc d.n
          have h2 : cG d.s.gates d.n = 0 := by have := S.zero; unfold cnt at this; omega
          have h3 := wait_own (g := d.s.gates) (n := d.n) (c := d.i.n) (m := d.i.c) (ch := d.choice) S.waits he
          rw [b2_yes ⟨ho, hn⟩, b2_yes ⟨he, rfl⟩] at h1
          omega
        have h1 := S.h.withG hg (p' := if (d.s.gates.wait d.n d.i.n d.i.c d.choice).2.1 = true then [(d.s.gates.wait d.n d.i.n d.i.c d.choice).1] else []) (q' := [(d.n : Int)]) (fun w => by
          rw [cntIf, cnt1]
          have := hc w
          have e : b2 ((d.s.gates.wait d.n d.i.n d.i.c d.choice).2.2.1 = 0 ∧ (d.n : Int) = w) = b2 ((d.n : Int) = w) := by unfold b2; simp [he]
          rw [e] at this
          simp; omega)
        exact (h1.block S.ht S.hw S.hn S.hs S.he ⟨by decide, by decide⟩ (by decide)).given (fun ho hn => absurd hn (hno ho))
theorem St.sem (S : St k s0 d t) : GoI k s0 d.sem [] [] := by
  unfold Dng.sem
  simp only
  split
  · obtain ⟨hg, hc⟩ := up_c (s := d.i.n) (c := d.choice) S.h.ok.gt
    have h1 := S.h.withG hg (p' := if (d.s.gates.up d.i.n d.choice).2.1 = true then [(d.s.gates.up d.i.n d.choice).1] else []) (q' := []) (fun w => by rw [cntIf]; have := hc w; simp; omega)
    exact (h1.pass S.ht S.hw S.hn up_bd).given (fun _ _ => ⟨S.hs, S.he⟩)
  · obtain ⟨hg, hc⟩ := down_c (n := d.n) (s := d.i.n) S.h.ok.gt S.waits
    split
    · rename_i hb
      have h1 := S.h.withG hg (p' := []) (q' := [(d.n : Int)]) (fun w => by
        rw [hc w, cnt1]
        have : b2 (((d.s.gates.down d.n d.i.n).2.1 = 0 ∧ (d.s.gates.down d.n d.i.n).1 = false) ∧ (d.n : Int) = w) = b2 ((d.n : Int) = w) := by unfold b2; simp [hb]
        rw [this]; simp)
      exact h1.block S.ht S.hw S.hn S.hs S.he ⟨by decide, by decide⟩ (by decide)
    · rename_i hb
      have h1 := S.h.withG hg (p' := []) (q' := []) (fun w => by rw [hc w, b2_no (fun h => hb h.1)]; rfl)
      exact h1.pass S.ht S.hw S.hn down_bd
/-! those who go on by a signal -/
theorem Ok.why1 {s : Spc} (h : Ok k s p q) {w0 : Int} {u : Thr} (hu : s.at w0 = some u) (hu0 : u.why ≠ 0) (hu9 : u.why ≠ 9) : Ok k (s.setT w0.toNat { u with why := 1 }) p q := by
  obtain ⟨h0, hat⟩ := of_at hu
  have ho := h.th _ u hat
  refine h.setT (t' := { u with why := 1 }) hat ⟨ho.h, ⟨ho.R.l, ho.R.r, ho.R.i, ho.R.v, ho.R.h⟩, ho.pc, ho.d, fun e => absurd (show (1 : Int) = 9 from e) (by decide)⟩ (fun w => ?_)
  have e1 : bT u = 1 := bT_blk hu0 hu9
  have e2 : bT { u with why := 1 } = 1 := bT_blk (t := { u with why := 1 }) (by show (1 : Int) ≠ 0; decide) (by show (1 : Int) ≠ 9; decide)
  have e3 : jn w (some { u with why := 1 }) = jn w (some u) := rfl
  rw [e1, e2, e3]
theorem blk_why1 {s : Spc} {w0 : Int} {u : Thr} (hu : s.at w0 = some u) (hu0 : u.why ≠ 0) (hu9 : u.why ≠ 9) (w : Int) : blkS (s.setT w0.toNat { u with why := 1 }) w = blkS s w ∧ rdy (s.setT w0.toNat { u with why := 1 }) w = rdy s w := by
  obtain ⟨h0, hat⟩ := of_at hu
  have hc : ((w0.toNat : Nat) : Int) = w0 := by omega
  have e : (s.setT w0.toNat { u with why := 1 }).at w = if w = w0 then some { u with why := 1 } else s.at w := by
    have := at_set (s := s) (n := w0.toNat) (o := some { u with why := 1 }) (List.getElem?_eq_some_iff.1 hat).1 w
    rw [hc] at this; exact this
  unfold blkS rdy
  rw [e]
  by_cases hw : w = w0
  · rw [if_pos hw, hw, hu]
    refine ⟨?_, ?_⟩
    · show bT { u with why := 1 } = bT u
      exact (bT_blk (t := { u with why := 1 }) (by show (1 : Int) ≠ 0; decide) (by show (1 : Int) ≠ 9; decide)).trans (bT_blk hu0 hu9).symm
    · rw [rO_some, rO_some, if_neg (by show ¬ (1 : Int) = 0; decide), if_neg hu0]
  · rw [if_neg hw]; exact ⟨rfl, rfl⟩
theorem GoI.whyAll : ∀ (l : List Int) (d : Dng), GoI k s0 d p q → (∀ w ∈ l, 0 < blkS d.s w) → GoI k s0 { d with s := whyAll d.s l } p q
  | [], _, h, _ => h
  | w :: l, d, h, hl => by
    obtain ⟨u, hu, hu0, hu9⟩ := blk_pos (hl w List.mem_cons_self)
    have hat := (of_at hu).2
    have hk := blk_why1 hu hu0 hu9
    have h2 : GoI k s0 { d with s := d.s.setT w.toNat { u with why := 1 } } p q := ⟨h.ok.why1 hu hu0 hu9, fun w' => by
      have := h.rd w'
      show rdy (d.s.setT w.toNat { u with why := 1 }) w' + _ = _
      rw [(hk w').2]; exact this, h.wk, h.rc.setT hat rfl (by rw [bT_blk hu0 hu9]; exact bT_blk (t := { u with why := 1 }) (by show (1 : Int) ≠ 0; decide) (by show (1 : Int) ≠ 9; decide)) (fun _ => rfl), h.px⟩
    have h3 := GoI.whyAll l _ h2 (fun w' hw' => by
      show 0 < blkS (d.s.setT w.toNat { u with why := 1 }) w'
      rw [(hk w').1]; exact hl w' (List.mem_cons_of_mem _ hw'))
    show GoI k s0 { d with s := Go.SLYtnceicnimongcaaGreat.whyAll (d.s.setT w.toNat { d.s.t w.toNat with why := 1 }) l } p q
    rw [show d.s.t w.toNat = u from spc_t hat]
    exact h3
theorem GoI.goesAll : ∀ (l : List Int) (d : Dng), GoI k s0 d l [] → d.out.stopped = false ∧ d.out.ended = false → GoI k s0 (d.goesAll l) [] []
  | [], _, h, _ => h
  | w :: l, d, h, hs => by
    have h1 := h.goes (w0 := w) (y := 0) (by simp) ⟨by decide, by decide⟩ (fun _ => hs)
    refine GoI.goesAll l _ ?_ hs
    exact (h1.bal (fun w' => by simp [List.count_cons]))
theorem GoI.moved {l : List Int} (h : GoI k s0 d l []) (hs : d.out.stopped = false ∧ d.out.ended = false) : GoI k s0 (d.moved l) [] [] := by
  unfold Dng.moved
  refine GoI.goesAll l _ (GoI.whyAll d.waits d h (fun w hw => ?_)) hs
  have := h.ok.bal w
  have h1 : 0 < cG d.s.gates w := by
    obtain ⟨x, hx, hw⟩ := List.mem_flatMap.1 hw
    obtain ⟨y, hy, rfl⟩ := List.mem_map.1 hw
    have h2 := sumN_ge (f := fun m : Mtx => cRow y.who m.wait) (List.mem_of_mem_take hx)
    have h3 : 0 < cRow y.who x.wait := List.countP_pos_iff.2 ⟨y, hy, by simp [isW]⟩
    unfold cG; omega
  unfold cnt at this
  simp at this; omega
theorem St.signal (S : St k s0 d t) {all : Bool} : GoI k s0 (((d.withG (d.s.gates.signal d.i.n d.choice all).2.2).pass d.i.n 0 (d.s.gates.signal d.i.n d.choice all).2.1).moved (d.s.gates.signal d.i.n d.choice all).1) [] [] := by
  obtain ⟨hg, hc⟩ := signal_c (c := d.i.n) (ch := d.choice) (all := all) S.h.ok.gt
  have h1 := S.h.withG hg (p' := (d.s.gates.signal d.i.n d.choice all).1) (q' := []) (fun w => by have := hc w; simp; omega)
  exact (h1.pass S.ht S.hw S.hn signal_bd).moved ⟨S.hs, S.he⟩
end
end Go.SLYtnceicnimongcaaGreat
namespace Go.SLYtnceicnimongcaaGreat
open Go Go.RowKit

section
variable {k : Nat} {s0 : Spc} {d : Dng} {p q : List Int} {t : Thr}
theorem regs_W {l : List Int} (h : ∀ n, W64 (l.getD n 0)) {i n : Nat} {x : Int} (hx : W64 x) : W64 ((l.set i x).getD n 0) := getD_set_all hx h
theorem getD_W {l : List Int} (h : ∀ x ∈ l, W64 x) {i : Nat} (hi : i < l.length) : W64 (l.getD i 0) := h _ (List.mem_of_getElem? (getD_some hi))
theorem doI_ok {f : Frm} {m : List Int} {i : Ins} {z : Frm × List Int} (h : doI f m i = some z) (hI : InsOk i) (hl : f.regs.length = 8) (hr : ∀ n, W64 (f.regs.getD n 0)) (hp : 0 ≤ f.pc ∧ f.pc ≤ 256) (hm : ∀ x ∈ m, W64 x) :
    z.1.regs.length = 8 ∧ (∀ n, W64 (z.1.regs.getD n 0)) ∧ (0 ≤ z.1.pc ∧ z.1.pc ≤ 257) ∧ z.2.length = m.length ∧ ∀ x ∈ z.2, W64 x := by
  have hn := hI.n
  have hj := hI.j
  unfold doI at h
  split at h
  · cases h; exact ⟨hl, hr, ⟨hn.1, by have := hj (.inl ‹_›); show i.n ≤ 257; omega⟩, rfl, hm⟩
  split at h
  · cases h
    refine ⟨hl, hr, ?_, rfl, hm⟩
    show 0 ≤ (if f.reg i.a = 0 then i.n else f.pc + 1) ∧ (if f.reg i.a = 0 then i.n else f.pc + 1) ≤ 257
    have := hj (.inr ‹_›)
    split <;> omega
  split at h
  · cases h
    exact ⟨by show (f.regs.set _ _).length = 8; rw [List.length_set]; exact hl, fun n => regs_W hr ⟨hn.1, hn.2⟩, by show 0 ≤ f.pc + 1 ∧ f.pc + 1 ≤ 257; omega, rfl, hm⟩
  split at h
  · split at h
    · cases h
      refine ⟨by show (f.regs.set _ _).length = 8; rw [List.length_set]; exact hl, fun n => regs_W hr (getD_W hm ?_), by show 0 ≤ f.pc + 1 ∧ f.pc + 1 ≤ 257; omega, rfl, hm⟩
      have := (hr i.b.toNat).1
      unfold Frm.reg at *; omega
    · cases h
  split at h
  · split at h
    · cases h
      refine ⟨hl, hr, by show 0 ≤ f.pc + 1 ∧ f.pc + 1 ≤ 257; omega, by show (m.set _ _).length = _; rw [List.length_set], fun x hx => ?_⟩
      rcases List.mem_or_eq_of_mem_set hx with hx | rfl
      · exact hm x hx
      · exact hr _
    · cases h
  · cases h
    refine ⟨by show (f.regs.set _ _).length = 8; rw [List.length_set]; exact hl, fun n => regs_W hr (arith_W (hr _) ?_), by show 0 ≤ f.pc + 1 ∧ f.pc + 1 ≤ 257; omega, rfl, hm⟩
    split
    · exact ⟨by decide, by decide⟩
    · exact hr _
theorem St.told (S : St k s0 d t) : GoI k s0 d.told [] [] ∧ d.told.s.thr = d.s.thr ∧ d.told.s.mem = d.s.mem ∧ d.told.n = d.n ∧ d.told.out = d.out := by
  unfold Dng.told
  split
  · exact ⟨S.h.tell S.ht S.hw S.hn, rfl, rfl, rfl, rfl⟩
  · split
    · exact ⟨S.h.tell S.ht S.hw S.hn, rfl, rfl, rfl, rfl⟩
    · exact ⟨S.h, rfl, rfl, rfl, rfl⟩
theorem St.plain (S : St k s0 d t) (hpc : t.pc ≤ 256) : GoI k s0 d.plain [] [] := by
  have ho := S.o
  cases hd : doI t.frm d.s.mem d.i with
  | none =>
    rw [dplain_none S.ht hd]
    have hm : W64 18446744073709551615 := ⟨by decide, by decide⟩
    split
    · exact GoI.fin (d := d.tell d.b 0 6 true) (S.h.tell S.ht S.hw S.hn) S.ht S.hw S.hs S.he hm
    · exact GoI.fin (d := d.tell d.a d.b 6 true) (S.h.tell S.ht S.hw S.hn) S.ht S.hw S.hs S.he hm
  | some z =>
    rw [dplain_some S.ht hd]
    obtain ⟨h1, e1, e2, e3, e4⟩ := S.told
    obtain ⟨a1, a2, a3, a4, a5⟩ := doI_ok hd S.I ho.R.l ho.R.r ⟨ho.pc.1, hpc⟩ S.h.ok.me.2
    have h2 : GoI k s0 (d.told.setT (t.setF z.1)) [] [] := h1.own (t := t) (by rw [e1, e3]; exact S.ht) ⟨a1, a2, ho.R.i, ho.R.v, ho.R.h⟩ a3 rfl rfl rfl rfl rfl
    have h3 : GoI k s0 { d.told.setT (t.setF z.1) with s := { (d.told.setT (t.setF z.1)).s with mem := z.2 } } [] [] := ⟨h2.ok.mem (by show z.2.length = d.told.s.mem.length; rw [e2]; exact a4) a5, h2.rd, h2.wk, h2.rc.of rfl rfl, h2.px⟩
    have e5 : ({ d.told with s := { d.told.s.setT d.n (t.setF z.1) with mem := z.2 } } : Dng) = { d.told.setT (t.setF z.1) with s := { (d.told.setT (t.setF z.1)).s with mem := z.2 } } := by
      rw [← e3]; rfl
    rw [e5]; exact h3
theorem St.spawn (S : St k s0 d t) (hk : k ≤ 1000000) : GoI (k + 1) s0 d.spawn [] [] := by
  have hb := S.b
  have hok := S.h.ok.begin hk (f := d.i.n) hb
  have hrd := S.h.rd
  unfold Dng.spawn
  simp only
  cases hf : slotFree? d.s.table 0 with
  | none =>
    have e : d.s.begin d.i.n d.b = (0, 2, d.s) := begin_no hf
    rw [e] at hok ⊢
    simp only [show ¬ ((2 : Int) = 0) from by decide, if_false]
    rw [dng_t (d := { d with s := d.s, out := d.out }) S.ht]
    have h1 : GoI (k + 1) s0 d [] [] := ⟨hok, hrd, S.h.wk, S.h.rc, S.h.px⟩
    have ho := S.o
    have h2 := h1.own S.ht (t' := t.put d.i.a 0) (ho.R.put (by decide)) ho.pc rfl rfl rfl rfl rfl
    exact h2.pass (t := t.put d.i.a 0) (setT_same S.ht) S.hw S.hn (by decide)
  | some n =>
    obtain ⟨t1, ht1, ht1e⟩ := spawn_thr (f := d.i.n) (arg := d.b) hf (by
      have := S.h.ok.lt
      have hfr : ∀ (l : List (Bool × Int)) (i n : Nat), slotFree? l i = some n → n < i + l.length := by
        intro l
        induction l with
        | nil => intro i n h; cases h
        | cons o l ih =>
          intro i n h
          unfold slotFree? at h
          split at h
          · have := ih (i + 1) n h; simp only [List.length_cons]; omega
          · cases h; simp only [List.length_cons]; omega
      have := hfr _ _ _ hf
      have := S.h.ok.ll
      omega)
    have e1 : (d.s.begin d.i.n d.b).1 = (n : Int) := by rw [begin_ok hf]
    have e2 : (d.s.begin d.i.n d.b).2.1 = 0 := by rw [begin_ok hf]
    have e3 : (d.s.begin d.i.n d.b).2.2.thr = d.s.thr.set n (some t1) := by rw [ht1e, begin_ok hf]
    have hn : n < d.s.thr.length := by
      have := (List.getElem?_eq_some_iff.1 ht1).1
      rw [e3, List.length_set] at this; exact this
    have hno : d.s.thr[n]? = some none := by
      obtain ⟨x, hx⟩ := at_some hn
      cases x with
      | none => exact hx
      | some u =>
        have hfr : ∀ (l : List (Bool × Int)) (i n : Nat), slotFree? l i = some n → i ≤ n ∧ ∃ o, l[n - i]? = some o ∧ o.1 = false := by
          intro l
          induction l with
          | nil => intro i n h; cases h
          | cons o l ih =>
            intro i n h
            unfold slotFree? at h
            split at h
            · obtain ⟨a, o', b, c⟩ := ih (i + 1) n h
              exact ⟨by omega, o', by rw [show n - i = (n - (i + 1)) + 1 from by omega]; simpa using b, c⟩
            · cases h; rename_i hb
              exact ⟨Nat.le_refl _, o, by simp, by simpa using hb⟩
        obtain ⟨-, o, ho, ho1⟩ := hfr _ _ _ hf
        rw [Nat.sub_zero] at ho
        have := (S.h.ok.us n (S.h.ok.lt ▸ hn)).2 ⟨u, hx⟩
        rw [List.getD_eq_getElem?_getD, ho] at this
        rw [show (Option.getD (some o) (false, (0 : Int))) = o from rfl, ho1] at this
        cases this
    have hne : n ≠ d.n := fun e => by rw [e, S.ht] at hno; cases hno
    have ht2 : (d.s.begin d.i.n d.b).2.2.thr[d.n]? = some (some t) := by rw [e3, List.getElem?_set_ne hne]; exact S.ht
    rw [e2, e1]
    simp only [if_true, Int.toNat_natCast]
    rw [spc_t ht1]
    have h1 : GoI (k + 1) s0 { d with s := (d.s.begin d.i.n d.b).2.2, out := { d.out with woken := d.out.woken ++ [(n : Int)] } } [] [] := ⟨hok, fun w => by
      have h2 := hrd w
      rw [if_neg (by rw [S.hs, S.he]; simp)] at h2
      show rdy (d.s.begin d.i.n d.b).2.2 w + (if (d.out.stopped = true ∨ d.out.ended = true) ∧ w = (d.n : Int) then 1 else 0) = rdy s0 w + (d.out.woken ++ [(n : Int)]).count w
      rw [if_neg (by rw [S.hs, S.he]; simp), List.count_append, cnt1]
      have h3 : rdy (d.s.begin d.i.n d.b).2.2 w = if w = (n : Int) then 1 else rdy d.s w := by
        unfold rdy
        have := at_set (s := d.s) (n := n) (o := some t1) hn w
        rw [show (d.s.begin d.i.n d.b).2.2.at w = ({ d.s with thr := d.s.thr.set n (some t1) } : Spc).at w from by unfold Spc.at; rw [e3], this]
        split
        · rw [rO_some, ht1e]; exact if_pos rfl
        · rfl
      rw [h3]
      have h4 : rdy d.s (n : Int) = 0 := by unfold rdy; rw [at_nat, hno]; rfl
      by_cases e : w = (n : Int)
      · rw [if_pos e, b2_yes e.symm]; rw [e] at h2 ⊢; omega
      · rw [if_neg e, b2_no (fun h => e h.symm)]; omega, fun w hw => by
      have hw : w ∈ d.out.woken ++ [(n : Int)] := hw
      rcases List.mem_append.1 hw with hw | hw
      · exact S.h.wk w hw
      · rw [List.mem_singleton] at hw
        subst hw
        have h2 := hrd (n : Int)
        rw [if_neg (by rw [S.hs, S.he]; simp)] at h2
        have h4 : rdy d.s (n : Int) = 0 := by unfold rdy; rw [at_nat, hno]; rfl
        omega, S.h.rc.begin S.h.ok |>.of rfl rfl |> fun h => (by
      show RecI (d.s.begin d.i.n d.b).2.2 ((d.s.begin d.i.n d.b).2.2.recs ++ d.ends)
      rw [begin_recs]; exact h), by show s0.recs <+: (d.s.begin d.i.n d.b).2.2.recs; rw [begin_recs]; exact S.h.px⟩
    rw [dng_t (d := { d with s := (d.s.begin d.i.n d.b).2.2, out := { d.out with woken := d.out.woken ++ [(n : Int)] } }) ht2]
    have ho := h1.ok.th d.n t ht2
    have hh1 := h1.ok.th n t1 ht1
    have h2 := h1.own ht2 (t' := t.put d.i.a t1.handle) (ho.R.put hh1.R.h) ho.pc rfl rfl rfl rfl rfl
    exact h2.pass (t := t.put d.i.a t1.handle) (setT_same ht2) S.hw S.hn (by decide)
theorem GoI.other (h : GoI k s0 d p q) {m : Nat} {u u' : Thr} (hu : d.s.thr[m]? = some (some u)) (hh : HOk (d.s.table.getD m (false, 0)) m u') (hhd : u'.handle = u.handle) (hop : u'.op = u.op) (hw : u'.why = u.why) {q' : List Int} (e : ∀ w, jn w (some u') + q.count w = jn w (some u) + q'.count w) : GoI k s0 { d with s := d.s.setT m u' } p q' := by
  refine ⟨h.ok.setT hu hh (fun w => ?_), fun w => ?_, h.wk, h.rc.setT hu hhd (by unfold bT; rw [hw]) (fun _ => hop), h.px⟩
  · have e1 : bT u' = bT u := by unfold bT; rw [hw]
    have := e w
    rw [e1]; omega
  · have h1 := h.rd w
    show rdy (d.s.setT m u') w + _ = _
    have : rdy (d.s.setT m u') w = rdy d.s w := by
      rw [rdy_setT hu]
      split
      · rename_i e; rw [e, rdy_of hu, rO_some, rO_some, hw]
      · rfl
    rw [this]; exact h1
theorem slot_live (h : Ok k d.s p q) (x : Int) (m : Nat) (e : slotFind d.s.table x = some m) : ∃ u, d.s.thr[m]? = some (some u) := by
  obtain ⟨h1, h2, h3, h4⟩ := find_lt e
  exact (h.us m (h.ll ▸ h1)).1 h3
theorem other_zero2 (h : Ok k d.s p q) {x : Int} (e : (d.other x).2 = 0) : ∃ m u, (d.other x).1 = m ∧ m ≠ d.n ∧ d.s.thr[m]? = some (some u) ∧ u.detached = false ∧ u.joiner = -1 := by
  cases hf : slotFind d.s.table x with
  | none => rw [other_no hf] at e; cases e
  | some m =>
    obtain ⟨u, hu⟩ := slot_live h x m hf
    by_cases h1 : m = d.n ∨ u.detached = true
    · rw [other_self hf hu h1] at e; cases e
    · by_cases h2 : u.joiner = -1
      · exact ⟨m, u, by rw [other_ok hf hu h1 h2], fun h => h1 (.inl h), hu, by cases hd : u.detached with | false => rfl | true => exact absurd (.inr hd) h1, h2⟩
      · rw [other_join hf hu h1 h2] at e; cases e
theorem free_thr {s : Spc} {n m : Nat} {u : Thr} (h : s.thr[m]? = some (some u)) (hne : n ≠ m) : (s.free n).thr[m]? = some (some u) := by
  unfold Spc.free; simp only; rw [List.getElem?_set_ne hne]; exact h
theorem St.detach (S : St k s0 d t) : GoI k s0 d.detach [] [] := by
  unfold Dng.detach
  simp only
  split
  · exact S.pass other_bd
  · rename_i e
    obtain ⟨m, u, e1, hne, hu, hd, hj⟩ := other_zero2 S.h.ok (Decidable.not_not.mp e)
    have hOu := S.h.ok.th m u hu
    rw [e1, spc_t hu]
    split
    · rename_i h9
      exact (S.h.free hu h9).pass (t := t) (free_thr S.ht hne) S.hw S.hn (by decide)
    · exact (S.h.other hu (u' := { u with detached := true }) ⟨hOu.h, ⟨hOu.R.l, hOu.R.r, hOu.R.i, hOu.R.v, hOu.R.h⟩, hOu.pc, fun _ => hj, hOu.f⟩ rfl rfl rfl (fun w => rfl)).pass (t := t) (setT_thr S.ht hne) S.hw S.hn (by decide)
theorem St.join (S : St k s0 d t) : GoI k s0 d.join [] [] := by
  have ho := S.o
  unfold Dng.join
  simp only
  split
  · exact S.pass other_bd
  · rename_i e
    obtain ⟨m, u, e1, hne, hu, hd, hj⟩ := other_zero2 S.h.ok (Decidable.not_not.mp e)
    have hOu := S.h.ok.th m u hu
    rw [e1, spc_t hu]
    split
    · rename_i h9
      rw [dng_t S.ht]
      have h1 := S.h.own S.ht (t' := t.put d.i.a u.value) (ho.R.put hOu.R.v) ho.pc rfl rfl rfl rfl rfl
      have hu2 : (d.setT (t.put d.i.a u.value)).s.thr[m]? = some (some u) := setT_thr hu (Ne.symm hne)
      exact (h1.free hu2 h9).pass (t := t.put d.i.a u.value) (free_thr (setT_same S.ht) hne) S.hw S.hn (by decide)
    · rename_i h9
      have h1 : GoI k s0 { d with s := d.s.setT m { u with joiner := d.n } } [] [(d.n : Int)] := S.h.other hu (u' := { u with joiner := d.n }) ⟨hOu.h, ⟨hOu.R.l, hOu.R.r, hOu.R.i, hOu.R.v, hOu.R.h⟩, hOu.pc, fun e => absurd (show u.detached = true from e) (by rw [hd]; simp), fun e => absurd (show u.why = 9 from e) h9⟩ rfl rfl rfl (fun w => by
        rw [jn_some, jn_some, hj, if_neg (show ¬ ((-1 : Int) = w ∧ ¬ w = -1) from fun h => h.2 h.1.symm), cnt1]
        unfold b2
        by_cases e : (d.n : Int) = w
        · rw [if_pos (show (d.n : Int) = w ∧ ¬ w = -1 from ⟨e, by omega⟩), if_pos e]; simp
        · rw [if_neg (show ¬ ((d.n : Int) = w ∧ ¬ w = -1) from fun h => e h.1), if_neg e]; simp)
      exact h1.block (setT_thr S.ht hne) S.hw S.hn S.hs S.he ⟨by decide, by decide⟩ (by have := S.I.a; omega)
end
end Go.SLYtnceicnimongcaaGreat
