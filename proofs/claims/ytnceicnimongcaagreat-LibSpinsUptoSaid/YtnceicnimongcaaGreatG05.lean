/- Walks of functions, and what they compute. Conditions: none, this text proves no statement. -/
import Derived.Test.YtnceicnimongcaaGreatG04
import Derived.Laws.StructEq
import Derived.Test.YtnceicnimongcaaGreatG01
import Derived.WalkKit
import Derived.ProofKit
import Derived.OpenShut
import Derived.JoinedCond
import Derived.Deep.Slices
import Derived.Carry
import Derived.Test.YtnceicnimongcaaGreatRows
import Derived.Test.YtnceicnimongcaaGreatG03
import Derived.Test.YtnceicnimongcaaGreatProg
import Derived.KernelRfl
set_option maxRecDepth 20000
namespace Go.SLYtnceicnimongcaaGreat
open Go Go.RowKit

theorem w0W : W64 0 := ⟨by decide, by decide⟩
theorem count_pos_mem {l : List Int} {w : Int} (h : l.count w = 0) : l.contains w = false := by
  cases e : l.contains w with
  | false => rfl
  | true =>
    have : w ∈ l := by simpa using e
    have := List.count_pos_iff.2 this
    omega
theorem tub_waits_zero {u : Tub} {n : Int} (h : cU n u = 0) : u.waits n = false := by
  unfold cU at h
  unfold Tub.waits
  rw [count_pos_mem (by omega), Bool.false_or, List.any_eq_false]
  intro x hx e
  have : 0 < u.puts.countP fun x => decide (x.who = n) := List.countP_pos_iff.2 ⟨x, hx, e⟩
  omega
theorem cons_count {l : List Int} {x w : Int} : (x :: l).count w = l.count w + b2 (x = w) := by rw [List.count_cons]; unfold b2; simp
theorem puts_app {l : List Ptr} {a b w : Int} : (l ++ [(⟨a, b⟩ : Ptr)]).countP (fun x : Ptr => decide (x.who = w)) = l.countP (fun x => decide (x.who = w)) + b2 (a = w) := by
  rw [List.countP_append]; unfold b2; simp [List.countP_cons]
theorem puts_cons {l : List Ptr} {x : Ptr} {w : Int} : (x :: l).countP (fun x => decide (x.who = w)) = l.countP (fun x => decide (x.who = w)) + b2 (x.who = w) := by
  rw [List.countP_cons]; unfold b2; simp
theorem put_c {u : Tub} (h : TOk u) {n x : Int} (hx : W64 x) (hw : u.waits n = false) : TOk (u.put n x).2.2.2 ∧ ∀ w, cU w (u.put n x).2.2.2 + b2 ((u.put n x).2.2.1 = true ∧ (u.put n x).2.1 = w) = cU w u + b2 ((u.put n x).1 = false ∧ n = w) := by
  cases hg : u.gets with
  | cons a r =>
    rw [put_get hw hg]
    refine ⟨⟨h.r, h.l, h.w, h.p⟩, fun w => ?_⟩
    have e1 : b2 (true = true ∧ a = w) = b2 (a = w) := by unfold b2; simp
    rw [b2_no (q := true = false ∧ n = w) (by rintro ⟨a, -⟩; cases a), e1]
    unfold cU
    rw [hg, cons_count]; simp only; omega
  | nil =>
    by_cases hr : (u.words.length : Int) < u.room
    · rw [put_room hw hg hr]
      refine ⟨⟨h.r, ?_, ?_, h.p⟩, fun w => ?_⟩
      · have := h.r; rw [List.length_append]; simp only [List.length_cons, List.length_nil]; omega
      · intro y hy
        rcases List.mem_append.1 hy with hy | hy
        · exact h.w y hy
        · rw [List.mem_singleton] at hy; rw [hy]; exact hx
      · rw [b2_no (q := true = false ∧ n = w) (by rintro ⟨a, -⟩; cases a), b2_no (q := false = true ∧ (0 : Int) = w) (by rintro ⟨a, -⟩; cases a)]; rfl
    · rw [put_full hw hg hr]
      refine ⟨⟨h.r, h.l, h.w, fun y hy => ?_⟩, fun w => ?_⟩
      · rcases List.mem_append.1 hy with hy | hy
        · exact h.p y hy
        · rw [List.mem_singleton] at hy; rw [hy]; exact hx
      · have e1 : b2 (false = false ∧ n = w) = b2 (n = w) := by unfold b2; simp
        rw [b2_no (q := false = true ∧ (0 : Int) = w) (by rintro ⟨a, -⟩; cases a), e1]
        unfold cU
        rw [puts_app]; simp only; omega
theorem get_c {u : Tub} (h : TOk u) {n : Int} (hw : u.waits n = false) : TOk (u.get n).2.2.2.2 ∧ W64 (u.get n).1 ∧ ∀ w, cU w (u.get n).2.2.2.2 + b2 ((u.get n).2.2.2.1 = true ∧ (u.get n).2.2.1 = w) = cU w u + b2 ((u.get n).2.1 = false ∧ n = w) := by
  have n1 : ∀ w, b2 (true = false ∧ n = w) = 0 := fun w => b2_no (by rintro ⟨a, -⟩; cases a)
  have n2 : ∀ w, b2 (false = true ∧ (0 : Int) = w) = 0 := fun w => b2_no (by rintro ⟨a, -⟩; cases a)
  cases hg : u.words with
  | nil =>
    rw [get_none hw hg]
    refine ⟨⟨h.r, h.l, h.w, h.p⟩, w0W, fun w => ?_⟩
    have e1 : b2 (false = false ∧ n = w) = b2 (n = w) := by unfold b2; simp
    rw [n2, e1]
    unfold cU
    rw [List.count_append, cnt1]; simp only; omega
  | cons x r =>
    have hwx := h.w x (by rw [hg]; exact List.mem_cons_self)
    have hwr : ∀ y ∈ r, W64 y := fun y hy => h.w y (by rw [hg]; exact List.mem_cons_of_mem _ hy)
    have hl := h.l
    rw [hg, List.length_cons] at hl
    cases hp : u.puts with
    | nil =>
      rw [get_one hw hg hp]
      refine ⟨⟨h.r, by show r.length ≤ 8; omega, hwr, h.p⟩, hwx, fun w => ?_⟩
      rw [n1, n2]; rfl
    | cons y q =>
      rw [get_two hw hg hp]
      refine ⟨⟨h.r, ?_, ?_, fun z hz => h.p z (by rw [hp]; exact List.mem_cons_of_mem _ hz)⟩, hwx, fun w => ?_⟩
      · show (r ++ [y.x]).length ≤ 8
        rw [List.length_append]; simp only [List.length_cons, List.length_nil]; omega
      · intro z hz
        rcases List.mem_append.1 hz with hz | hz
        · exact hwr z hz
        · rw [List.mem_singleton] at hz; rw [hz]; exact h.p y (by rw [hp]; exact List.mem_cons_self)
      · have e1 : b2 (true = true ∧ y.who = w) = b2 (y.who = w) := by unfold b2; simp
        rw [n1, e1]
        unfold cU
        rw [hp, puts_cons]; simp only; omega
theorem cD_app {d : Dsk} {r : Rqs} {w : Int} : cD { d with wait := d.wait ++ [r] } w = cD d w + b2 (r.who = w) := by
  unfold cD; rw [List.countP_append]; unfold b2; simp [List.countP_cons]
theorem ask_c {d : Dsk} (h : DkOk d) {r : Rqs} (hx : W64 r.x) (hw : cD d r.who = 0) : DkOk (d.ask r).2 ∧ ∀ w, cD (d.ask r).2 w = cD d w + b2 ((d.ask r).1 = 0 ∧ r.who = w) := by
  cases hb : (decide (r.block < 0) || decide ((d.blocks.length : Int) ≤ r.block)) with
  | true =>
    rw [ask_arg hb]
    exact ⟨h, fun w => by rw [b2_no (fun h => d1 h.1)]; rfl⟩
  | false =>
    have hn : d.wait.any (fun x => decide (x.who = r.who)) = false := by
      rw [List.any_eq_false]
      intro x hx e
      have : 0 < cD d r.who := List.countP_pos_iff.2 ⟨x, hx, e⟩
      omega
    rw [ask_go hb hn]
    refine ⟨⟨h.l, h.b, fun y hy => ?_⟩, fun w => ?_⟩
    · rcases List.mem_append.1 hy with hy | hy
      · exact h.w y hy
      · rw [List.mem_singleton] at hy
        subst hy
        simp only [Bool.or_eq_false_iff, decide_eq_false_iff_not] at hb
        exact ⟨by omega, by show _ < (d.blocks.length : Int); omega, hx⟩
    · rw [cD_app]
      have e1 : b2 ((0 : Int) = 0 ∧ r.who = w) = b2 (r.who = w) := by unfold b2; simp
      rw [e1]
theorem cL_set {l : List (Int × Int)} {n v w : Int} (h : l.countP (fun x => decide (x.1 = n)) = 0) : (mapSet l n v).countP (fun x => decide (x.1 = w)) = l.countP (fun x => decide (x.1 = w)) + b2 (n = w) := by
  induction l with
  | nil => unfold mapSet b2; simp [List.countP_cons]
  | cons a l ih =>
    rw [List.countP_cons] at h
    have ha : ¬ a.1 = n := fun e => by rw [if_pos (by simpa using e)] at h; omega
    unfold mapSet
    rw [if_neg ha, List.countP_cons, List.countP_cons, ih (by omega)]
    omega
theorem mapGet_zero {l : List (Int × Int)} {n : Int} (h : l.countP (fun x => decide (x.1 = n)) = 0) : mapGet l n = none := by
  unfold mapGet
  rw [List.find?_eq_none.2]
  · rfl
  · intro x hx e
    have : 0 < l.countP (fun x => decide (x.1 = n)) := List.countP_pos_iff.2 ⟨x, hx, e⟩
    omega
theorem sleep_c {u : Whl} (h : 0 ≤ u.now ∧ u.now ≤ 1099511627776) {n x : Int} (hx : 1 ≤ x ∧ x ≤ 1099511627776) (hz : cL u n = 0) : (0 ≤ (u.sleep n x).2.now ∧ (u.sleep n x).2.now ≤ 1099511627776) ∧ ∀ w, cL (u.sleep n x).2 w = cL u w + b2 (n = w) := by
  unfold Whl.sleep
  rw [if_neg (by omega), mapGet_zero hz, if_neg (by simp)]
  exact ⟨h, fun w => cL_set hz⟩
section
variable {k : Nat} {s0 : Spc} {d : Dng} {p q : List Int} {t : Thr}
theorem St.tube (S : St k s0 d t) (ht : d.i.n < (d.s.tubes.length : Int)) : d.s.tubes[d.i.n.toNat]? = some d.tube ∧ TOk d.tube ∧ d.tube.waits d.n = false := by
  have hn := S.I.n
  have h1 : d.s.tubes[d.i.n.toNat]? = some d.tube := getD_some (by omega)
  have hm := List.mem_of_getElem? h1
  refine ⟨h1, S.h.ok.tb.2 _ hm, tub_waits_zero ?_⟩
  have h2 : cU d.n d.tube ≤ cT d.s.tubes d.n := sumN_ge (f := cU d.n) hm
  have := S.zero
  unfold cnt at this; omega
theorem St.put (S : St k s0 d t) (ht : d.i.n < (d.s.tubes.length : Int)) : GoI k s0 d.put [] [] := by
  obtain ⟨h1, h2, h3⟩ := S.tube ht
  obtain ⟨h4, h5⟩ := put_c h2 S.a h3
  unfold Dng.put
  simp only
  split
  · rename_i hb
    have hg : (d.tube.put d.n d.a).2.2.1 = false := by
      cases hg : d.tube.gets with
      | cons a r => rw [put_get h3 hg] at hb; cases hb
      | nil =>
        by_cases hr : (d.tube.words.length : Int) < d.tube.room
        · rw [put_room h3 hg hr] at hb; cases hb
        · rw [put_full h3 hg hr]
    have h6 := S.h.withU h1 h4 (p' := []) (q' := [(d.n : Int)]) (fun w => by
      have := h5 w
      rw [b2_no (fun h => by rw [hg] at h; exact absurd h.1 (by simp))] at this
      have e : b2 ((d.tube.put d.n d.a).1 = false ∧ (d.n : Int) = w) = b2 ((d.n : Int) = w) := by unfold b2; simp [hb]
      rw [e] at this; rw [cnt1]; simp; omega)
    exact h6.block S.ht S.hw S.hn S.hs S.he ⟨by decide, by decide⟩ (by decide)
  · rename_i hb
    have hb : (d.tube.put d.n d.a).1 = true := by simpa using hb
    have h6 := S.h.withU h1 h4 (p' := if (d.tube.put d.n d.a).2.2.1 = true then [(d.tube.put d.n d.a).2.1] else []) (q' := []) (fun w => by
      have := h5 w
      rw [b2_no (q := (d.tube.put d.n d.a).1 = false ∧ _) (fun h => by rw [hb] at h; exact absurd h.1 (by simp))] at this
      rw [cntIf]; simp; omega)
    have h7 := h6.pass S.ht S.hw S.hn (x := d.i.n) (y := d.a) (e := 0) (by decide)
    split
    · rename_i hg
      rw [if_pos hg] at h7
      exact (h7.goes (by simp) S.a (fun _ => ⟨S.hs, S.he⟩)).bal (fun w => by simp)
    · rename_i hg
      rw [if_neg hg] at h7
      exact h7
theorem St.get (S : St k s0 d t) (ht : d.i.n < (d.s.tubes.length : Int)) : GoI k s0 d.get [] [] := by
  have ho := S.o
  obtain ⟨h1, h2, h3⟩ := S.tube ht
  obtain ⟨h4, hW, h5⟩ := get_c h2 h3
  unfold Dng.get
  simp only
  split
  · rename_i hb
    have hg : (d.tube.get d.n).2.2.2.1 = false := by
      cases hg : d.tube.words with
      | nil => rw [get_none h3 hg]
      | cons x r =>
        cases hp : d.tube.puts with
        | nil => rw [get_one h3 hg hp]
        | cons y q => rw [get_two h3 hg hp] at hb; cases hb
    have h6 := S.h.withU h1 h4 (p' := []) (q' := [(d.n : Int)]) (fun w => by
      have := h5 w
      rw [b2_no (fun h => by rw [hg] at h; exact absurd h.1 (by simp))] at this
      have e : b2 ((d.tube.get d.n).2.1 = false ∧ (d.n : Int) = w) = b2 ((d.n : Int) = w) := by unfold b2; simp [hb]
      rw [e] at this; rw [cnt1]; simp; omega)
    exact h6.block S.ht S.hw S.hn S.hs S.he ⟨by decide, by decide⟩ (by have := S.I.a; omega)
  · rename_i hb
    have hb : (d.tube.get d.n).2.1 = true := by simpa using hb
    have h6 := S.h.withU h1 h4 (p' := if (d.tube.get d.n).2.2.2.1 = true then [(d.tube.get d.n).2.2.1] else []) (q' := []) (fun w => by
      have := h5 w
      rw [b2_no (q := (d.tube.get d.n).2.1 = false ∧ _) (fun h => by rw [hb] at h; exact absurd h.1 (by simp))] at this
      rw [cntIf]; simp; omega)
    rw [show (d.withU d.i.n.toNat (d.tube.get d.n).2.2.2.2).t = t from dng_t S.ht]
    have h8 := h6.own S.ht (t' := t.put d.i.a (d.tube.get d.n).1) (ho.R.put hW) ho.pc rfl rfl rfl rfl rfl
    have h7 := h8.pass (t := t.put d.i.a (d.tube.get d.n).1) (setT_same S.ht) S.hw S.hn (x := d.i.n) (y := (d.tube.get d.n).1) (e := 0) (by decide)
    split
    · rename_i hg
      rw [if_pos hg] at h7
      exact (h7.goes (by simp) ⟨by decide, by decide⟩ (fun _ => ⟨S.hs, S.he⟩)).bal (fun w => by simp)
    · rename_i hg
      rw [if_neg hg] at h7
      exact h7
theorem St.ask (S : St k s0 d t) {b y i : Int} (hy : W64 y) (hi : -1 ≤ i ∧ i < 8) : GoI k s0 (d.ask b y i) [] [] := by
  unfold Dng.ask
  simp only
  split
  · have hz : cD d.s.disk d.n = 0 := by have := S.zero; unfold cnt at this; omega
    obtain ⟨h1, h2⟩ := ask_c S.h.ok.dk (r := ⟨d.n, b, decide (d.i.op = 34), y⟩) hy hz
    split
    · rename_i he
      have h6 := S.h.withD h1 (p' := []) (q' := []) (fun w => by rw [h2 w, b2_no (fun h => he h.1)]; rfl)
      exact h6.pass S.ht S.hw S.hn ask_bd
    · rename_i he
      have he := Decidable.not_not.mp he
      have h6 := S.h.withD h1 (p' := []) (q' := [(d.n : Int)]) (fun w => by
        rw [h2 w, cnt1]
        have e : b2 ((d.s.disk.ask ⟨d.n, b, decide (d.i.op = 34), y⟩).1 = 0 ∧ (d.n : Int) = w) = b2 ((d.n : Int) = w) := by unfold b2; simp [he]
        simp only [e]; simp)
      exact h6.block S.ht S.hw S.hn S.hs S.he ⟨by decide, by decide⟩ hi
  · exact S.pass (by decide)
theorem St.sleep (S : St k s0 d t) : GoI k s0 d.sleep [] [] := by
  have ha := S.a
  unfold Dng.sleep
  simp only
  split
  · exact S.pass (by decide)
  · split
    · exact S.pass (by decide)
    · rename_i h0 h1
      have hz : cL d.s.wheel d.n = 0 := by have := S.zero; unfold cnt at this; omega
      obtain ⟨h2, h3⟩ := sleep_c S.h.ok.wl (n := d.n) (x := d.a) ⟨by have := ha.1; omega, by omega⟩ hz
      have h6 := S.h.withW h2 (p' := []) (q' := [(d.n : Int)]) (fun w => by rw [h3 w, cnt1]; simp)
      exact h6.block S.ht S.hw S.hn S.hs S.he ⟨by decide, by decide⟩ (by decide)
theorem St.kernel (S : St k s0 d t) (ht : d.i.op = 35 ∨ d.i.op = 36 → d.i.n < (d.s.tubes.length : Int)) : GoI k s0 d.kernel [] [] := by
  have hi := S.I.a
  unfold Dng.kernel
  split
  · exact S.ask ⟨by decide, by decide⟩ (by omega)
  split
  · exact S.ask S.b (by decide)
  split
  · exact S.put (ht (.inl ‹_›))
  split
  · exact S.get (ht (.inr ‹_›))
  split
  · exact S.sleep
  · exact S.pass (by decide)
theorem GoI.more (h : GoI k s0 d p q) {k' : Nat} (hk : k ≤ k') : GoI k' s0 d p q := ⟨h.ok.more hk, h.rd, h.wk, h.rc, h.px⟩
theorem St.call (S : St k s0 d t) (hk : k ≤ 1000000) (ht : d.i.op = 35 ∨ d.i.op = 36 → d.i.n < (d.s.tubes.length : Int)) : GoI (k + 1) s0 d.call [] [] := by
  have ho := S.o
  have up : ∀ {e : Dng}, GoI k s0 e [] [] → GoI (k + 1) s0 e [] [] := fun h => h.more (Nat.le_succ _)
  unfold Dng.call
  simp only
  split
  · exact S.spawn hk
  split
  · rw [dng_t S.ht]
    have h1 := S.h.own S.ht (t' := t.put d.i.a t.handle) (ho.R.put ho.R.h) ho.pc rfl rfl rfl rfl rfl
    exact up (h1.pass (t := t.put d.i.a t.handle) (setT_same S.ht) S.hw S.hn (by decide))
  split
  · have h1 := S.pass (x := 0) (y := 0) (e := 0) (by decide)
    exact up ⟨h1.ok, h1.rd, h1.wk, h1.rc, h1.px⟩
  split
  · exact up S.join
  split
  · exact up S.detach
  split
  · exact up (GoI.fin (d := d.tell d.a 0 0 true) (S.h.tell S.ht S.hw S.hn) S.ht S.hw S.hs S.he S.a)
  split
  · exact up S.mutex
  split
  · exact up S.signal
  split
  · exact up S.sem
  · exact up (S.kernel ht)
end
end Go.SLYtnceicnimongcaaGreat
namespace Go.SLYtnceicnimongcaaGreat
open Go Go.RowKit

theorem pig : ∀ (n : Nat) (l : List Int), (∀ x ∈ l, 0 ≤ x ∧ x < (n : Int)) → (∀ w, l.count w ≤ 1) → l.length ≤ n
  | 0, l, h, _ => by
    cases l with
    | nil => exact Nat.le_refl _
    | cons a l => have := h a List.mem_cons_self; omega
  | n + 1, l, h, hc => by
    have h1 := pig n (l.filter fun x => !decide (x = (n : Int))) (fun x hx => by
      obtain ⟨a, b⟩ := List.mem_filter.1 hx
      have := h x a
      have : ¬ x = (n : Int) := by simpa using b
      omega) (fun w => Nat.le_trans (List.Sublist.count_le w List.filter_sublist) (hc w))
    have h2 := List.length_eq_countP_add_countP (fun x => decide (x = (n : Int))) (l := l)
    have h3 : l.countP (fun x => decide (x = (n : Int))) = l.count (n : Int) := by unfold List.count; congr 1
    rw [← List.countP_eq_length_filter] at h1
    have h4 := hc (n : Int)
    have h5 : l.countP (fun x => !decide (x = (n : Int))) = l.countP (fun a => decide ¬(decide (a = (n : Int))) = true) := by congr 1; funext x; simp
    omega
section
variable {k : Nat} {s : Spc}
theorem len16 {α : Type} {f : α → Int} {l : List α} (hl : s.thr.length = 16) (h : ∀ w, l.countP (fun x => decide (f x = w)) ≤ blkS s w) : l.length ≤ 16 := by
  have e : ∀ w, (l.map f).count w = l.countP (fun x => decide (f x = w)) := fun w => by
    unfold List.count; rw [List.countP_map]; congr 1
  have := pig 16 (l.map f) (fun x hx => by
    obtain ⟨y, hy, rfl⟩ := List.mem_map.1 hx
    have h1 : 0 < l.countP (fun x => decide (f x = f y)) := List.countP_pos_iff.2 ⟨y, hy, by simp⟩
    obtain ⟨t, ht, -, -⟩ := blk_pos (Nat.lt_of_lt_of_le h1 (h (f y)))
    obtain ⟨h0, hat⟩ := of_at ht
    have := (List.getElem?_eq_some_iff.1 hat).1
    exact ⟨h0, by omega⟩) (fun w => by rw [e]; exact Nat.le_trans (h w) blk_le)
  rw [List.length_map] at this; exact this
theorem live_blk {w : Int} (h : 0 < blkS s w) : 0 ≤ w ∧ ∃ u, s.thr[w.toNat]? = some (some u) := by
  obtain ⟨t, ht, -, -⟩ := blk_pos h
  exact ⟨(of_at ht).1, t, (of_at ht).2⟩
theorem form_n {p : Prg} (hc : ((((((((((0 < p.funcs.length ∧ p.funcs.length ≤ 8) ∧ 0 ≤ p.words ∧ p.words ≤ 64) ∧ 0 ≤ p.mutexes ∧ p.mutexes ≤ 4) ∧ 0 ≤ p.conds ∧ p.conds ≤ 4) ∧ 0 ≤ p.blocks ∧ p.blocks ≤ 64) ∧ 0 ≤ p.prio ∧ p.prio ≤ 7) ∧ p.sems.length ≤ 4) ∧ p.pipes.length ≤ 4) ∧ (p.funcs.all fun f => decide (f.length ≤ 256)) = true) ∧ (p.sems.all fun n => decide (0 ≤ n) && decide (n ≤ 1048576)) = true) ∧ (p.pipes.all fun n => decide (0 < n) && (decide (0 ≤ n) && decide (n ≤ 8))) = true) {op : Int} (h : ¬ op = 1) : (formOf p op).any = false ∧ (formOf p op).n ≤ 1000 := by
  unfold formOf
  rw [if_neg h]
  repeat' split
  all_goals exact ⟨rfl, by simp only; omega⟩
theorem sound_ok {p : Prg} (hc : capsI p = true) {i : Ins} (h : soundI p i = true) (hn : W64 i.n) : InsOk i ∧ (cls i.op ≠ 1 → i.n ≤ 1099511627776) ∧ (i.op = 35 ∨ i.op = 36 → i.n < (p.pipes.length : Int)) := by
  unfold capsI at hc
  simp only [Bool.and_eq_true, decide_eq_true_eq, within] at hc
  unfold soundI at h
  split at h
  · cases h
  · rename_i hcl
    simp only [Bool.and_eq_true] at h
    obtain ⟨⟨⟨h1, h2⟩, h3⟩, h4⟩ := h
    have hr : ∀ {n : Int} {b : Bool}, regOk n b = true → 0 ≤ n ∧ n < 8 := fun h => by
      simp [regOk] at h; omega
    refine ⟨⟨hr h1, hr h2, ?_, hn, fun hj => ?_⟩, fun hc1 => ?_, fun ho => ?_⟩
    · split at h3
      · simp at h3; omega
      · exact hr h3
    · unfold Form.below at h4
      rcases hj with hj | hj
      · rw [show formOf p i.op = ⟨0, false, 257, false⟩ from by unfold formOf; repeat (first | rw [if_pos (by omega)] | rw [if_neg (by omega)])] at h4
        simp at h4; omega
      · rw [show formOf p i.op = ⟨1, false, 257, false⟩ from by unfold formOf; repeat (first | rw [if_pos (by omega)] | rw [if_neg (by omega)])] at h4
        simp at h4; omega
    · have hn1 : ¬ i.op = 1 := fun e => hc1 (by unfold cls; rw [if_pos (by omega)])
      obtain ⟨g1, g2⟩ := form_n hc hn1
      unfold Form.below at h4
      rw [g1] at h4
      simp at h4
      split at h4
      · omega
      · have := (by simpa using h4 : _ ∧ _).2
        omega
    · unfold Form.below at h4
      rw [show formOf p i.op = ⟨1, false, p.pipes.length, false⟩ from by unfold formOf; repeat (first | rw [if_pos (by omega)] | rw [if_neg (by omega)])] at h4
      simp at h4
      exact h4.2
theorem Ok.spc (h : Ok k s [] []) (hk : k ≤ 1000000) (hr : s.recs.length ≤ 80000000) : SpcOk s := by
  have hcap : capsI s.prg = true := by
    have := h.chk.1; unfold checkI at this
    split at this
    · assumption
    · cases this
  have hall : ∀ f ∈ s.prg.funcs, ∀ i ∈ f, soundI s.prg i = true := by
    have := h.chk.1; unfold checkI at this
    rw [if_pos hcap] at this
    split at this
    · rename_i ha
      intro f hf i hi
      have := List.all_eq_true.1 (List.all_eq_true.1 ha f hf) i hi
      exact this
    · cases this
  have hc := hcap
  unfold capsI at hc
  simp only [Bool.and_eq_true, decide_eq_true_eq, within, List.all_eq_true] at hc
  obtain ⟨⟨⟨⟨⟨⟨⟨⟨⟨⟨⟨c1, c2⟩, c3⟩, c4⟩, c5⟩, c6⟩, c7⟩, c8⟩, c9⟩, c10⟩, c11⟩, c12⟩ := hc
  have hbal : ∀ w, cnt s w = blkS s w := fun w => by have := h.bal w; simpa using this
  have bG : ∀ w, cG s.gates w ≤ blkS s w := fun w => by have := hbal w; unfold cnt at this; omega
  have bU : ∀ w, cT s.tubes w ≤ blkS s w := fun w => by have := hbal w; unfold cnt at this; omega
  have bD : ∀ w, cD s.disk w ≤ blkS s w := fun w => by have := hbal w; unfold cnt at this; omega
  have bL : ∀ w, cL s.wheel w ≤ blkS s w := fun w => by have := hbal w; unfold cnt at this; omega
  have hm : ∀ x ∈ s.gates.mtx, x.wait.length ≤ 16 := fun x hx => len16 (f := fun y : Wtr => y.who) h.lt fun w => by
    have := sumN_ge (f := fun m : Mtx => cRow w m.wait) hx
    have := bG w
    have e : x.wait.countP (fun y => decide (y.who = w)) = cRow w x.wait := rfl
    unfold cG at this; omega
  have hcn : ∀ x ∈ s.gates.cnd, x.length ≤ 16 := fun x hx => len16 (f := fun y : Wtr => y.who) h.lt fun w => by
    have := sumN_ge (f := cRow w) hx
    have := bG w
    have e : x.countP (fun y => decide (y.who = w)) = cRow w x := rfl
    unfold cG at this; omega
  have hsm : ∀ x ∈ s.gates.sem, x.wait.length ≤ 16 := fun x hx => len16 (f := fun y : Wtr => y.who) h.lt fun w => by
    have := sumN_ge (f := fun m : Smp => cRow w m.wait) hx
    have := bG w
    have e : x.wait.countP (fun y => decide (y.who = w)) = cRow w x.wait := rfl
    unfold cG at this; omega
  have hug : ∀ u ∈ s.tubes, ∀ w, u.gets.count w ≤ blkS s w ∧ u.puts.countP (fun x => decide (x.who = w)) ≤ blkS s w := fun u hu w => by
    have h1 : cU w u ≤ cT s.tubes w := sumN_ge (f := cU w) hu
    have h2 := bU w
    unfold cU at h1; exact ⟨by omega, by omega⟩
  have hd16 : s.disk.wait.length ≤ 16 := len16 (f := fun r : Rqs => r.who) h.lt bD
  have hw16 : s.wheel.till.length ≤ 16 := len16 (f := fun r : Int × Int => r.1) h.lt bL
  refine ⟨h.lt, ⟨by rw [h.ll]; decide, fun o ho => ?_⟩, fun n t e => ⟨(h.th n t e).R, (h.th n t e).pc⟩, fun x m e => slot_live (d := ⟨s, 0, ⟨0, 0, 0, 0, 0⟩, 0, Eff.z, []⟩) h x m e, fun n e => ?_, fun n t ht hw hj => ?_, hr, by rw [h.me.1]; omega, ⟨by rw [h.gt.m]; omega, by rw [h.gt.c]; omega, by rw [h.gt.s]; omega, fun x hx => Nat.le_trans (hm x hx) (by decide), fun x hx => Nat.le_trans (hcn x hx) (by decide), fun x hx => Nat.le_trans (hsm x hx) (by decide)⟩, h.gt.sc, h.gt.cm, fun w hw => live_blk ?_, by rw [h.gt.m]; omega, ⟨fun x hx => Nat.le_trans (hm x hx) (by decide), fun x hx => Nat.le_trans (hcn x hx) (by decide)⟩, fun f hf i hi => ?_, ⟨by omega, fun f hf => c10 f hf⟩, fun u hu => ?_, fun u hu => ⟨fun w hw => live_blk ?_, fun x hx => live_blk ?_⟩, fun u hu => (h.tb.2 u hu).w, by omega, fun r hr => ?_, fun r hr => live_blk ?_, h.wl, by omega, fun x hx => live_blk ?_⟩
  · have := h.tk o ho; omega
  · obtain ⟨o, ho, hb⟩ : ∃ o, s.table[n]? = some o ∧ o.1 = false := by
      have hfr : ∀ (l : List (Bool × Int)) (i n : Nat), slotFree? l i = some n → i ≤ n ∧ ∃ o, l[n - i]? = some o ∧ o.1 = false := by
        intro l
        induction l with
        | nil => intro i n h; cases h
        | cons o l ih =>
          intro i n h
          unfold slotFree? at h
          split at h
          · obtain ⟨a, o', b, c⟩ := ih (i + 1) n h
            exact ⟨by omega, o', by rw [show n - i = (n - (i + 1)) + 1 from by omega]; simpa using b, c⟩
          · cases h; rename_i hb
            exact ⟨Nat.le_refl _, o, by simp, by simpa using hb⟩
      obtain ⟨-, o, ho, hb⟩ := hfr _ _ _ e
      exact ⟨o, by simpa using ho, hb⟩
    have hn : n < 16 := h.ll ▸ (List.getElem?_eq_some_iff.1 ho).1
    obtain ⟨x, hx⟩ := at_some (show n < s.thr.length by rw [h.lt]; exact hn)
    cases x with
    | none => exact hx
    | some t =>
      have := (h.us n hn).2 ⟨t, hx⟩
      rw [List.getD_eq_getElem?_getD, ho, show (Option.getD (some o) (false, (0 : Int))) = o from rfl, hb] at this
      cases this
  · have h1 : 1 ≤ cJ s.thr t.joiner := by
      have : jn t.joiner (some t) = 1 := by rw [jn_some]; exact if_pos ⟨rfl, hj⟩
      have h2 : jn t.joiner (some t) ≤ cJ s.thr t.joiner := sumN_ge (f := jn t.joiner) (List.mem_of_getElem? ht)
      omega
    have h2 := hbal t.joiner
    obtain ⟨u, hu, hu0, hu9⟩ := blk_pos (s := s) (w := t.joiner) (by unfold cnt at h2; omega)
    obtain ⟨h0, hat⟩ := of_at hu
    exact ⟨h0, fun e => by rw [e, ht] at hat; cases hat; exact hu0 hw, u, hat⟩
  · refine Nat.lt_of_lt_of_le ?_ (bG w)
    unfold cG
    rcases hw with ⟨x, hx, y, hy, rfl⟩ | ⟨x, hx, y, hy, rfl⟩ | ⟨x, hx, y, hy, rfl⟩
    · have h1 := sumN_ge (f := fun m : Mtx => cRow y.who m.wait) hx
      have h2 : 0 < cRow y.who x.wait := List.countP_pos_iff.2 ⟨y, hy, by simp [isW]⟩
      omega
    · have h1 := sumN_ge (f := cRow y.who) hx
      have h2 : 0 < cRow y.who x := List.countP_pos_iff.2 ⟨y, hy, by simp [isW]⟩
      omega
    · have h1 := sumN_ge (f := fun m : Smp => cRow y.who m.wait) hx
      have h2 : 0 < cRow y.who x.wait := List.countP_pos_iff.2 ⟨y, hy, by simp [isW]⟩
      omega
  · have := sound_ok hcap (hall f hf i hi) (h.chk.2 f hf i hi)
    rw [h.tb.1]; exact this
  · have h1 := h.tb.2 u hu
    exact ⟨Nat.le_trans h1.l (by decide), Nat.le_trans (len16 (f := fun x : Ptr => x.who) h.lt fun w => (hug u hu w).2) (by decide), Nat.le_trans (len16 (f := fun x : Int => x) h.lt fun w => by
      have := (hug u hu w).1
      have e : u.gets.countP (fun x => decide (x = w)) = u.gets.count w := by unfold List.count; congr 1
      omega) (by decide)⟩
  · exact Nat.lt_of_lt_of_le (List.count_pos_iff.2 hw) (hug u hu w).1
  · exact Nat.lt_of_lt_of_le (List.countP_pos_iff.2 ⟨x, hx, by simp⟩) (hug u hu x.who).2
  · have := h.dk.w r hr; exact ⟨this.1, this.2.1⟩
  · exact Nat.lt_of_lt_of_le (List.countP_pos_iff.2 ⟨r, hr, by simp⟩) (bD r.who)
  · exact Nat.lt_of_lt_of_le (List.countP_pos_iff.2 ⟨x, hx, by simp⟩) (bL x.1)
end
end Go.SLYtnceicnimongcaaGreat
namespace Go.SLYtnceicnimongcaaGreat
open Go Go.RowKit

section
variable {k : Nat} {s : Spc}
theorem GoI.start (h : Ok k s [] []) (hR : RecI s s.recs) {n : Nat} {i : Ins} {c : Int} : GoI k s (s.doing n i c) [] [] := ⟨h, fun w => by simp [Spc.doing, Eff.z], fun w hw => (by cases hw), by show RecI s (s.recs ++ []); rw [List.append_nil]; exact hR, List.prefix_refl _⟩
theorem fin_rd {d : Dng} (h : GoI k s d [] []) {n : Int} (hn : n = (d.n : Int)) : Ok k d.finish.2 [] [] ∧ (∀ w, rdy d.finish.2 w + (if (d.finish.1.stopped = true ∨ d.finish.1.ended = true) ∧ w = n then 1 else 0) = rdy s w + d.finish.1.woken.count w) ∧ (∀ w ∈ d.finish.1.woken, rdy s w = 0) ∧ RecI d.finish.2 d.finish.2.recs ∧ s.recs <+: d.finish.2.recs := by
  subst hn
  exact ⟨h.ok.recs _, h.rd, h.wk, h.rc.of rfl rfl, h.px.trans (List.prefix_append _ _)⟩
theorem goesAll_n (d : Dng) (a : List Int) : (d.goesAll a).n = d.n := by
  induction a generalizing d with
  | nil => rfl
  | cons x l ih => exact (ih _).trans rfl
theorem fin_n {d : Dng} {v : Int} : (d.fin v).n = d.n := by
  unfold Dng.fin
  split
  · rfl
  · split <;> rfl
theorem plain_n {d : Dng} : d.plain.n = d.n := by
  unfold Dng.plain
  split
  · simp only
    split
    · rfl
    · split <;> rfl
  · split
    · exact fin_n
    · exact fin_n
theorem given_n {d : Dng} {n : Int} {ok : Bool} : (d.given n ok).n = d.n := by unfold Dng.given; split <;> rfl
theorem ask_n {d : Dng} {b y i : Int} : (d.ask b y i).n = d.n := by
  unfold Dng.ask
  simp only
  repeat' split
  all_goals rfl
theorem call_n {d : Dng} : d.call.n = d.n := by
  unfold Dng.call
  simp only
  split
  · rfl
  split
  · rfl
  split
  · rfl
  split
  · unfold Dng.join; simp only; repeat' split
    all_goals rfl
  split
  · unfold Dng.detach; simp only; repeat' split
    all_goals rfl
  split
  · exact fin_n
  split
  · unfold Dng.mutex; simp only; repeat' split
    all_goals first | rfl | exact given_n
  split
  · exact goesAll_n _ _
  split
  · unfold Dng.sem; simp only; repeat' split
    all_goals first | rfl | exact given_n
  · unfold Dng.kernel
    split
    · exact ask_n
    split
    · exact ask_n
    split
    · unfold Dng.put; simp only; repeat' split
      all_goals rfl
    split
    · unfold Dng.get; simp only; repeat' split
      all_goals rfl
    split
    · unfold Dng.sleep; simp only; repeat' split
      all_goals rfl
    · rfl
theorem next_lt {s : Spc} (hO : SpcOk s) {f : Frm} {i : Ins} (e : nextI s.prg f = some i) : f.pc ≤ 256 := by
  unfold nextI at e
  split at e
  · cases e
  · have hlt := (List.getElem?_eq_some_iff.1 e).1
    cases hf : s.prg.funcs[f.fn.toNat]? with
    | none => rw [List.getD_eq_getElem?_getD, hf] at hlt; exact absurd hlt (Nat.not_lt_zero _)
    | some g =>
      rw [List.getD_eq_getElem?_getD, hf] at hlt
      have h1 : f.pc.toNat < g.length := hlt
      have h2 := hO.codel.2 g (List.mem_of_getElem? hf)
      omega
theorem Ok.run (h : Ok k s [] []) (hR : RecI s s.recs) (hk : k ≤ 1000000) (hr : s.recs.length ≤ 80000000) {n c : Int} :
    Ok (k + 1) (s.run n c).2.2 [] [] ∧ (∀ w, rdy (s.run n c).2.2 w + (if ((s.run n c).1.stopped = true ∨ (s.run n c).1.ended = true) ∧ w = n then 1 else 0) = rdy s w + (s.run n c).1.woken.count w) ∧
    ((s.run n c).2.1 ≠ 0 → (s.run n c).2.2 = s ∧ (s.run n c).1 = Eff.z) ∧ (s.run n c).2.2.recs.length ≤ s.recs.length + 400002 ∧ ((s.run n c).2.1 = 0 ↔ rdy s n = 1) ∧ (∀ w ∈ (s.run n c).1.woken, rdy s w = 0) ∧ RecI (s.run n c).2.2 (s.run n c).2.2.recs ∧ s.recs <+: (s.run n c).2.2.recs := by
  have hO := h.spc hk hr
  have hup : Ok (k + 1) s [] [] := h.more (Nat.le_succ _)
  cases hat : s.at n with
  | none =>
    rw [run_none hat]
    refine ⟨hup, fun w => by simp [Eff.z], fun _ => ⟨rfl, rfl⟩, by simp only; omega, ?_, fun w hw => (by cases hw), hR, List.prefix_refl _⟩
    simp only
    unfold rdy; rw [hat]; simp [rO]
  | some t =>
    by_cases hw : t.why ≠ 0
    · rw [run_wait hat hw]
      refine ⟨hup, fun w => by simp [Eff.z], fun _ => ⟨rfl, rfl⟩, by simp only; omega, ?_, fun w hw => (by cases hw), hR, List.prefix_refl _⟩
      simp only
      unfold rdy; rw [hat, rO_some, if_neg hw]; simp
    · have hw0 : t.why = 0 := Decidable.not_not.mp hw
      obtain ⟨h0, ht⟩ := of_at hat
      obtain ⟨m, rfl⟩ : ∃ m : Nat, n = (m : Int) := ⟨n.toNat, by omega⟩
      rw [Int.toNat_natCast] at ht
      have hrd : rdy s (m : Int) = 1 := by unfold rdy; rw [hat, rO_some, if_pos hw0]
      have fin : ∀ {z : Dng} {a b : Nat}, GoI (k + 1) s z [] [] → z.n = m → Grew (s.doing m ⟨0, 0, 0, 0, 0⟩ c) z a b → a ≤ 1 → b ≤ 400001 → s.run (m : Int) c = (z.finish.1, 0, z.finish.2) →
          Ok (k + 1) (s.run (m : Int) c).2.2 [] [] ∧ (∀ w, rdy (s.run (m : Int) c).2.2 w + (if ((s.run (m : Int) c).1.stopped = true ∨ (s.run (m : Int) c).1.ended = true) ∧ w = (m : Int) then 1 else 0) = rdy s w + (s.run (m : Int) c).1.woken.count w) ∧
          ((s.run (m : Int) c).2.1 ≠ 0 → (s.run (m : Int) c).2.2 = s ∧ (s.run (m : Int) c).1 = Eff.z) ∧ (s.run (m : Int) c).2.2.recs.length ≤ s.recs.length + 400002 ∧ ((s.run (m : Int) c).2.1 = 0 ↔ rdy s (m : Int) = 1) ∧ (∀ w ∈ (s.run (m : Int) c).1.woken, rdy s w = 0) ∧ RecI (s.run (m : Int) c).2.2 (s.run (m : Int) c).2.2.recs ∧ s.recs <+: (s.run (m : Int) c).2.2.recs := fun {z a b} hz hzn hg ha hb e => by
        rw [e]
        obtain ⟨g1, g2, g3, g4, g5⟩ := fin_rd hz (n := (m : Int)) (by rw [hzn])
        refine ⟨g1, g2, fun hne => absurd rfl hne, ?_, ⟨fun _ => hrd, fun _ => rfl⟩, g3, g4, g5⟩
        show (z.s.recs ++ z.ends).length ≤ _
        rw [List.length_append]
        have h1 : z.s.recs.length ≤ s.recs.length + a := hg.1
        have h2 : z.ends.length ≤ 0 + b := hg.2
        omega
      cases hn : nextI s.prg t.frm with
      | none =>
        have h1 : GoI k s (((s.doing m ⟨23, 0, 0, 0, 0⟩ c).tell 0 0 0 true).fin 0) [] [] := GoI.fin (GoI.tell (GoI.start h hR) ht hw0 rfl) ht hw0 rfl rfl w0W
        exact fin (h1.more (Nat.le_succ _)) fin_n (grew_of (grew_tell.trans grew_fin) rfl rfl) (by decide) (by decide) (run_end hat hw hn rfl)
      | some i =>
        obtain ⟨hI, hIn, hIt⟩ := next_code hO hn
        have hpc := next_lt hO hn
        have hpc : t.pc ≤ 256 := hpc
        by_cases hc : cls i.op = 1
        · have S : St k s (s.doing m i c) t := ⟨GoI.start h hR, ht, hw0, rfl, rfl, hI, rfl⟩
          exact fin ((S.plain hpc).more (Nat.le_succ _)) plain_n (grew_of grew_plain rfl rfl) (by decide) (by decide) (run_plain hat hw hn hc rfl)
        · have ho := h.th m t ht
          have h1 : GoI k s ((s.doing m i c).setT { t with pc := t.pc + 1 }) [] [] := GoI.own (GoI.start h hR) ht (t' := { t with pc := t.pc + 1 }) ⟨ho.R.l, ho.R.r, ho.R.i, ho.R.v, ho.R.h⟩ (by have := ho.pc; show 0 ≤ t.pc + 1 ∧ t.pc + 1 ≤ 257; omega) rfl rfl rfl rfl rfl
          have S : St k s ((s.doing m i c).setT { t with pc := t.pc + 1 }) { t with pc := t.pc + 1 } := ⟨h1, setT_same ht, hw0, rfl, rfl, hI, rfl⟩
          exact fin (S.call hk hIt) call_n (grew_of (grew_call hO.gsm.2) rfl rfl) (by decide) (by decide) (run_call hat hw hn hc rfl)
/-! a request is done -/
theorem done_c {d : Dsk} (h : DkOk d) {c : Int} (hd : (d.done c).2.2.1 = true) : DkOk (d.done c).2.2.2 ∧ W64 (d.done c).2.1 ∧ ∀ w, cD (d.done c).2.2.2 w + b2 ((d.done c).1.who = w) = cD d w := by
  by_cases h0 : d.wait.length = 0
  · rw [done_none h0] at hd; cases hd
  · have hp := pick_lt (t := c) (n := d.wait.length) (by omega)
    have hx : d.wait[pick c d.wait.length]? = some (d.wait.getD (pick c d.wait.length) rqsZ) := getD_some hp
    have hm := List.mem_of_getElem? hx
    generalize hr : d.wait.getD (pick c d.wait.length) rqsZ = r at hx hm
    have hrw := h.w r hm
    have hcn : ∀ w, (d.wait.eraseIdx (pick c d.wait.length)).countP (fun r => decide (r.who = w)) + b2 (r.who = w) = d.wait.countP (fun r => decide (r.who = w)) := fun w => by
      have := countP_erase (P := fun r : Rqs => decide (r.who = w)) hx
      unfold b2; simpa using this
    cases hw : r.write with
    | true =>
      rw [done_write h0 hr hw]
      refine ⟨⟨by simp only [List.length_set]; exact h.l, fun x hx => ?_, fun y hy => ?_⟩, w0W, fun w => hcn w⟩
      · rcases List.mem_or_eq_of_mem_set hx with hx | rfl
        · exact h.b x hx
        · exact hrw.2.2
      · simp only [List.length_set]; exact h.w y (List.mem_of_mem_eraseIdx hy)
    | false =>
      rw [done_read h0 hr hw]
      exact ⟨⟨h.l, h.b, fun y hy => h.w y (List.mem_of_mem_eraseIdx hy)⟩, getD_W h.b (by omega), fun w => hcn w⟩
theorem Ok.doneS (h : Ok k s [] []) (hR : RecI s s.recs) {c : Int} :
    Ok k (s.done c).2.2 [] [] ∧ (∀ w, rdy (s.done c).2.2 w + (if ((s.done c).1.stopped = true ∨ (s.done c).1.ended = true) then 1 else 0) = rdy s w + (s.done c).1.woken.count w) ∧
    ((s.done c).2.1 ≠ 0 → (s.done c).2.2 = s ∧ (s.done c).1 = Eff.z) ∧ (s.done c).2.2.recs.length ≤ s.recs.length + 1 ∧ (s.done c).1.stopped = false ∧ (s.done c).1.ended = false ∧ RecI (s.done c).2.2 (s.done c).2.2.recs ∧ s.recs <+: (s.done c).2.2.recs := by
  cases hd : (s.disk.done c).2.2.1 with
  | false =>
    rw [spc_done_no hd]
    exact ⟨h, fun w => by simp [Eff.z], fun _ => ⟨rfl, rfl⟩, by simp, rfl, rfl, hR, List.prefix_refl _⟩
  | true =>
    obtain ⟨g1, g2, g3⟩ := done_c h.dk hd
    have h1 : Ok k { s with disk := (s.disk.done c).2.2.2 } [(s.disk.done c).1.who] [] := h.disk g1 (fun w => by rw [cnt1]; have := g3 w; simp; omega)
    have hb := h1.bal (s.disk.done c).1.who
    obtain ⟨u, hu, hu0, hu9⟩ := blk_pos (s := { s with disk := (s.disk.done c).2.2.2 }) (w := (s.disk.done c).1.who) (by simp at hb; omega)
    obtain ⟨h0, hat⟩ := of_at hu
    rw [spc_done_ok hd hat]
    have h2 := h1.wake hu hu0 hu9 g2
    refine ⟨(h2.bal' (p' := []) (q' := []) (fun w => by simp)).recs _, fun w => ?_, fun hne => absurd rfl hne, by simp [Spc.tell, Spc.wake, Spc.setT], rfl, rfl, ?_, List.prefix_append _ _⟩
    rotate_left
    · have hR1 : RecI { s with disk := (s.disk.done c).2.2.2 } s.recs := hR.of rfl rfl
      exact (hR1.wake h1 hu hu0 hu9 (y := (s.disk.done c).2.1)).of rfl rfl
    show rdy (({ s with disk := (s.disk.done c).2.2.2 } : Spc).wake (s.disk.done c).1.who.toNat (s.disk.done c).2.1) w + (if (false = true ∨ false = true) then 1 else 0) = rdy s w + [(s.disk.done c).1.who].count w
    simp only [Bool.false_eq_true, or_self, if_false, Nat.add_zero]
    rw [rdy_wake hu, cnt1]
    have hs : ∀ w, rdy { s with disk := (s.disk.done c).2.2.2 } w = rdy s w := fun w => rfl
    by_cases e : w = (s.disk.done c).1.who
    · have : rdy s w = 0 := by rw [← hs, e]; unfold rdy; rw [hu, rO_some]; exact if_neg hu0
      rw [if_pos e, b2_yes e.symm]; omega
    · rw [if_neg e, b2_no (fun h => e h.symm), hs]; rfl
/-! a moment -/
theorem sortI_count (l : List Int) (w : Int) : (sortI l).count w = l.count w := by
  have hi : ∀ (a : Int) (m : List Int), (insSorted a m).count w = m.count w + b2 (a = w) := by
    intro a m
    induction m with
    | nil => rw [show insSorted a [] = [a] from rfl, cnt1]; simp
    | cons b m ih =>
      unfold insSorted
      split
      · rw [cons_count]
      · rw [cons_count, ih, cons_count]; omega
  induction l with
  | nil => rfl
  | cons a l ih => show (insSorted a (sortI l)).count w = _; rw [hi, ih, cons_count]
theorem del_count (l : List (Int × Int)) (n w : Int) : (mapDel l n).countP (fun x => decide (x.1 = w)) = if w = n then 0 else l.countP (fun x => decide (x.1 = w)) := by
  unfold mapDel
  rw [List.countP_filter]
  by_cases e : w = n
  · rw [if_pos e, List.countP_eq_zero]
    intro x hx
    simp [e]
  · rw [if_neg e]
    apply List.countP_congr
    intro x hx
    simp only [Bool.and_eq_true, decide_eq_true_eq, Bool.not_eq_true', decide_eq_false_iff_not]
    exact ⟨fun h => h.1, fun h => ⟨h, fun h2 => e (h.symm.trans h2)⟩⟩
theorem dels_count : ∀ (a : List Int) (l : List (Int × Int)) (w : Int), (a.foldl mapDel l).countP (fun x => decide (x.1 = w)) = if w ∈ a then 0 else l.countP (fun x => decide (x.1 = w))
  | [], _, _ => by simp
  | n :: a, l, w => by
    rw [List.foldl_cons, dels_count a, del_count]
    by_cases h : w ∈ a
    · rw [if_pos h, if_pos (List.mem_cons_of_mem _ h)]
    · rw [if_neg h]
      by_cases e : w = n
      · rw [if_pos e, if_pos (by rw [e]; exact List.mem_cons_self)]
      · rw [if_neg e, if_neg (by simp [e, h])]
theorem tick_c {u : Whl} (h : 0 ≤ u.now ∧ u.now ≤ 1099511627776) (hb : ∀ w, cL u w ≤ 1) : (0 ≤ u.tick.2.now ∧ u.tick.2.now ≤ 1099511627776) ∧ ∀ w, cL u.tick.2 w + u.due.count w = cL u w := by
  refine ⟨by show 0 ≤ min (u.now + 1) 1099511627776 ∧ min (u.now + 1) 1099511627776 ≤ _; omega, fun w => ?_⟩
  have h1 : cL u.tick.2 w = if w ∈ u.due then 0 else cL u w := dels_count u.due u.till w
  have h2 : u.due.count w = (u.till.filter fun p => decide (p.2 ≤ min (u.now + 1) 1099511627776)).countP (fun x => decide (x.1 = w)) := by
    unfold Whl.due; rw [sortI_count]; unfold List.count; rw [List.countP_map]; congr 1
  have h3 : (u.till.filter fun p => decide (p.2 ≤ min (u.now + 1) 1099511627776)).countP (fun x => decide (x.1 = w)) ≤ cL u w := List.Sublist.countP_le List.filter_sublist
  rw [h1]
  by_cases hm : w ∈ u.due
  · have := List.count_pos_iff.2 hm
    have := hb w
    rw [if_pos hm]; omega
  · have := List.count_eq_zero.2 hm
    rw [if_neg hm]; omega
theorem Ok.wakeAll : ∀ (l : List Int) (s : Spc), Ok k s l [] → RecI s s.recs → Ok k (wakeAll s l) [] [] ∧ (∀ w, rdy (wakeAll s l) w = rdy s w + l.count w) ∧ RecI (wakeAll s l) (wakeAll s l).recs ∧ s.recs <+: (wakeAll s l).recs
  | [], _, h, hR => ⟨h, fun w => rfl, hR, List.prefix_refl _⟩
  | n :: l, s, h, hR => by
    have hb := h.bal n
    rw [cons_count, b2_yes rfl] at hb
    obtain ⟨u, hu, hu0, hu9⟩ := blk_pos (s := s) (w := n) (by simp at hb; omega)
    have h1 := h.wake hu hu0 hu9 (y := 0) w0W
    have h2 : Ok k ((s.wake n.toNat 0).tell ((s.t n.toNat).woke 0)) l [] := (h1.bal' (fun w => by rw [cons_count, cons_count]; simp)).recs _
    have hR2 : RecI ((s.wake n.toNat 0).tell ((s.t n.toNat).woke 0)) ((s.wake n.toNat 0).tell ((s.t n.toNat).woke 0)).recs := by
      show RecI ((s.wake n.toNat 0).tell ((s.t n.toNat).woke 0)) (s.recs ++ [(s.t n.toNat).woke 0])
      rw [spc_t (of_at hu).2]
      exact (hR.wake h hu hu0 hu9 (y := 0)).of rfl rfl
    obtain ⟨h3, h4, h6, h7⟩ := Ok.wakeAll l _ h2 hR2
    refine ⟨h3, fun w => (h4 w).trans ?_, h6, List.IsPrefix.trans (List.prefix_append _ _) h7⟩
    have h5 : rdy ((s.wake n.toNat 0).tell ((s.t n.toNat).woke 0)) w = rdy (s.wake n.toNat 0) w := rfl
    rw [h5, rdy_wake hu, cons_count]
    by_cases e : w = n
    · have : rdy s w = 0 := by rw [e]; unfold rdy; rw [hu, rO_some]; exact if_neg hu0
      rw [if_pos e, b2_yes e.symm]; omega
    · rw [if_neg e, b2_no (fun h => e h.symm)]; omega
theorem Ok.tickS (h : Ok k s [] []) (hR : RecI s s.recs) :
    Ok k s.tick.2 [] [] ∧ (∀ w, rdy s.tick.2 w = rdy s w + s.tick.1.woken.count w) ∧ s.tick.2.recs.length ≤ s.recs.length + 16 ∧ s.tick.1.stopped = false ∧ s.tick.1.ended = false ∧ RecI s.tick.2 s.tick.2.recs ∧ s.recs <+: s.tick.2.recs := by
  have hbal : ∀ w, cnt s w = blkS s w := fun w => by have := h.bal w; simpa using this
  have bL : ∀ w, cL s.wheel w ≤ blkS s w := fun w => by have := hbal w; unfold cnt at this; omega
  obtain ⟨g1, g2⟩ := tick_c h.wl (fun w => Nat.le_trans (bL w) blk_le)
  have h1 : Ok k { s with wheel := s.wheel.tick.2 } s.wheel.due [] := h.wheel g1 (fun w => by have := g2 w; simp; omega)
  obtain ⟨h2, h3, h4, h5⟩ := Ok.wakeAll s.wheel.due _ h1 (hR.of rfl rfl)
  refine ⟨h2, fun w => (h3 w).trans rfl, ?_, rfl, rfl, h4, h5⟩
  show (Go.SLYtnceicnimongcaaGreat.wakeAll _ s.wheel.due).recs.length ≤ _
  rw [wakeAll_recs]
  have := due_len2 s.wheel
  have : s.wheel.till.length ≤ 16 := len16 (f := fun r : Int × Int => r.1) h.lt bL
  show s.recs.length + _ ≤ _
  omega
end
end Go.SLYtnceicnimongcaaGreat
namespace Go.SLYtnceicnimongcaaGreat
open Go Go.RowKit

theorem sumN_rep {α : Type} {f : α → Nat} {n : Nat} {x : α} (h : f x = 0) : sumN f (List.replicate n x) = 0 := sumN_zero (fun y hy => by rw [(List.mem_replicate.1 hy).2]; exact h)
theorem Ok.new {p : Prg} (h : PrgOk p) : Ok 1 (Spc.new p) [] [] := by
  have hcap : capsI p = true := by
    have := h.1; unfold checkI at this
    split at this
    · assumption
    · cases this
  have hc := hcap
  unfold capsI at hc
  simp only [Bool.and_eq_true, decide_eq_true_eq, within, List.all_eq_true] at hc
  obtain ⟨⟨⟨⟨⟨⟨⟨⟨⟨⟨⟨c1, c2⟩, c3⟩, c4⟩, c5⟩, c6⟩, c7⟩, c8⟩, c9⟩, c10⟩, c11⟩, c12⟩ := hc
  have cl : ∀ {n : Int}, 0 ≤ n → n ≤ 4 → clamp n 4 = n := fun a b => by unfold clamp; omega
  have h0 : Ok 0 ⟨p, List.replicate 16 (false, 0), List.replicate 16 none, List.replicate p.words.toNat 0, Gates.new p.mutexes p.conds p.sems, p.pipes.map Tub.new, Dsk.new p.blocks, Whl.new, []⟩ [] [] := by
    refine ⟨h, by simp, by simp, fun o ho => ?_, fun n hn => ?_, fun n t ht => ?_, ⟨by simp, fun x hx => ?_⟩, ⟨?_, ?_, ?_, fun x hx => ?_, fun r hr w hw => ?_⟩, ⟨by simp, fun u hu => ?_⟩, ⟨?_, fun x hx => ?_, fun r hr => ?_⟩, (by show (0 : Int) ≤ 0 ∧ (0 : Int) ≤ 1099511627776; decide), fun w => ?_⟩
    · rw [(List.mem_replicate.1 ho).2]; decide
    · rw [List.getD_eq_getElem?_getD, List.getElem?_replicate, List.getElem?_replicate, if_pos hn, if_pos hn]
      exact ⟨fun h => (by cases h), fun ⟨t, h⟩ => (by cases h)⟩
    · have ht : (List.replicate 16 (none : Option Thr))[n]? = some (some t) := ht
      rw [List.getElem?_replicate] at ht
      split at ht <;> cases ht
    · rw [(List.mem_replicate.1 hx).2]; exact w0W
    · show (List.replicate (clamp p.mutexes 4).toNat _).length = _; rw [List.length_replicate, cl (by omega) (by omega)]
    · show (List.replicate (clamp p.conds 4).toNat _).length = _; rw [List.length_replicate, cl (by omega) (by omega)]
    · show ((p.sems.take 4).map _).length = p.sems.length; rw [List.length_map, List.length_take]; omega
    · obtain ⟨n, hn, rfl⟩ := List.mem_map.1 (show x ∈ (p.sems.take 4).map fun n => (⟨[], clamp n 1048576⟩ : Smp) from hx)
      show 0 ≤ clamp n 1048576 ∧ clamp n 1048576 ≤ 1048576; unfold clamp; omega
    · have hr : r ∈ List.replicate (clamp p.conds 4).toNat ([] : List Wtr) := hr
      rw [(List.mem_replicate.1 hr).2] at hw; cases hw
    · obtain ⟨n, hn, rfl⟩ := List.mem_map.1 (show u ∈ p.pipes.map Tub.new from hu)
      exact ⟨by show min (max n 1) 8 ≤ 8; omega, by show 0 ≤ 8; decide, fun x hx => (by cases hx), fun x hx => (by cases hx)⟩
    · show (List.replicate (clamp p.blocks 64).toNat _).length ≤ 64; rw [List.length_replicate]; unfold clamp; omega
    · have hx : x ∈ List.replicate (clamp p.blocks 64).toNat (0 : Int) := hx
      rw [(List.mem_replicate.1 hx).2]; exact w0W
    · cases hr
    · have e1 : cG (Gates.new p.mutexes p.conds p.sems) w = 0 := by
        unfold cG Gates.new
        simp only
        rw [sumN_rep (f := fun m : Mtx => cRow w m.wait) rfl, sumN_rep (f := cRow w) rfl, sumN_zero (fun x hx => by
          obtain ⟨n, hn, rfl⟩ := List.mem_map.1 hx; rfl)]
      have e2 : cT (p.pipes.map Tub.new) w = 0 := sumN_zero (fun x hx => by obtain ⟨n, hn, rfl⟩ := List.mem_map.1 hx; rfl)
      have e3 : cJ (List.replicate 16 none) w = 0 := sumN_rep rfl
      unfold cnt blkS
      simp only [e1, e2, e3]
      have e4 : ∀ (s : Spc), s.thr = List.replicate 16 none → s.at w = none := fun s hs => by
        unfold Spc.at geti
        split
        · rfl
        · rw [hs, List.getElem?_replicate]; split <;> rfl
      rw [e4 _ rfl]
      rfl
  exact Ok.begin h0 (by decide) w0W
theorem RecI.new {p : Prg} : RecI (Spc.new p) (Spc.new p).recs := by
  have e : (Spc.new p).recs = [] := by unfold Spc.new; rw [begin_recs]
  rw [e]
  refine ⟨Pairs.nil, fun n t ht => ?_, fun r hr => by cases hr⟩
  have hb : ∀ (n : Nat) (t : Thr), (Spc.new p).thr[n]? = some (some t) → bT t = 0 := fun n t ht => by
    unfold Spc.new at ht
    rw [begin_ok (n := 0) rfl] at ht
    have ht : ((List.replicate 16 (none : Option Thr)).set 0 _)[n]? = some (some t) := ht
    by_cases e : 0 = n
    · subst e; rw [List.getElem?_set_self (by simp)] at ht; cases ht; rfl
    · rw [List.getElem?_set_ne e, List.getElem?_replicate] at ht
      split at ht <;> cases ht
  rw [hb n t ht]; rfl
end Go.SLYtnceicnimongcaaGreat
namespace Go.SLYtnceicnimongcaaGreat
open Go Go.RowKit

def Okr (k : Nat) (s : Spc) : Prop := Ok k s [] [] ∧ s.recs.length ≤ 400002 * k ∧ RecI s s.recs
theorem Okr.rec {k : Nat} {s : Spc} (h : Okr k s) (hk : k ≤ 190) : s.recs.length ≤ 80000000 := by have := h.2.1; omega
theorem Okr.spc {k : Nat} {s : Spc} (h : Okr k s) (hk : k ≤ 190) : SpcOk s := h.1.spc (by omega) (h.rec hk)
theorem Okr.run {k : Nat} {s : Spc} (h : Okr k s) (hk : k ≤ 190) (n c : Int) : Okr (k + 1) (s.run n c).2.2 := by
  obtain ⟨a, -, -, b, -, -, r, -⟩ := h.1.run h.2.2 (n := n) (c := c) (by omega) (h.rec hk)
  have := h.2.1
  exact ⟨a, by omega, r⟩
theorem Okr.done {k : Nat} {s : Spc} (h : Okr k s) (c : Int) : Okr (k + 1) (s.done c).2.2 := by
  obtain ⟨a, -, -, b, -, -, r, -⟩ := h.1.doneS h.2.2 (c := c)
  have := h.2.1
  exact ⟨a.more (Nat.le_succ _), by omega, r⟩
theorem Okr.tick {k : Nat} {s : Spc} (h : Okr k s) : Okr (k + 1) s.tick.2 := by
  obtain ⟨a, -, b, -, -, r, -⟩ := h.1.tickS h.2.2
  have := h.2.1
  exact ⟨a.more (Nat.le_succ _), by omega, r⟩
theorem Okr.new {p : Prg} (h : PrgOk p) : Okr 1 (Spc.new p) := ⟨Ok.new h, by
  have : (Spc.new p).recs = [] := by unfold Spc.new; rw [begin_recs]
  rw [this]; simp, RecI.new⟩

/-! the laws' own fact -/
def I10a : List Ins := [⟨20, 1, 0, 0, 1⟩, ⟨21, 2, 1, 0, 0⟩, ⟨38, 2, 0, 0, 0⟩]
def I10b : List Ins := [⟨1, 3, 0, 0, 9⟩, ⟨23, 3, 0, 0, 0⟩]
def P10 : Prg := ⟨[I10a, I10b], 4, 1, 1, [0], [1], 2, 0⟩
def sl3 (b n : Nat) : Value := .slice (some ⟨b, 0, none⟩) n n
def pv10 (x y z1 z2 z3 : Nat) : PrgV := ⟨sl3 z1 2, [(sl3 x 3, I10a), (sl3 y 2, I10b)], 4, 1, 1, sl3 z2 1, [0], sl3 z3 1, [1], 2, 0⟩
def A10 (x y z1 z2 z3 : Nat) : HProp := seps [arr z1 0 [sl3 x 3, sl3 y 2], arr z2 0 [.int .i64 0], arr z3 0 [.int .i64 1], arr x 0 (rows insE I10a), arr y 0 (rows insE I10b)]
def s10a : Spc := Spc.new P10
def s10b : Spc := (s10a.run 0 0).2.2
def s10c : Spc := (s10b.run 0 0).2.2
def s10d : Spc := (s10c.run 1 0).2.2
def s10e : Spc := (s10d.run 1 0).2.2
def R10 : List Rec := [⟨65537, 20, 1, 65538, 0, true⟩, ⟨65537, 21, 65538, 0, 0, false⟩, ⟨65538, 23, 9, 0, 0, true⟩, ⟨65537, 21, 0, 9, 0, true⟩]
def thr10 : Thr := ⟨0, 2, [0, 65538, 9, 0, 0, 0, 0, 0], 65537, 0, 0, false, -1, 21, -1⟩
deriving instance DecidableEq for Thr
end Go.SLYtnceicnimongcaaGreat
namespace Go.SLYtnceicnimongcaaGreat
open Go Go.RowKit

theorem run_eq_struct2 {P : Program} {t : TypeId} {fs : Array Field} (hu : P.underlying t = some (.struct fs)) (hs : P.stoodInHeld t = false) (d : Nat) (xs ys : Array Value) (w : World) :
    (Op.equalIn (d + 1) t (.agg xs) (.agg ys)).run P w = (Op.eqFields d xs ys fs.toList).run P w := by
  have e : P.fieldsOf t = fs := by unfold Program.fieldsOf; rw [hu]
  have := run_equalIn_struct (P := P) (w := w) d t xs ys (by rw [e]; exact hu) hs
  rwa [e] at this
structure Wha where
  what : Int
  slot : Int
  choice : Int
def whaE (x : Wha) : List Value := [.int .i64 x.what, .int .i64 x.slot, .int .i64 x.choice]
def stp (s : Spc) (a : Wha) : Spc := if a.what = 0 then (s.run a.slot a.choice).2.2 else if a.what = 1 then (s.done a.choice).2.2 else s.tick.2
theorem Okr.more {k : Nat} {s : Spc} (h : Okr k s) {k' : Nat} (hk : k ≤ k') : Okr k' s := ⟨h.1.more hk, by have := h.2.1; omega, h.2.2⟩
theorem Okr.same {k : Nat} {s : Spc} (h : Okr k s) (hk : k ≤ 190) {n c : Int} (he : (s.run n c).2.1 ≠ 0) : (s.run n c).2.2 = s ∧ (s.run n c).1 = Eff.z := (h.1.run h.2.2 (by omega) (h.rec hk)).2.2.1 he
theorem Okr.lt {k : Nat} {s : Spc} (h : Okr k s) : s.thr.length = 16 := h.1.lt
theorem readyFrom_count : ∀ (l : List (Option Thr)) (k : Nat) (w : Int), (readyFrom l k).count w = if w < (k : Int) then 0 else rO ((l[w.toNat - k]?).getD none)
  | [], k, w => by
    show ([] : List Int).count w = _
    rw [List.count_nil]; split
    · rfl
    · rfl
  | o :: l, k, w => by
    have ih := readyFrom_count l (k + 1) w
    have key : ∀ (n : Nat), (readyFrom l (k + 1)).count w + n = (if w < (k : Int) then 0 else rO (((o :: l)[w.toNat - k]?).getD none)) ↔ (if w < ((k + 1 : Nat) : Int) then 0 else rO ((l[w.toNat - (k + 1)]?).getD none)) + n = (if w < (k : Int) then 0 else rO (((o :: l)[w.toNat - k]?).getD none)) := fun n => by rw [ih]
    have step : (if w < (k : Int) then 0 else rO (((o :: l)[w.toNat - k]?).getD none)) = (if w < ((k + 1 : Nat) : Int) then 0 else rO ((l[w.toNat - (k + 1)]?).getD none)) + if w = (k : Int) then rO o else 0 := by
      by_cases h1 : w < (k : Int)
      · rw [if_pos h1, if_pos (by omega), if_neg (by omega)]
      · by_cases h2 : w = (k : Int)
        · subst h2
          rw [if_neg (by omega), if_pos (by omega), if_pos rfl, show ((k : Int)).toNat - k = 0 from by omega]
          show rO o = 0 + rO o
          omega
        · rw [if_neg h1, if_neg (by omega), if_neg h2, show w.toNat - k = (w.toNat - (k + 1)) + 1 from by omega]
          rfl
    cases o with
    | none =>
      show (readyFrom l (k + 1)).count w = _
      rw [ih, step]; split <;> simp [rO]
    | some t =>
      unfold readyFrom
      by_cases ht : t.why = 0
      · rw [if_pos ht, cons_count, ih, step, rO_some, if_pos ht]
        by_cases h2 : w = (k : Int)
        · rw [if_pos h2, b2_yes h2.symm]
        · rw [if_neg h2, b2_no (fun h => h2 h.symm)]
      · rw [if_neg ht, ih, step, rO_some, if_neg ht]; split <;> simp
theorem readyFrom_len : ∀ (l : List (Option Thr)) (k : Nat), (readyFrom l k).length ≤ l.length
  | [], _ => Nat.le_refl _
  | none :: l, k => Nat.le_trans (readyFrom_len l (k + 1)) (Nat.le_succ _)
  | some t :: l, k => by
    have := readyFrom_len l (k + 1)
    unfold readyFrom; split <;> simp only [List.length_cons] <;> omega
theorem ready_leB {s : Spc} (h : s.thr.length = 16) : s.ready.length ≤ 1000000000 := Nat.le_trans (readyFrom_len _ _) (by rw [h]; decide)
theorem ready_count (s : Spc) (w : Int) : s.ready.count w = rdy s w := by
  unfold Spc.ready
  rw [readyFrom_count]
  unfold rdy Spc.at geti
  by_cases h : w < 0
  · rw [if_pos (by omega), if_pos h]; rfl
  · rw [if_neg (by omega), if_neg h, Nat.sub_zero]
theorem mem_ready {s : Spc} {w : Int} : w ∈ s.ready ↔ rdy s w = 1 := by
  rw [← List.count_pos_iff, ready_count]
  have : rdy s w ≤ 1 := by
    unfold rdy rO
    split
    · omega
    · split <;> omega
  omega
theorem not_ready {s : Spc} {w : Int} : w ∉ s.ready ↔ rdy s w = 0 := by
  have h := mem_ready (s := s) (w := w)
  have : rdy s w ≤ 1 := by
    unfold rdy rO
    split
    · omega
    · split <;> omega
  by_cases hm : w ∈ s.ready
  · have := h.1 hm; exact ⟨fun h2 => absurd hm h2, fun h2 => by omega⟩
  · have : ¬ rdy s w = 1 := fun h2 => hm (h.2 h2)
    exact ⟨fun _ => by omega, fun _ => hm⟩
theorem len_of_count {a b : List Int} (h : ∀ w, a.count w = b.count w) : a.length = b.length := (List.perm_iff_count.2 h).length_eq

structure Woke (s s' : Spc) (e : Eff) (n : Int) : Prop where
  a : ∀ w ∈ e.woken, w ∉ s.ready ∧ w ∈ s'.ready
  g : (e.stopped || e.ended) = true → n ∉ s'.ready
  l : s'.ready.length + (if (e.stopped || e.ended) = true then 1 else 0) = s.ready.length + e.woken.length
theorem woke_of {s s' : Spc} {e : Eff} {n : Int} (hr : ∀ w, rdy s' w + (if (e.stopped = true ∨ e.ended = true) ∧ w = n then 1 else 0) = rdy s w + e.woken.count w) (hw : ∀ w ∈ e.woken, rdy s w = 0) (hn : (e.stopped = true ∨ e.ended = true) → rdy s n = 1) : Woke s s' e n := by
  have le1 : ∀ (s : Spc) w, rdy s w ≤ 1 := fun s w => by
    unfold rdy rO
    split
    · omega
    · split <;> omega
  refine ⟨fun w h => ⟨not_ready.2 (hw w h), mem_ready.2 ?_⟩, fun h => not_ready.2 ?_, ?_⟩
  · have h1 := hr w
    have h2 := List.count_pos_iff.2 h
    have h3 := hw w h
    have h4 := le1 s' w
    by_cases hb : (e.stopped = true ∨ e.ended = true) ∧ w = n
    · have := hn hb.1; rw [← hb.2] at this; omega
    · rw [if_neg hb] at h1; omega
  · have hb : e.stopped = true ∨ e.ended = true := by simpa using h
    have h1 := hr n
    rw [if_pos ⟨hb, rfl⟩, hn hb] at h1
    by_cases hm : n ∈ e.woken
    · have := hw n hm; have := hn hb; omega
    · rw [List.count_eq_zero.2 hm] at h1; omega
  · have key := len_of_count (a := s'.ready ++ (if (e.stopped || e.ended) = true then [n] else [])) (b := s.ready ++ e.woken) (fun w => by
      rw [List.count_append, List.count_append, ready_count, ready_count, ← hr w]
      congr 1
      by_cases hb : (e.stopped || e.ended) = true
      · rw [if_pos hb, cnt1]
        have hb2 : e.stopped = true ∨ e.ended = true := by simpa using hb
        by_cases hwn : w = n
        · rw [b2_yes hwn.symm, if_pos ⟨hb2, hwn⟩]
        · rw [b2_no (fun h => hwn h.symm), if_neg (fun h => hwn h.2)]
      · rw [if_neg hb, if_neg (fun h => hb (by simpa using h.1))]; rfl)
    rw [List.length_append, List.length_append] at key
    rw [← key]
    congr 1
    split <;> rfl
theorem Okr.wakes {k : Nat} {s : Spc} (h : Okr k s) (hk : k ≤ 190) (n c : Int) : Woke s (s.run n c).2.2 (s.run n c).1 n := by
  obtain ⟨-, h2, h3, -, h5, h6, -, -⟩ := h.1.run h.2.2 (n := n) (c := c) (by omega) (h.rec hk)
  refine woke_of h2 h6 (fun hb => ?_)
  by_cases he : (s.run n c).2.1 = 0
  · exact h5.1 he
  · rw [(h3 he).2] at hb; rcases hb with hb | hb <;> cases hb
end Go.SLYtnceicnimongcaaGreat
namespace Go.SLYtnceicnimongcaaGreat
open Go Go.RowKit Go.ChangeAt Go.ChangeShapes Go.Deep

section
variable {H : Type} {enc : TypeId × Value → H} {P : Program} {W : World} {bulk : DataW H → Nat}

structure BulkOk (bulk : DataW H → Nat) : Prop where
  one : ∀ d, 1 ≤ bulk d
  slice : ∀ es sp, (es.map bulk).sum + 1 ≤ bulk (.slice es sp)
  agg : ∀ ds, (ds.map bulk).sum ≤ bulk (.agg ds)

def Opens (enc : TypeId × Value → H) (P : Program) (W : World) (bulk : DataW H → Nat) (t : TypeId) {α : Type} (ea : α → List Value) (good : α → Nat → Prop) : Prop :=
  ∀ fuel cs x, DataW.trod enc P W 0 (fun _ => true) true fuel t cs = some x → ∃ a, cs = ea a ∧ good a (bulk x.1)

theorem Opens.int {t : TypeId} {k : IntKind} (ht : P.underlying t = some (.int k)) : Opens enc P W bulk t (fun n : Int => [.int k n]) (fun n _ => (Lit.int k n).wf = true) := fun fuel cs x h => by
  obtain ⟨n, rfl, _, hw⟩ := DataW.trod_int ht h
  exact ⟨n, rfl, hw⟩
theorem Opens.bool {t : TypeId} (ht : P.underlying t = some .bool) : Opens enc P W bulk t (fun b : Bool => [.bool b]) (fun _ _ => True) := fun fuel cs x h => by
  obtain ⟨n, rfl, _⟩ := DataW.trod_bool ht h
  exact ⟨n, rfl, trivial⟩

theorem sum_mem {l : List (DataW H)} {d : DataW H} (h : d ∈ l) : bulk d ≤ (l.map bulk).sum := by
  induction l with
  | nil => cases h
  | cons x r ih =>
    simp only [List.map_cons, List.sum_cons]
    cases List.mem_cons.1 h with
    | inl e => subst e; omega
    | inr e => have := ih e; omega
theorem sum_len (hb : BulkOk bulk) (l : List (DataW H)) : l.length ≤ (l.map bulk).sum := by
  induction l with
  | nil => simp
  | cons x r ih => have := hb.one x; simp only [List.map_cons, List.sum_cons, List.length_cons]; omega

theorem Opens.slice (hb : BulkOk bulk) {t e : TypeId} {k : Nat} {α : Type} {ea : α → List Value} {good : α → Nat → Prop} (ht : P.underlying t = some (.slice e)) (hc : P.cellsOf e = k) (hk0 : 0 < k) (hk : ∀ a, (ea a).length = k) (he : Opens enc P W bulk e ea good)
    (mono : ∀ a m n, m ≤ n → good a m → good a n) :
    Opens enc P W bulk t (fun p : Value × List α => [p.1]) (fun p n => RdAt W ea k p.1 p.2 ∧ p.2.length + 1 ≤ n ∧ ∀ a ∈ p.2, good a n) := fun fuel cs x h => by
  rcases open_slice ht h with ⟨rfl, rfl⟩ | ⟨a, len, cap, m, n, D, Pl, rfl, hb0, hl, hm, hmm, rfl, hx⟩
  · refine ⟨(.slice none 0 0, []), rfl, ⟨⟨none, 0, rfl, Nat.le_refl _, fun _ e _ => by (cases e), fun _ => rfl⟩, fun x hx => (by cases hx), fun i x hx => by simp at hx⟩, ?_, fun a ha => by cases ha⟩
    exact hb.one _
  · simp only [if_true] at hmm
    have hmm' := hmm.symm
    subst hmm'
    have each : ∀ i, i < len → ∃ q : Option α, ∃ y, q = some y ∧ W.cells? 0 (a.add (i * k)) k = some (ea y) ∧ good y (bulk (D i)) := fun i hi => by
      obtain ⟨cs', h1, h2⟩ := hx i (Nat.lt_of_lt_of_le hi hl)
      obtain ⟨y, rfl, hg⟩ := he _ _ _ h2
      rw [hc] at h1
      exact ⟨some y, y, rfl, h1, hg⟩
    obtain ⟨f, hf⟩ := choose_lt each
    obtain ⟨xs, hxs, hxl⟩ : ∃ xs : List α, (∀ i y, xs[i]? = some y → i < len ∧ f i = some y) ∧ xs.length = len := by
      clear h hx each
      induction len with
      | zero => exact ⟨[], fun i y h => by simp at h, rfl⟩
      | succ len ih =>
        obtain ⟨xs, h1, h2⟩ := ih (by omega) (fun i hi => hf i (by omega))
        obtain ⟨y, hy, _⟩ := hf len (by omega)
        refine ⟨xs ++ [y], fun i z hz => ?_, by simp [h2]⟩
        by_cases hi : i < xs.length
        · rw [List.getElem?_append_left hi] at hz
          have := h1 i z hz
          exact ⟨by omega, this.2⟩
        · rw [List.getElem?_append_right (by omega)] at hz
          have hi0 := (List.getElem?_eq_some_iff.1 hz).1
          simp at hi0
          obtain rfl : i = len := by omega
          simp [h2] at hz
          subst hz
          exact ⟨by omega, hy⟩
    have spot : xs ≠ [] → a.spot = none := fun hne => by
      have h0 : 0 < len := by rw [← hxl]; exact List.length_pos_iff.2 hne
      obtain ⟨y, _, hcs, _⟩ := hf 0 h0
      obtain ⟨_, hlen, hcell⟩ := World.cells?_some hcs
      have h1 := hcell 0 hk0
      rw [List.getElem?_eq_getElem (by rw [hk]; exact hk0)] at h1
      have := World.cell?_spot h1
      simpa [Addr.add] using this
    have hlenb : len + 1 ≤ bulk (.slice ((List.range len).map D) ((List.range (cap - len)).map fun j => D (len + j))) := by
      have h1 := hb.slice ((List.range len).map D) ((List.range (cap - len)).map fun j => D (len + j))
      have h2 := sum_len hb ((List.range len).map D)
      simp only [List.length_map, List.length_range] at h2
      omega
    refine ⟨(.slice (some a) len cap, xs), rfl, ⟨⟨some a, cap, by rw [hxl], (by rw [hxl]; exact hl), fun b e hne => by cases e; exact spot hne, fun e => by cases e⟩, fun x _ => hk x, fun i x hi c u hu => ?_⟩, by rw [hxl]; exact hlenb, fun y hy => ?_⟩
    · obtain ⟨hil, hfi⟩ := hxs i x hi
      obtain ⟨y, hy, hcs, _⟩ := hf i hil
      rw [hfi] at hy
      cases hy
      obtain ⟨_, hlen, hcell⟩ := World.cells?_some hcs
      have hck := (List.getElem?_eq_some_iff.1 hu).1
      rw [hk] at hck
      have h1 := hcell c hck
      rw [hu] at h1
      have hs := spot (by intro e; subst e; simp at hi)
      obtain ⟨b, o, s⟩ := a
      simp only at hs
      subst hs
      rw [addr_add, addr_add] at h1
      exact h1
    · obtain ⟨i, hi⟩ := List.mem_iff_getElem?.1 hy
      obtain ⟨hil, hfi⟩ := hxs i y hi
      obtain ⟨z, hz, _, hg⟩ := hf i hil
      rw [hfi] at hz
      cases hz
      refine mono y _ _ ?_ hg
      have h1 := hb.slice ((List.range len).map D) ((List.range (cap - len)).map fun j => D (len + j))
      have h2 : bulk (D i) ≤ (((List.range len).map D).map bulk).sum := sum_mem (List.mem_map.2 ⟨i, List.mem_range.2 hil, rfl⟩)
      exact Nat.le_trans h2 (Nat.le_trans (Nat.le_succ _) h1)

theorem open_struct (hb : BulkOk bulk) {t : TypeId} {fs : Array Field} {fuel : Nat} {cs : List Value} {x : DataW H × List MemPlace} (ht : P.underlying t = some (.struct fs)) (hc : P.cellsOf t = fs.size) (ho : ∀ (i : Nat) (f : Field), fs[i]? = some f → f.offset = i ∧ P.cellsOf f.type = 1)
    (h : DataW.trod enc P W 0 (fun _ => true) true fuel t cs = some x) :
    cs.length = fs.size ∧ ∀ (i : Nat) (f : Field), fs[i]? = some f → ∃ v fuel y, cs[i]? = some v ∧ DataW.trod enc P W 0 (fun _ => true) true fuel f.type [v] = some y ∧ bulk y.1 ≤ bulk x.1 := by
  obtain ⟨xs, n, rfl, rfl, hl, hxl, hf⟩ := DataW.trod_struct ht h
  refine ⟨hl.trans hc, fun i f hi => ?_⟩
  have hlt := (Array.getElem?_eq_some_iff.1 hi).1
  have h1 := hf i f hi
  obtain ⟨ho1, ho2⟩ := ho i f hi
  have hil : i < cs.length := by omega
  rw [ho1, ho2, List.drop_eq_getElem_cons hil, List.take_succ_cons, List.take_zero, List.getElem?_eq_getElem (by omega)] at h1
  refine ⟨cs[i], n, _, List.getElem?_eq_getElem hil, h1, ?_⟩
  have h2 := hb.agg (xs.map (·.1))
  have h3 : bulk (xs[i]'(by omega)).1 ≤ ((xs.map (·.1)).map bulk).sum := sum_mem (List.mem_map.2 ⟨_, List.getElem_mem _, rfl⟩)
  exact Nat.le_trans h3 h2

/-! ### A law's end -/
theorem args_stay (hl : laidOutB P = true) {W W' : World} (hb : Below W.heap.size W W') {sp : Nat → Bool} :
    ∀ {ts : List TypeId} {vs : List Value} {ds : List (DataW H)} {p : List MemPlace}, ts.all (fun t => P.readableRec t && decide (t < P.types.size)) = true → DataW.TrodAll enc P W 0 (fun _ => true) true ts vs ds p → (∀ x ∈ p, x.block < W.heap.size) → (∀ x ∈ p, sp x.block = true) →
      DataW.TrodAll enc P W' 0 sp true ts vs ds p
  | [], [], [], _, _, h, _, _ => h
  | [], [], _ :: _, _, _, h, _, _ => h.elim
  | [], _ :: _, _, _, _, h, _, _ => h.elim
  | _ :: _, [], _, _, _, h, _, _ => h.elim
  | _ :: _, _ :: _, [], _, _, h, _, _ => h.elim
  | t :: ts, v :: vs, d :: ds, ps, hr, h, hlt, hsp => by
    obtain ⟨p, q, h1, h2, rfl⟩ := h
    simp only [List.all_cons, Bool.and_eq_true, decide_eq_true_eq] at hr
    refine ⟨p, q, WideElems.Trod_stays hl hr.1.1 hr.1.2 h1 (fun x hx => hb.same (hlt x (by simp [hx]))) (fun x hx => hsp x (by simp [hx])), ?_, rfl⟩
    exact args_stay hl hb (by simpa using hr.2) h2 (fun x hx => hlt x (by simp [hx])) (fun x hx => hsp x (by simp [hx]))

theorem law_post {f : Func} {s : ChangeSpec} {apart fresh handsOn again : Bool} {W W' : World} {args : Array Value} {ds gs : List (DataW H)} {before : List MemPlace} {tb : TypeId}
    (hl : laidOutB P = true) (hrd : f.params.toList.all (fun t => P.readableRec t && decide (t < P.types.size)) = true) (hv : s.vars = []) (hr : f.resultTypes = #[tb]) (htb : P.underlying tb = some .bool)
    (hW : DataW.Whole enc P f.params.toList s.vars apart W args.toList ds gs before) (h1 : (s.fn H ds).results = [.lit (.bool true)]) (h2 : (s.fn H ds).args = ds) (h3 : (s.fn H ds).vars = [])
    (hb : Below W.heap.size W W') : s.post enc P f apart fresh handsOn again W args (.bool true) W' := by
  have hlt := fun p hp => hW.lt p hp
  have hW' := hW
  obtain ⟨p, q, hA, hV, rfl, hz, hn⟩ := hW'
  rw [hv] at hV
  obtain ⟨rfl, rfl⟩ := trodVars_none hV
  have hres : ∀ (b : Nat) (sp : Nat → Bool) (hd : Bool), DataW.TrodAll enc P W' b sp hd f.resultTypes.toList ((Value.bool true).resultList f.resultTypes.size) (s.fn H (ds ++ [])).results [] := fun b sp hd => by
    rw [List.append_nil, h1, hr]
    exact trodAll_cons_mk (shut_bool htb _) trodAll_mk0
  have hargs : ∀ sp : Nat → Bool, (∀ x ∈ p ++ [], sp x.block = true) → DataW.TrodAll enc P W' 0 sp true f.params.toList args.toList (s.fn H (ds ++ [])).args p := fun sp hsp => by
    rw [List.append_nil, h2]
    exact args_stay hl hb hrd hA (fun x hx => hlt x (by simp [hx])) (fun x hx => hsp x (by simp [hx]))
  have hvars : ∀ sp : Nat → Bool, DataW.TrodVars enc P W' sp s.vars (s.fn H (ds ++ [])).vars [] := fun sp => by
    rw [List.append_nil, h3, hv]; rfl
  have hold : ∀ x ∈ p ++ [], (fun b => decide (b < W.heap.size)) x.block = true := fun x hx => by simpa using hlt x hx
  refine ⟨ds, [], p ++ [], [], p, [], hW, hres _ _ _, hargs _ hold, hvars _, World.keptBut_mono (fun x hx => ⟨hx, ?_⟩) (hb.frame _), fun _ => ?_⟩
  · simp only [List.append_nil] at hx
    exact Or.inr (by simpa using hx)
  · refine ⟨ok_one hr rfl (okWide_bool_mk htb _), _, _, ([] ++ p) ++ [], ⟨[] ++ p, [], trodAll_append (hargs _ (fun _ _ => rfl)) (hres _ _ _), hvars _, rfl, ?_, ?_⟩, ?_⟩
    · intro b off hp
      have hp' : MemPlace.cell b off ∈ p := by simpa using hp
      have := hz b off (by simp [hp'])
      rw [← this]
      exact hb.frozen (p := ⟨b, off, none⟩) (hlt (.cell b off) (by simp [hp']))
    · intro ha
      simpa using hn ha
    · intro x hx _
      simpa using hx

theorem Fn.done {f : FuncId} {args : List Value} {X : Type} {v : Value} (h : Fn P W f args [] X (fun _ => v) (fun _ => True) (fun _ => [])) : Calls P f args.toArray W fun e w' => e = .returned v ∧ Below W.heap.size W w' :=
  (h SLYtnceicnimongcaaGreat.emp W (by simpa only [seps, sep_emp] using Sat.empty)).mono fun e w' ⟨x, he, _, hs⟩ => ⟨he, hs.belowW⟩
end
end Go.SLYtnceicnimongcaaGreat
namespace Go.Proofs.YtnceicnimongcaaGreat
open Go Go.RowKit Go.ChangeShapes Go.WideShapes Go.ChangeAt Go.SLYtnceicnimongcaaGreat

/-! the bulk of what is read -/
theorem bulkAll_eq {H : Type} : ∀ l : List (DataW H), Rows.uptoBulkAll l = (l.map Rows.uptoBulk).sum
  | [] => by simp [Rows.uptoBulkAll]
  | d :: r => by simp [Rows.uptoBulkAll, bulkAll_eq r]
theorem bulkOk {H : Type} : BulkOk (Rows.uptoBulk (H := H)) where
  one := fun d => by
    cases d with
    | lit l => cases l <;> simp [Rows.uptoBulk]
    | nil => simp [Rows.uptoBulk]
    | ptr d => simp [Rows.uptoBulk]
    | slice elems spare => simp [Rows.uptoBulk]
    | agg parts => simp [Rows.uptoBulk]
    | iface t d => simp [Rows.uptoBulk]
    | map entries => simp [Rows.uptoBulk]
    | held h => simp [Rows.uptoBulk]
  slice := fun es sp => by rw [← bulkAll_eq]; simp only [Rows.uptoBulk]; omega
  agg := fun ds => by rw [← bulkAll_eq]; simp only [Rows.uptoBulk]; omega
theorem bound {H : Type} {l : List (DataW H)} (hk : Rows.uptoSmall H l = true) : (l.map Rows.uptoBulk).sum ≤ 1048576 := by
  rw [← bulkAll_eq]; simpa [Rows.uptoSmall] using hk

structure PrgAt (W : World) (v : PrgV) (n : Nat) : Prop where
  fs : RdAt W fstE 1 v.fv v.fs
  ins : ∀ x ∈ v.fs, RdAt W insE 5 x.1 x.2
  sems : RdAt W intE 1 v.sv v.sems
  pipes : RdAt W intE 1 v.pv v.pipes
  fl : v.fs.length ≤ n
  sl : v.sems.length ≤ n
  pl : v.pipes.length ≤ n
  wo : ∀ f ∈ v.p.funcs, ∀ i ∈ f, W64 i.n
theorem PrgAt.rd {W : World} {v : PrgV} {n : Nat} (h : PrgAt W v n) (H : List HProp) : PrgRd W H v := ⟨.old h.fs, fun x hx => .old (h.ins x hx), .old h.sems, .old h.pipes⟩

section
variable {H : Type} {enc : TypeId × Value → H} {W : World}
theorem opensIns : Opens enc Tryz.prog W Rows.uptoBulk 80 insE (fun i _ => W64 i.n) := fun fuel cs x h => by
  obtain ⟨hl, hf⟩ := open_struct bulkOk Tryz.underlying80 (by kernel_rfl) (by
    intro i f hi
    match i, hi with
    | 0, hi => cases hi; exact ⟨rfl, by kernel_rfl⟩
    | 1, hi => cases hi; exact ⟨rfl, by kernel_rfl⟩
    | 2, hi => cases hi; exact ⟨rfl, by kernel_rfl⟩
    | 3, hi => cases hi; exact ⟨rfl, by kernel_rfl⟩
    | 4, hi => cases hi; exact ⟨rfl, by kernel_rfl⟩
    | n + 5, hi => simp at hi) h
  obtain ⟨v0, n0, y0, e0, t0, _⟩ := hf 0 _ rfl
  obtain ⟨v1, n1, y1, e1, t1, _⟩ := hf 1 _ rfl
  obtain ⟨v2, n2, y2, e2, t2, _⟩ := hf 2 _ rfl
  obtain ⟨v3, n3, y3, e3, t3, _⟩ := hf 3 _ rfl
  obtain ⟨v4, n4, y4, e4, t4, _⟩ := hf 4 _ rfl
  obtain ⟨a0, r0, _, _⟩ := DataW.trod_int Tryz.underlying3 t0
  obtain ⟨a1, r1, _, _⟩ := DataW.trod_int Tryz.underlying3 t1
  obtain ⟨a2, r2, _, _⟩ := DataW.trod_int Tryz.underlying3 t2
  obtain ⟨a3, r3, _, _⟩ := DataW.trod_int Tryz.underlying3 t3
  obtain ⟨a4, r4, _, w4⟩ := DataW.trod_int Tryz.underlying78 t4
  cases r0; cases r1; cases r2; cases r3; cases r4
  refine ⟨⟨a0, a1, a2, a3, a4⟩, ?_, bounds_u64 w4⟩
  match cs, hl with
  | [w0, w1, w2, w3, w4], _ =>
    simp at e0 e1 e2 e3 e4
    subst e0 e1 e2 e3 e4
    rfl
theorem opensCode : Opens enc Tryz.prog W Rows.uptoBulk 76 (fstE (α := List Ins)) (fun p n => RdAt W insE 5 p.1 p.2 ∧ p.2.length + 1 ≤ n ∧ ∀ a ∈ p.2, W64 a.n) :=
  Opens.slice bulkOk Tryz.underlying76 (by kernel_rfl) (by decide) (fun _ => rfl) opensIns (fun _ _ _ _ h => h)
theorem opensFuncs : Opens enc Tryz.prog W Rows.uptoBulk 22 (fun p : Value × List (Value × List Ins) => [p.1]) (fun p n => RdAt W fstE 1 p.1 p.2 ∧ p.2.length + 1 ≤ n ∧ ∀ a ∈ p.2, RdAt W insE 5 a.1 a.2 ∧ a.2.length + 1 ≤ n ∧ ∀ b ∈ a.2, W64 b.n) :=
  Opens.slice bulkOk Tryz.underlying22 (by kernel_rfl) (by decide) (fun _ => rfl) opensCode (fun _ _ _ hm h => ⟨h.1, Nat.le_trans h.2.1 hm, h.2.2⟩)
theorem opensInts : Opens enc Tryz.prog W Rows.uptoBulk 23 (fun p : Value × List Int => [p.1]) (fun p n => RdAt W intE 1 p.1 p.2 ∧ p.2.length + 1 ≤ n ∧ ∀ a ∈ p.2, True) :=
  Opens.slice bulkOk Tryz.underlying23 (by kernel_rfl) (by decide) (fun _ => rfl) (fun fuel cs x h => by
    obtain ⟨n, rfl, _, _⟩ := DataW.trod_int Tryz.underlying3 h
    exact ⟨n, rfl, trivial⟩) (fun _ _ _ _ _ => trivial)
theorem opensPrg : Opens enc Tryz.prog W Rows.uptoBulk 25 prgE (fun v n => PrgAt W v n) := fun fuel cs x h => by
  obtain ⟨hl, hf⟩ := open_struct bulkOk Tryz.underlying25 (by kernel_rfl) (by
    intro i f hi
    match i, hi with
    | 0, hi => cases hi; exact ⟨rfl, by kernel_rfl⟩
    | 1, hi => cases hi; exact ⟨rfl, by kernel_rfl⟩
    | 2, hi => cases hi; exact ⟨rfl, by kernel_rfl⟩
    | 3, hi => cases hi; exact ⟨rfl, by kernel_rfl⟩
    | 4, hi => cases hi; exact ⟨rfl, by kernel_rfl⟩
    | 5, hi => cases hi; exact ⟨rfl, by kernel_rfl⟩
    | 6, hi => cases hi; exact ⟨rfl, by kernel_rfl⟩
    | 7, hi => cases hi; exact ⟨rfl, by kernel_rfl⟩
    | n + 8, hi => simp at hi) h
  obtain ⟨v0, n0, y0, e0, t0, b0⟩ := hf 0 _ rfl
  obtain ⟨v1, n1, y1, e1, t1, _⟩ := hf 1 _ rfl
  obtain ⟨v2, n2, y2, e2, t2, _⟩ := hf 2 _ rfl
  obtain ⟨v3, n3, y3, e3, t3, _⟩ := hf 3 _ rfl
  obtain ⟨v4, n4, y4, e4, t4, b4⟩ := hf 4 _ rfl
  obtain ⟨v5, n5, y5, e5, t5, b5⟩ := hf 5 _ rfl
  obtain ⟨v6, n6, y6, e6, t6, _⟩ := hf 6 _ rfl
  obtain ⟨v7, n7, y7, e7, t7, _⟩ := hf 7 _ rfl
  obtain ⟨⟨fv, fs⟩, r0, f1, f2, f3⟩ := opensFuncs _ _ _ t0
  obtain ⟨a1, r1, _, _⟩ := DataW.trod_int Tryz.underlying3 t1
  obtain ⟨a2, r2, _, _⟩ := DataW.trod_int Tryz.underlying3 t2
  obtain ⟨a3, r3, _, _⟩ := DataW.trod_int Tryz.underlying3 t3
  obtain ⟨⟨sv, sems⟩, r4, s1, s2, _⟩ := opensInts _ _ _ t4
  obtain ⟨⟨pv, pipes⟩, r5, p1, p2, _⟩ := opensInts _ _ _ t5
  obtain ⟨a6, r6, _, _⟩ := DataW.trod_int Tryz.underlying3 t6
  obtain ⟨a7, r7, _, _⟩ := DataW.trod_int Tryz.underlying3 t7
  cases r0; cases r1; cases r2; cases r3; cases r4; cases r5; cases r6; cases r7
  refine ⟨⟨fv, fs, a1, a2, a3, sv, sems, pv, pipes, a6, a7⟩, ?_, ⟨f1, fun x hx => (f3 x hx).1, s1, p1, ?_, ?_, ?_, ?_⟩⟩
  · match cs, hl with
    | [w0, w1, w2, w3, w4, w5, w6, w7], _ =>
      simp at e0 e1 e2 e3 e4 e5 e6 e7
      subst e0 e1 e2 e3 e4 e5 e6 e7
      rfl
  · exact Nat.le_trans (Nat.le_of_succ_le f2) b0
  · exact Nat.le_trans (Nat.le_of_succ_le s2) b4
  · exact Nat.le_trans (Nat.le_of_succ_le p2) b5
  · intro f hf i hi
    obtain ⟨q, hq, rfl⟩ := List.mem_map.1 hf
    exact (f3 q hq).2.2 i hi
theorem opensWha : Opens enc Tryz.prog W Rows.uptoBulk 35 whaE (fun _ _ => True) := fun fuel cs x h => by
  obtain ⟨hl, hf⟩ := open_struct bulkOk Tryz.underlying35 (by kernel_rfl) (by
    intro i f hi
    match i, hi with
    | 0, hi => cases hi; exact ⟨rfl, by kernel_rfl⟩
    | 1, hi => cases hi; exact ⟨rfl, by kernel_rfl⟩
    | 2, hi => cases hi; exact ⟨rfl, by kernel_rfl⟩
    | n + 3, hi => simp at hi) h
  obtain ⟨v0, n0, y0, e0, t0, _⟩ := hf 0 _ rfl
  obtain ⟨v1, n1, y1, e1, t1, _⟩ := hf 1 _ rfl
  obtain ⟨v2, n2, y2, e2, t2, _⟩ := hf 2 _ rfl
  obtain ⟨a0, r0, _, _⟩ := DataW.trod_int Tryz.underlying3 t0
  obtain ⟨a1, r1, _, _⟩ := DataW.trod_int Tryz.underlying3 t1
  obtain ⟨a2, r2, _, _⟩ := DataW.trod_int Tryz.underlying3 t2
  cases r0; cases r1; cases r2
  refine ⟨⟨a0, a1, a2⟩, ?_, trivial⟩
  match cs, hl with
  | [w0, w1, w2], _ =>
    simp at e0 e1 e2
    subst e0 e1 e2
    rfl
theorem opensWhas : Opens enc Tryz.prog W Rows.uptoBulk 26 (fun p : Value × List Wha => [p.1]) (fun p n => RdAt W whaE 3 p.1 p.2 ∧ p.2.length + 1 ≤ n ∧ ∀ a ∈ p.2, True) :=
  Opens.slice bulkOk Tryz.underlying26 (by kernel_rfl) (by decide) (fun _ => rfl) opensWha (fun _ _ _ _ _ => trivial)
theorem opensEv : Opens enc Tryz.prog W Rows.uptoBulk 49 evE (fun _ _ => True) := fun fuel cs x h => by
  obtain ⟨hl, hf⟩ := open_struct bulkOk Tryz.underlying49 (by kernel_rfl) (by
    intro i f hi
    match i, hi with
    | 0, hi => cases hi; exact ⟨rfl, by kernel_rfl⟩
    | 1, hi => cases hi; exact ⟨rfl, by kernel_rfl⟩
    | 2, hi => cases hi; exact ⟨rfl, by kernel_rfl⟩
    | n + 3, hi => simp at hi) h
  obtain ⟨v0, n0, y0, e0, t0, _⟩ := hf 0 _ rfl
  obtain ⟨v1, n1, y1, e1, t1, _⟩ := hf 1 _ rfl
  obtain ⟨v2, n2, y2, e2, t2, _⟩ := hf 2 _ rfl
  obtain ⟨a0, r0, _, _⟩ := DataW.trod_int Tryz.underlying3 t0
  obtain ⟨a1, r1, _, _⟩ := DataW.trod_int Tryz.underlying3 t1
  obtain ⟨a2, r2, _, _⟩ := DataW.trod_int Tryz.underlying3 t2
  cases r0; cases r1; cases r2
  refine ⟨⟨a0, a1, a2⟩, ?_, trivial⟩
  match cs, hl with
  | [w0, w1, w2], _ =>
    simp at e0 e1 e2
    subst e0 e1 e2
    rfl
theorem opensEvs : Opens enc Tryz.prog W Rows.uptoBulk 43 (fun p : Value × List Ev => [p.1]) (fun p n => RdAt W evE 3 p.1 p.2 ∧ p.2.length + 1 ≤ n ∧ ∀ a ∈ p.2, True) :=
  Opens.slice bulkOk Tryz.underlying43 (by kernel_rfl) (by decide) (fun _ => rfl) opensEv (fun _ _ _ _ _ => trivial)
end

theorem own : ownKnob Tryz.prog.godebug = none := by kernel_rfl
theorem laid : laidOutB Tryz.prog = true := by kernel_rfl
end Go.Proofs.YtnceicnimongcaaGreat
namespace Go.SLYtnceicnimongcaaGreat
open Go Go.RowKit

class Und (P : Program) (t : TypeId) (u : outParam TypeDesc) : Prop where
  ok : P.underlying t = some u
class Siz (P : Program) (t : TypeId) (k : outParam Nat) : Prop where
  ok : ∀ w, (sizeOf t).run P w = .ok k w
class One (P : Program) (t : TypeId) : Prop where
  ok : ∀ w, (isAgg t).run P w = .ok false w
class Many (P : Program) (t : TypeId) : Prop where
  ok : ∀ w, (isAgg t).run P w = .ok true w
class Fld (P : Program) (S : TypeId) (f : Nat) (k : outParam Nat) : Prop where
  ok : ∀ (b o : Nat) (w : World), (Instr.fieldAt S (.pointer (some ⟨b, o, none⟩)) f).run P w = .ok (.pointer (some ⟨b, o + k, none⟩)) w

section
variable {P : Program} {W : World} {N : Nat} {Q : Exit → Act → World → Prop} {L : List (Nat × Option Value)} {H : List HProp} {O : Array Oper} {T : TypeId} {K : List HProp} {ks : List Nat}
theorem Y.o {S : TypeId} {f k : Nat} [h : Fld P S f k] {x : Operand} {b o : Nat} (hx : ev L x = some (.pointer (some ⟨b, o, none⟩))) : Y P W N (.fieldAddr S x f) T L H (.pointer (some ⟨b, o + k, none⟩)) := fun dst pos after guard a w ha hs => by
  simp only [execOp, ha.eval hx]
  exact value_run (h.ok b o w)
theorem Y.f {S : TypeId} {f k : Nat} [h : Fld P S f k] {x : Operand} {b : Nat} (hx : ev L x = some (.pointer (some ⟨b, 0, none⟩))) : Y P W N (.fieldAddr S x f) T L H (.pointer (some ⟨b, k, none⟩)) := by
  have := Y.o (P := P) (W := W) (N := N) (H := H) (T := T) (S := S) (f := f) (k := k) hx
  rwa [Nat.zero_add] at this
theorem Y.z {S : TypeId} {f : Nat} [h : Fld P S f 0] {x : Operand} {b o : Nat} (hx : ev L x = some (.pointer (some ⟨b, o, none⟩))) : Y P W N (.fieldAddr S x f) T L H (.pointer (some ⟨b, o, none⟩)) := Y.o (k := 0) hx
theorem Y.ld {x : Operand} {b o : Nat} {v : Value} [h : One P T] {T' : TypeId} (hx : ev L x = some (.pointer (some ⟨b, o, none⟩))) (hc : Cell W H b o v) : Y P W N (.load T x) T' L H v := Y.load h.ok hx hc
theorem Y.l {x : Operand} {b i : Nat} {v : Value} {cs : List Value} [h : One P T] {T' : TypeId} (hx : ev L x = some (.pointer (some ⟨b, i, none⟩))) [hh : HasArr H b 0 cs] (hc : cs[i]? = some v := by rfl) : Y P W N (.load T x) T' L H v := Y.load h.ok hx (Cell.a hc)
theorem Y.lo {x : Operand} {b o i : Nat} {v : Value} {cs : List Value} [h : One P T] {T' : TypeId} (hx : ev L x = some (.pointer (some ⟨b, o + i, none⟩))) [hh : HasArr H b o cs] (hc : cs[i]? = some v := by rfl) : Y P W N (.load T x) T' L H v := Y.load h.ok hx (Cell.ao hc)
theorem Y.lz {x : Operand} {b o : Nat} {v : Value} {cs : List Value} [h : One P T] {T' : TypeId} (hx : ev L x = some (.pointer (some ⟨b, o, none⟩))) [hh : HasArr H b o cs] (hc : cs[0]? = some v := by rfl) : Y P W N (.load T x) T' L H v := Y.load h.ok hx (Cell.az hc)
theorem Y.lr {α : Type} {enc : α → List Value} {k i : Nat} {v u : Value} {xs : List α} {y : α} {x : Operand} [h : One P T] {T' : TypeId} (hx : ev L x = some (.pointer (some ⟨blk v, ofs v + i * k, none⟩))) (hy : xs[i]? = some y) [hr : ReadsC W H v enc k xs] (hu : (enc y)[0]? = some u := by rfl) : Y P W N (.load T x) T' L H u := Y.load h.ok hx (Cell.rd0 hr.rd hy hu)
theorem Y.la {x : Operand} {b o k : Nat} {cs : List Value} [h : Many P T] [z : Siz P T k] {T' : TypeId} (hx : ev L x = some (.pointer (some ⟨b, o, none⟩))) (hc : Cells W H b o cs) (hz : cs.length = k := by rfl) : Y P W N (.load T x) T' L H (.agg cs.toArray) := Y.lda h.ok hx hc (by rw [hz]; exact z.ok)
theorem Y.lA {x : Operand} {b o k : Nat} {cs : List Value} [h : Many P T] [z : Siz P T k] {T' : TypeId} (hx : ev L x = some (.pointer (some ⟨b, o, none⟩))) [hh : HasArr H b o cs] (hz : cs.length = k := by rfl) : Y P W N (.load T x) T' L H (.agg cs.toArray) := Y.la hx Cells.a hz
theorem Y.len {α : Type} {enc : α → List Value} {k : Nat} {x : Operand} {t e : TypeId} {v : Value} {xs : List α} [hu : Und P t (.slice e)] (hx : ev L x = some v) [h : ReadsC W H v enc k xs] : Y P W N (.call ⟨.builtin .len, #[x], #[t]⟩) T L H (.int .i64 (xs.length : Int)) := Y.lenRd hu.ok hx h.rd
theorem Y.lens {x : Operand} {t e : TypeId} {p : Option Addr} {n c : Nat} [hu : Und P t (.slice e)] (hx : ev L x = some (.slice p n c)) : Y P W N (.call ⟨.builtin .len, #[x], #[t]⟩) T L H (.int .i64 n) := Y.lenSlice hu.ok hx
theorem Y.ix {α : Type} {enc : α → List Value} {k : Nat} {x y : Operand} {t e : TypeId} {v : Value} {xs : List α} {kd : IntKind} {j : Int} (i : Nat) [hu : Und P t (.slice e)] [hz : Siz P e k] (hx : ev L x = some v) (hy : ev L y = some (.int kd j)) [h : ReadsC W H v enc k xs] (hj : j = (i : Int)) (hi : i < xs.length) : Y P W N (.indexAddr t x y) T L H (.pointer (some ⟨blk v, ofs v + i * k, none⟩)) := Y.ixRd i hu.ok hz.ok hx hy h.rd hj hi
theorem Y.eqp {xT e yT : TypeId} {x y : Operand} {p : Option Addr} [hu : Und P xT (.pointer e)] (hx : ev L x = some (.pointer p)) (hy : ev L y = some (.pointer none)) : Y P W N (.binOp .eql xT x y yT) T L H (.bool p.isNone) := Y.eqPtrNil hu.ok hx hy
theorem Y.neqp {xT e yT : TypeId} {x y : Operand} {p : Option Addr} [hu : Und P xT (.pointer e)] (hx : ev L x = some (.pointer p)) (hy : ev L y = some (.pointer none)) : Y P W N (.binOp .neq xT x y yT) T L H (.bool (!p.isNone)) := Y.neqPtrNil hu.ok hx hy

theorem GoL.p {op : Op} {pos : String} {after : Array Edge} {d : Nat} {rest : List Oper} {v : Value} (hy : Y P W N op T L H v) (k : GoL P W N O Q rest ((d, some v) :: L) H) (hN : Nat.blt d N = true := by rfl) : GoL P W N O Q (⟨some d, op, T, pos, after, none⟩ :: rest) L H := GoL.y hN hy k
theorem GoL.g {op : Op} {pos : String} {after : Array Edge} {d j t : Nat} {want : Bool} {rest : List Oper} {v : Value} (hy : Y P W N op T L H v) (k : GoL P W N O Q rest ((d, some v) :: L) H) (hj : (O[j]?).bind (·.dst) = some t := by rfl) (ht : look L t = some (.bool want) := by rfl) (hN : Nat.blt d N = true := by rfl) : GoL P W N O Q (⟨some d, op, T, pos, after, some (j, want)⟩ :: rest) L H := GoL.yg hj ht hN hy k
theorem GoL.u {op : Op} {pos : String} {after : Array Edge} {d j t : Nat} {want : Bool} {rest : List Oper} {u : Value} (k : GoL P W N O Q rest ((d, some undef) :: L) H) (hj : (O[j]?).bind (·.dst) = some t := by rfl) (ht : look L t = some u := by rfl) (hb : (boolOf u == some want) = false := by rfl) (hN : Nat.blt d N = true := by rfl) : GoL P W N O Q (⟨some d, op, T, pos, after, some (j, want)⟩ :: rest) L H := GoL.skip hj ht hb hN k
theorem GoK.p {op : Op} {pos : String} {after : Array Edge} {d : Nat} {rest : List Oper} {v : Value} (hy : Y P W N op T L H v) (k : GoK P W N K O Q ks rest ((d, some v) :: L) H) (hN : Nat.blt d N = true := by rfl) : GoK P W N K O Q (1 :: ks) (⟨some d, op, T, pos, after, none⟩ :: rest) L H := GoK.s hN hy k
theorem GoK.q {op : Op} {pos : String} {after : Array Edge} {d : Nat} {rest : List Oper} {v : Value} (hy : Y P W N op T L K v) (k : GoK P W N K O Q ks rest ((d, some v) :: L) H) (hN : Nat.blt d N = true := by rfl) (hK : ∀ w, Sat W w (seps H) → Sat W w (seps K) := by exact Kept.auto) : GoK P W N K O Q (0 :: ks) (⟨some d, op, T, pos, after, none⟩ :: rest) L H := GoK.k hN hK hy k
theorem GoK.g {op : Op} {pos : String} {after : Array Edge} {d j t : Nat} {want : Bool} {rest : List Oper} {v : Value} (hy : Y P W N op T L H v) (k : GoK P W N K O Q ks rest ((d, some v) :: L) H) (hj : (O[j]?).bind (·.dst) = some t := by rfl) (ht : look L t = some (.bool want) := by rfl) (hN : Nat.blt d N = true := by rfl) : GoK P W N K O Q (1 :: ks) (⟨some d, op, T, pos, after, some (j, want)⟩ :: rest) L H := GoK.sg hj ht hN hy k
theorem GoK.h {op : Op} {pos : String} {after : Array Edge} {d j t : Nat} {want : Bool} {rest : List Oper} {v : Value} (hy : Y P W N op T L K v) (k : GoK P W N K O Q ks rest ((d, some v) :: L) H) (hj : (O[j]?).bind (·.dst) = some t := by rfl) (ht : look L t = some (.bool want) := by rfl) (hN : Nat.blt d N = true := by rfl) (hK : ∀ w, Sat W w (seps H) → Sat W w (seps K) := by exact Kept.auto) : GoK P W N K O Q (0 :: ks) (⟨some d, op, T, pos, after, some (j, want)⟩ :: rest) L H := GoK.kg hj ht hN hK hy k
theorem GoK.u {op : Op} {pos : String} {after : Array Edge} {d j t : Nat} {want : Bool} {rest : List Oper} {u : Value} (k : GoK P W N K O Q ks rest ((d, some undef) :: L) H) (hj : (O[j]?).bind (·.dst) = some t := by rfl) (ht : look L t = some u := by rfl) (hb : (boolOf u == some want) = false := by rfl) (hN : Nat.blt d N = true := by rfl) (hK : ∀ w, Sat W w (seps H) → Sat W w (seps K) := by exact Kept.auto) : GoK P W N K O Q (0 :: ks) (⟨some d, op, T, pos, after, some (j, want)⟩ :: rest) L H := GoK.kskip hj ht hb hN hK k
theorem GoK.w {op : Op} {pos : String} {after : Array Edge} {d j t : Nat} {want : Bool} {rest : List Oper} {u : Value} (k : GoK P W N K O Q ks rest ((d, some undef) :: L) H) (hj : (O[j]?).bind (·.dst) = some t := by rfl) (ht : look L t = some u := by rfl) (hb : (boolOf u == some want) = false := by rfl) (hN : Nat.blt d N = true := by rfl) : GoK P W N K O Q (1 :: ks) (⟨some d, op, T, pos, after, some (j, want)⟩ :: rest) L H := GoK.sskip hj ht hb hN k
end
end Go.SLYtnceicnimongcaaGreat
namespace Go.SLYtnceicnimongcaaGreat
open Go Go.RowKit

structure Acm where
  kind : Int
  space : Int
  thread : Int
  choice : Int
deriving DecidableEq
def actE (x : Acm) : List Value := [.int .i64 x.kind, .int .i64 x.space, .int .i64 x.thread, .int .i64 x.choice]
def oneH (b : Nat) (l : List Spc) : HProp := exP2 (fun _ (xs : List (Nat × Spc)) => xs.map (·.2) = l) fun v xs => [arr b 0 [v], sl ptrE 1 v xs, allH (fun x => spcH x.1 x.2) xs]
def oDo (l : List Spc) (a : Acm) : Int × List Spc :=
  if a.kind = 3 then (0, l.map fun s => s.tick.2) else
  match geti l a.space with
  | none => (1, l)
  | some s =>
    if a.kind = 1 then ((s.run a.thread a.choice).2.1, l.set a.space.toNat (s.run a.thread a.choice).2.2) else
    if a.kind = 2 then ((s.done a.choice).2.1, l.set a.space.toNat (s.done a.choice).2.2) else (1, l)
def OneOk (k : Nat) (l : List Spc) : Prop := ∀ s ∈ l, Okr k s
theorem OneOk.act {k : Nat} {l : List Spc} (h : OneOk k l) (hk : k ≤ 190) (a : Acm) : OneOk (k + 1) (oDo l a).2 := by
  have hm : ∀ s ∈ l, Okr (k + 1) s := fun s hs => (h s hs).more (Nat.le_succ _)
  unfold oDo
  split
  · intro s hs
    obtain ⟨t, ht, rfl⟩ := List.mem_map.1 hs
    exact (h t ht).tick
  · split
    · exact hm
    · rename_i s e
      have hs := h s (List.mem_of_getElem? (geti_of e).2.2)
      split
      · intro t ht
        rcases List.mem_or_eq_of_mem_set ht with ht | rfl
        · exact hm t ht
        · exact hs.run hk _ _
      · split
        · intro t ht
          rcases List.mem_or_eq_of_mem_set ht with ht | rfl
          · exact hm t ht
          · exact hs.done _
        · exact hm
end Go.SLYtnceicnimongcaaGreat
namespace Go.SLYtnceicnimongcaaGreat
open Go Go.RowKit Go.Proofs Go.Proofs.Tryz
instance : Und Tryz.prog 22 (.slice 76) := ⟨underlying22⟩
instance : Und Tryz.prog 23 (.slice 3) := ⟨underlying23⟩
instance : Und Tryz.prog 26 (.slice 35) := ⟨underlying26⟩
instance : Und Tryz.prog 27 (.pointer 74) := ⟨underlying27⟩
instance : Und Tryz.prog 32 (.pointer 89) := ⟨underlying32⟩
instance : Und Tryz.prog 43 (.slice 49) := ⟨underlying43⟩
instance : Und Tryz.prog 55 (.pointer 133) := ⟨underlying55⟩
instance : Und Tryz.prog 60 (.pointer 103) := ⟨underlying60⟩
instance : Und Tryz.prog 62 (.slice 78) := ⟨underlying62⟩
instance : Und Tryz.prog 63 (.pointer 109) := ⟨underlying63⟩
instance : Und Tryz.prog 65 (.pointer 117) := ⟨underlying65⟩
instance : Und Tryz.prog 67 (.pointer 120) := ⟨underlying67⟩
instance : Und Tryz.prog 69 (.pointer 130) := ⟨underlying69⟩
instance : Und Tryz.prog 71 (.slice 81) := ⟨underlying71⟩
instance : Und Tryz.prog 76 (.slice 80) := ⟨underlying76⟩
instance : Und Tryz.prog 81 (.pointer 123) := ⟨underlying81⟩
instance : Und Tryz.prog 87 (.slice 45) := ⟨underlying87⟩
instance : Und Tryz.prog 101 (.slice 158) := ⟨underlying101⟩
instance : Und Tryz.prog 104 (.slice 216) := ⟨underlying104⟩
instance : Und Tryz.prog 106 (.slice 112) := ⟨underlying106⟩
instance : Und Tryz.prog 107 (.slice 114) := ⟨underlying107⟩
instance : Und Tryz.prog 110 (.slice 212) := ⟨underlying110⟩
instance : Und Tryz.prog 115 (.slice 236) := ⟨underlying115⟩
instance : Und Tryz.prog 121 (.slice 257) := ⟨underlying121⟩
instance : Und Tryz.prog 131 (.slice 134) := ⟨underlying131⟩
instance : Und Tryz.prog 134 (.pointer 161) := ⟨underlying134⟩
instance : Und Tryz.prog 162 (.slice 43) := ⟨underlying162⟩
instance : Und Tryz.prog 209 (.pointer 112) := ⟨underlying209⟩
instance : Und Tryz.prog 227 (.pointer 216) := ⟨underlying227⟩
instance : Und Tryz.prog 232 (.pointer 114) := ⟨underlying232⟩
instance : Siz Tryz.prog 3 1 := ⟨sizeOf3⟩
instance : Siz Tryz.prog 25 8 := ⟨sizeOf25⟩
instance : Siz Tryz.prog 35 3 := ⟨sizeOf35⟩
instance : Siz Tryz.prog 38 4 := ⟨sizeOf38⟩
instance : Siz Tryz.prog 40 6 := ⟨sizeOf40⟩
instance : Siz Tryz.prog 43 1 := ⟨sizeOf43⟩
instance : Siz Tryz.prog 45 3 := ⟨sizeOf45⟩
instance : Siz Tryz.prog 49 3 := ⟨sizeOf49⟩
instance : Siz Tryz.prog 70 16 := ⟨sizeOf70⟩
instance : Siz Tryz.prog 76 1 := ⟨sizeOf76⟩
instance : Siz Tryz.prog 78 1 := ⟨sizeOf78⟩
instance : Siz Tryz.prog 80 5 := ⟨sizeOf80⟩
instance : Siz Tryz.prog 81 1 := ⟨sizeOf81⟩
instance : Siz Tryz.prog 112 1 := ⟨sizeOf112⟩
instance : Siz Tryz.prog 114 2 := ⟨sizeOf114⟩
instance : Siz Tryz.prog 128 10 := ⟨sizeOf128⟩
instance : Siz Tryz.prog 134 1 := ⟨sizeOf134⟩
instance : Siz Tryz.prog 152 4 := ⟨sizeOf152⟩
instance : Siz Tryz.prog 158 2 := ⟨sizeOf158⟩
instance : Siz Tryz.prog 212 2 := ⟨sizeOf212⟩
instance : Siz Tryz.prog 216 3 := ⟨sizeOf216⟩
instance : Siz Tryz.prog 236 4 := ⟨sizeOf236⟩
instance : Siz Tryz.prog 257 2 := ⟨sizeOf257⟩
instance : One Tryz.prog 3 := ⟨isAgg3⟩
instance : One Tryz.prog 4 := ⟨isAgg4⟩
instance : One Tryz.prog 22 := ⟨isAgg22⟩
instance : One Tryz.prog 23 := ⟨isAgg23⟩
instance : One Tryz.prog 27 := ⟨isAgg27⟩
instance : One Tryz.prog 28 := ⟨isAgg28⟩
instance : One Tryz.prog 43 := ⟨isAgg43⟩
instance : One Tryz.prog 55 := ⟨isAgg55⟩
instance : One Tryz.prog 60 := ⟨isAgg60⟩
instance : One Tryz.prog 62 := ⟨isAgg62⟩
instance : One Tryz.prog 63 := ⟨isAgg63⟩
instance : One Tryz.prog 65 := ⟨isAgg65⟩
instance : One Tryz.prog 67 := ⟨isAgg67⟩
instance : One Tryz.prog 69 := ⟨isAgg69⟩
instance : One Tryz.prog 71 := ⟨isAgg71⟩
instance : One Tryz.prog 72 := ⟨isAgg72⟩
instance : One Tryz.prog 76 := ⟨isAgg76⟩
instance : One Tryz.prog 78 := ⟨isAgg78⟩
instance : One Tryz.prog 81 := ⟨isAgg81⟩
instance : One Tryz.prog 87 := ⟨isAgg87⟩
instance : One Tryz.prog 101 := ⟨isAgg101⟩
instance : One Tryz.prog 104 := ⟨isAgg104⟩
instance : One Tryz.prog 106 := ⟨isAgg106⟩
instance : One Tryz.prog 107 := ⟨isAgg107⟩
instance : One Tryz.prog 110 := ⟨isAgg110⟩
instance : One Tryz.prog 115 := ⟨isAgg115⟩
instance : One Tryz.prog 118 := ⟨isAgg118⟩
instance : One Tryz.prog 121 := ⟨isAgg121⟩
instance : One Tryz.prog 131 := ⟨isAgg131⟩
instance : One Tryz.prog 134 := ⟨isAgg134⟩
instance : Many Tryz.prog 25 := ⟨isAgg25⟩
instance : Many Tryz.prog 38 := ⟨isAgg38⟩
instance : Many Tryz.prog 40 := ⟨isAgg40⟩
instance : Many Tryz.prog 45 := ⟨isAgg45⟩
instance : Many Tryz.prog 49 := ⟨isAgg49⟩
instance : Many Tryz.prog 70 := ⟨isAgg70⟩
instance : Many Tryz.prog 80 := ⟨isAgg80⟩
instance : Many Tryz.prog 112 := ⟨isAgg112⟩
instance : Many Tryz.prog 114 := ⟨isAgg114⟩
instance : Many Tryz.prog 128 := ⟨isAgg128⟩
instance : Many Tryz.prog 152 := ⟨isAgg152⟩
instance : Many Tryz.prog 158 := ⟨isAgg158⟩
instance : Many Tryz.prog 212 := ⟨isAgg212⟩
instance : Many Tryz.prog 216 := ⟨isAgg216⟩
instance : Many Tryz.prog 236 := ⟨isAgg236⟩
instance : Many Tryz.prog 257 := ⟨isAgg257⟩
instance : Fld Tryz.prog 25 0 0 := ⟨run_fieldAt (t := 22) underlying25 rfl sizeOf22⟩
instance : Fld Tryz.prog 25 1 1 := ⟨run_fieldAt (t := 3) underlying25 rfl sizeOf3⟩
instance : Fld Tryz.prog 25 2 2 := ⟨run_fieldAt (t := 3) underlying25 rfl sizeOf3⟩
instance : Fld Tryz.prog 25 3 3 := ⟨run_fieldAt (t := 3) underlying25 rfl sizeOf3⟩
instance : Fld Tryz.prog 25 4 4 := ⟨run_fieldAt (t := 23) underlying25 rfl sizeOf23⟩
instance : Fld Tryz.prog 25 5 5 := ⟨run_fieldAt (t := 23) underlying25 rfl sizeOf23⟩
instance : Fld Tryz.prog 25 6 6 := ⟨run_fieldAt (t := 3) underlying25 rfl sizeOf3⟩
instance : Fld Tryz.prog 25 7 7 := ⟨run_fieldAt (t := 3) underlying25 rfl sizeOf3⟩
instance : Fld Tryz.prog 35 0 0 := ⟨run_fieldAt (t := 3) underlying35 rfl sizeOf3⟩
instance : Fld Tryz.prog 35 1 1 := ⟨run_fieldAt (t := 3) underlying35 rfl sizeOf3⟩
instance : Fld Tryz.prog 35 2 2 := ⟨run_fieldAt (t := 3) underlying35 rfl sizeOf3⟩
instance : Fld Tryz.prog 38 0 0 := ⟨run_fieldAt (t := 23) underlying38 rfl sizeOf23⟩
instance : Fld Tryz.prog 38 1 1 := ⟨run_fieldAt (t := 4) underlying38 rfl sizeOf4⟩
instance : Fld Tryz.prog 38 2 2 := ⟨run_fieldAt (t := 4) underlying38 rfl sizeOf4⟩
instance : Fld Tryz.prog 38 3 3 := ⟨run_fieldAt (t := 4) underlying38 rfl sizeOf4⟩
instance : Fld Tryz.prog 40 0 0 := ⟨run_fieldAt (t := 4) underlying40 rfl sizeOf4⟩
instance : Fld Tryz.prog 40 2 2 := ⟨run_fieldAt (t := 38) underlying40 rfl sizeOf38⟩
instance : Fld Tryz.prog 45 0 0 := ⟨run_fieldAt (t := 3) underlying45 rfl sizeOf3⟩
instance : Fld Tryz.prog 45 1 1 := ⟨run_fieldAt (t := 3) underlying45 rfl sizeOf3⟩
instance : Fld Tryz.prog 45 2 2 := ⟨run_fieldAt (t := 43) underlying45 rfl sizeOf43⟩
instance : Fld Tryz.prog 49 0 0 := ⟨run_fieldAt (t := 3) underlying49 rfl sizeOf3⟩
instance : Fld Tryz.prog 49 1 1 := ⟨run_fieldAt (t := 3) underlying49 rfl sizeOf3⟩
instance : Fld Tryz.prog 49 2 2 := ⟨run_fieldAt (t := 3) underlying49 rfl sizeOf3⟩
instance : Fld Tryz.prog 74 0 0 := ⟨run_fieldAt (t := 25) underlying74 rfl sizeOf25⟩
instance : Fld Tryz.prog 74 1 8 := ⟨run_fieldAt (t := 60) underlying74 rfl sizeOf60⟩
instance : Fld Tryz.prog 74 2 9 := ⟨run_fieldAt (t := 70) underlying74 rfl sizeOf70⟩
instance : Fld Tryz.prog 74 3 25 := ⟨run_fieldAt (t := 62) underlying74 rfl sizeOf62⟩
instance : Fld Tryz.prog 74 4 26 := ⟨run_fieldAt (t := 63) underlying74 rfl sizeOf63⟩
instance : Fld Tryz.prog 74 5 27 := ⟨run_fieldAt (t := 71) underlying74 rfl sizeOf71⟩
instance : Fld Tryz.prog 74 6 28 := ⟨run_fieldAt (t := 65) underlying74 rfl sizeOf65⟩
instance : Fld Tryz.prog 74 7 29 := ⟨run_fieldAt (t := 67) underlying74 rfl sizeOf67⟩
instance : Fld Tryz.prog 74 8 30 := ⟨run_fieldAt (t := 72) underlying74 rfl sizeOf72⟩
instance : Fld Tryz.prog 80 0 0 := ⟨run_fieldAt (t := 3) underlying80 rfl sizeOf3⟩
instance : Fld Tryz.prog 80 1 1 := ⟨run_fieldAt (t := 3) underlying80 rfl sizeOf3⟩
instance : Fld Tryz.prog 80 2 2 := ⟨run_fieldAt (t := 3) underlying80 rfl sizeOf3⟩
instance : Fld Tryz.prog 80 3 3 := ⟨run_fieldAt (t := 3) underlying80 rfl sizeOf3⟩
instance : Fld Tryz.prog 80 4 4 := ⟨run_fieldAt (t := 78) underlying80 rfl sizeOf78⟩
instance : Fld Tryz.prog 89 0 0 := ⟨run_fieldAt (t := 27) underlying89 rfl sizeOf27⟩
instance : Fld Tryz.prog 89 1 1 := ⟨run_fieldAt (t := 55) underlying89 rfl sizeOf55⟩
instance : Fld Tryz.prog 89 2 2 := ⟨run_fieldAt (t := 87) underlying89 rfl sizeOf87⟩
instance : Fld Tryz.prog 89 3 3 := ⟨run_fieldAt (t := 43) underlying89 rfl sizeOf43⟩
instance : Fld Tryz.prog 89 4 4 := ⟨run_fieldAt (t := 4) underlying89 rfl sizeOf4⟩
instance : Fld Tryz.prog 103 0 0 := ⟨run_fieldAt (t := 101) underlying103 rfl sizeOf101⟩
instance : Fld Tryz.prog 109 0 0 := ⟨run_fieldAt (t := 104) underlying109 rfl sizeOf104⟩
instance : Fld Tryz.prog 109 1 1 := ⟨run_fieldAt (t := 106) underlying109 rfl sizeOf106⟩
instance : Fld Tryz.prog 109 2 2 := ⟨run_fieldAt (t := 107) underlying109 rfl sizeOf107⟩
instance : Fld Tryz.prog 112 0 0 := ⟨run_fieldAt (t := 110) underlying112 rfl sizeOf110⟩
instance : Fld Tryz.prog 114 0 0 := ⟨run_fieldAt (t := 112) underlying114 rfl sizeOf112⟩
instance : Fld Tryz.prog 114 1 1 := ⟨run_fieldAt (t := 3) underlying114 rfl sizeOf3⟩
instance : Fld Tryz.prog 117 0 0 := ⟨run_fieldAt (t := 62) underlying117 rfl sizeOf62⟩
instance : Fld Tryz.prog 117 1 1 := ⟨run_fieldAt (t := 115) underlying117 rfl sizeOf115⟩
instance : Fld Tryz.prog 120 0 0 := ⟨run_fieldAt (t := 3) underlying120 rfl sizeOf3⟩
instance : Fld Tryz.prog 120 1 1 := ⟨run_fieldAt (t := 118) underlying120 rfl sizeOf118⟩
instance : Fld Tryz.prog 123 0 0 := ⟨run_fieldAt (t := 3) underlying123 rfl sizeOf3⟩
instance : Fld Tryz.prog 123 1 1 := ⟨run_fieldAt (t := 62) underlying123 rfl sizeOf62⟩
instance : Fld Tryz.prog 123 2 2 := ⟨run_fieldAt (t := 121) underlying123 rfl sizeOf121⟩
instance : Fld Tryz.prog 123 3 3 := ⟨run_fieldAt (t := 23) underlying123 rfl sizeOf23⟩
instance : Fld Tryz.prog 128 0 0 := ⟨run_fieldAt (t := 3) underlying128 rfl sizeOf3⟩
instance : Fld Tryz.prog 128 1 1 := ⟨run_fieldAt (t := 3) underlying128 rfl sizeOf3⟩
instance : Fld Tryz.prog 128 2 2 := ⟨run_fieldAt (t := 126) underlying128 rfl sizeOf126⟩
instance : Fld Tryz.prog 130 0 0 := ⟨run_fieldAt (t := 128) underlying130 rfl sizeOf128⟩
instance : Fld Tryz.prog 130 1 10 := ⟨run_fieldAt (t := 78) underlying130 rfl sizeOf78⟩
instance : Fld Tryz.prog 130 2 11 := ⟨run_fieldAt (t := 3) underlying130 rfl sizeOf3⟩
instance : Fld Tryz.prog 130 3 12 := ⟨run_fieldAt (t := 78) underlying130 rfl sizeOf78⟩
instance : Fld Tryz.prog 130 4 13 := ⟨run_fieldAt (t := 4) underlying130 rfl sizeOf4⟩
instance : Fld Tryz.prog 130 5 14 := ⟨run_fieldAt (t := 3) underlying130 rfl sizeOf3⟩
instance : Fld Tryz.prog 130 6 15 := ⟨run_fieldAt (t := 3) underlying130 rfl sizeOf3⟩
instance : Fld Tryz.prog 130 7 16 := ⟨run_fieldAt (t := 3) underlying130 rfl sizeOf3⟩
instance : Fld Tryz.prog 133 0 0 := ⟨run_fieldAt (t := 131) underlying133 rfl sizeOf131⟩
instance : Fld Tryz.prog 152 0 0 := ⟨run_fieldAt (t := 3) underlying152 rfl sizeOf3⟩
instance : Fld Tryz.prog 152 1 1 := ⟨run_fieldAt (t := 4) underlying152 rfl sizeOf4⟩
instance : Fld Tryz.prog 152 2 2 := ⟨run_fieldAt (t := 3) underlying152 rfl sizeOf3⟩
instance : Fld Tryz.prog 152 3 3 := ⟨run_fieldAt (t := 4) underlying152 rfl sizeOf4⟩
instance : Fld Tryz.prog 158 0 0 := ⟨run_fieldAt (t := 4) underlying158 rfl sizeOf4⟩
instance : Fld Tryz.prog 158 1 1 := ⟨run_fieldAt (t := 78) underlying158 rfl sizeOf78⟩
instance : Fld Tryz.prog 161 0 0 := ⟨run_fieldAt (t := 23) underlying161 rfl sizeOf23⟩
instance : Fld Tryz.prog 177 0 0 := ⟨run_fieldAt (t := 27) underlying177 rfl sizeOf27⟩
instance : Fld Tryz.prog 177 1 1 := ⟨run_fieldAt (t := 3) underlying177 rfl sizeOf3⟩
instance : Fld Tryz.prog 177 2 2 := ⟨run_fieldAt (t := 69) underlying177 rfl sizeOf69⟩
instance : Fld Tryz.prog 177 3 3 := ⟨run_fieldAt (t := 80) underlying177 rfl sizeOf80⟩
instance : Fld Tryz.prog 177 4 8 := ⟨run_fieldAt (t := 3) underlying177 rfl sizeOf3⟩
instance : Fld Tryz.prog 177 5 9 := ⟨run_fieldAt (t := 38) underlying177 rfl sizeOf38⟩
instance : Fld Tryz.prog 177 6 13 := ⟨run_fieldAt (t := 72) underlying177 rfl sizeOf72⟩
instance : Fld Tryz.prog 196 0 0 := ⟨run_fieldAt (t := 28) underlying196 rfl sizeOf28⟩
instance : Fld Tryz.prog 199 0 0 := ⟨run_fieldAt (t := 128) underlying199 rfl sizeOf128⟩
instance : Fld Tryz.prog 199 1 10 := ⟨run_fieldAt (t := 62) underlying199 rfl sizeOf62⟩
instance : Fld Tryz.prog 212 0 0 := ⟨run_fieldAt (t := 3) underlying212 rfl sizeOf3⟩
instance : Fld Tryz.prog 212 1 1 := ⟨run_fieldAt (t := 3) underlying212 rfl sizeOf3⟩
instance : Fld Tryz.prog 216 0 0 := ⟨run_fieldAt (t := 112) underlying216 rfl sizeOf112⟩
instance : Fld Tryz.prog 216 1 1 := ⟨run_fieldAt (t := 4) underlying216 rfl sizeOf4⟩
instance : Fld Tryz.prog 216 2 2 := ⟨run_fieldAt (t := 3) underlying216 rfl sizeOf3⟩
instance : Fld Tryz.prog 236 0 0 := ⟨run_fieldAt (t := 3) underlying236 rfl sizeOf3⟩
instance : Fld Tryz.prog 236 1 1 := ⟨run_fieldAt (t := 3) underlying236 rfl sizeOf3⟩
instance : Fld Tryz.prog 257 0 0 := ⟨run_fieldAt (t := 3) underlying257 rfl sizeOf3⟩
instance : Fld Tryz.prog 257 1 1 := ⟨run_fieldAt (t := 78) underlying257 rfl sizeOf78⟩
end Go.SLYtnceicnimongcaaGreat
namespace Go.SLYtnceicnimongcaaGreat
open Go Go.RowKit Go.Proofs Go.Proofs.Tryz

theorem CloneI {W : World} {A : HProp} {v : Value} {xs : List Int} (hr : Rd W [A] intE 1 v xs) (hl : xs.length ≤ 1000000000) : Fn Tryz.prog W 84 [v] [A] Value (fun u => u) (fun _ => True) (fun u => [sl intE 1 u xs, A]) := by
  refine Fn.intro (N := 8) func84 rfl ntmps84 rfl fun F => ?_
  haveI hRI : ∀ (H : List HProp) [HasH H A], ReadsC W H v intE 1 xs := fun H h => ⟨hr.at h.has⟩
  show GoC _ _ _ _ _ _ [A, F]
  refine .s (.r (.p (.a rfl) (.n (.t (.s (.s (.r (.p (.m rfl) ?_))))))))
  refine .p (.eqSlN underlying23 rfl rfl Rd.s) ?_
  refine .n (.t (.cond rfl (fun h4 => ?_) (fun h4 => ?_)))
  · refine .s (.r (.p (.a rfl) (.n (.t (.e (.tr ?_))))))
    refine .know (fun w s => Rd.nilS' Rd.s h4 w s) fun hn => ?_
    subst hn
    refine .to (A := sl intE 1 (.slice none 0 0) ([] : List Int)) (Bs := []) .nil (fun h e => .inl ⟨⟨_, rfl⟩, rfl, e⟩) ?_
    refine .ret1 rfl rfl fun w s => ⟨_, ?_, trivial, finE .auto s⟩
    rfl
  · refine .v (.t (.s (.r ?_)))
    refine .does rfl (Does.bsl 3 rfl rfl (by kernel_rfl)) ?_
    rintro _ _ ⟨b5, rfl, rfl⟩
    refine .p (.m rfl) ?_
    refine .to (A := sl intE 1 (.slice (some ⟨b5, 0, none⟩) 0 0) ([] : List Int)) (Bs := []) .nil (fun h e => .inl ⟨⟨_, rfl⟩, rfl, e⟩) ?_
    refine .does rfl (Does.append rfl underlying23 underlying23 typeInfo3 rfl rfl rfl (by decide) rfl rfl .auto Rd.s (by simp; omega) (intE_one _)) ?_
    rintro _ _ ⟨v7, rfl, rfl⟩
    refine .p (.a rfl) (.n (.t (.e (.ret1 rfl rfl fun w s => ⟨_, ?_, trivial, finE .auto s⟩))))
    rfl

theorem ClipI {W : World} {v : Value} {xs : List Int} : Fn Tryz.prog W 83 [v] [sl intE 1 v xs] Value (fun u => u) (fun _ => True) (fun u => [sl intE 1 u xs]) := by
  refine Fn.intro (N := 9) func83 rfl ntmps83 rfl fun F => ?_
  show GoC _ _ _ _ _ _ [sl intE 1 v xs, F]
  refine .know (fun w s => (Rd.sl (W := W) .here w s).1) fun hr => ?_
  obtain ⟨a, cap, rfl, hle, -⟩ := hr
  refine .s (.r (.p (.a rfl) (.n (.t (.s (.r (.p (.m rfl) (.p (.m rfl) (.p (.len rfl) (.p (.m rfl) (.p (.len rfl) ?_)))))))))))
  refine .p (.slice03 xs.length xs.length underlying23 sizeOf3 rfl rfl rfl rfl rfl (Nat.le_refl _) hle) ?_
  refine .p (.a rfl) (.n (.t (.e ?_)))
  refine .fx .auto sl_clip ?_
  rintro J -
  refine .ret1 rfl rfl fun w s => ⟨_, ?_, trivial, finE .auto s⟩
  rfl

theorem CloneE {W : World} {A : HProp} {v : Value} {xs : List Ev} (hr : Rd W [A] evE 3 v xs) (hl : xs.length ≤ 1000000000) : Fn Tryz.prog W 46 [v] [A] Value (fun u => u) (fun _ => True) (fun u => [sl evE 3 u xs, A]) := by
  refine Fn.intro (N := 8) func46 rfl ntmps46 rfl fun F => ?_
  haveI hRI : ∀ (H : List HProp) [HasH H A], ReadsC W H v evE 3 xs := fun H h => ⟨hr.at h.has⟩
  show GoC _ _ _ _ _ _ [A, F]
  refine .s (.r (.p (.a rfl) (.n (.t (.s (.s (.r (.p (.m rfl) ?_))))))))
  refine .p (.eqSlN underlying43 rfl rfl Rd.s) ?_
  refine .n (.t (.cond rfl (fun h4 => ?_) (fun h4 => ?_)))
  · refine .s (.r (.p (.a rfl) (.n (.t (.e (.tr ?_))))))
    refine .know (fun w s => Rd.nilS' Rd.s h4 w s) fun hn => ?_
    subst hn
    refine .to (A := sl evE 3 (.slice none 0 0) ([] : List Ev)) (Bs := []) .nil (fun h e => .inl ⟨⟨_, rfl⟩, rfl, e⟩) ?_
    refine .ret1 rfl rfl fun w s => ⟨_, ?_, trivial, finE .auto s⟩
    rfl
  · refine .v (.t (.s (.r ?_)))
    refine .does rfl (Does.bsl 49 rfl rfl (by kernel_rfl)) ?_
    rintro _ _ ⟨b5, rfl, rfl⟩
    refine .p (.m rfl) ?_
    refine .to (A := sl evE 3 (.slice (some ⟨b5, 0, none⟩) 0 0) ([] : List Ev)) (Bs := []) .nil (fun h e => .inl ⟨⟨_, rfl⟩, rfl, e⟩) ?_
    refine .does rfl (Does.append rfl underlying43 underlying43 typeInfo49 rfl rfl rfl (by decide) rfl rfl .auto Rd.s (by simp; omega) (evE_one _)) ?_
    rintro _ _ ⟨v7, rfl, rfl⟩
    refine .p (.a rfl) (.n (.t (.e (.ret1 rfl rfl fun w s => ⟨_, ?_, trivial, finE .auto s⟩))))
    rfl

theorem ClipE {W : World} {v : Value} {xs : List Ev} : Fn Tryz.prog W 45 [v] [sl evE 3 v xs] Value (fun u => u) (fun _ => True) (fun u => [sl evE 3 u xs]) := by
  refine Fn.intro (N := 9) func45 rfl ntmps45 rfl fun F => ?_
  show GoC _ _ _ _ _ _ [sl evE 3 v xs, F]
  refine .know (fun w s => (Rd.sl (W := W) .here w s).1) fun hr => ?_
  obtain ⟨a, cap, rfl, hle, -⟩ := hr
  refine .s (.r (.p (.a rfl) (.n (.t (.s (.r (.p (.m rfl) (.p (.m rfl) (.p (.len rfl) (.p (.m rfl) (.p (.len rfl) ?_)))))))))))
  refine .p (.slice03 xs.length xs.length underlying43 sizeOf49 rfl rfl rfl rfl rfl (Nat.le_refl _) hle) ?_
  refine .p (.a rfl) (.n (.t (.e ?_)))
  refine .fx .auto sl_clip ?_
  rintro J -
  refine .ret1 rfl rfl fun w s => ⟨_, ?_, trivial, finE .auto s⟩
  rfl

theorem CloneN {W : World} {A : HProp} {v : Value} {xs : List Ins} (hr : Rd W [A] insE 5 v xs) (hl : xs.length ≤ 1000000000) : Fn Tryz.prog W 26 [v] [A] Value (fun u => u) (fun _ => True) (fun u => [sl insE 5 u xs, A]) := by
  refine Fn.intro (N := 8) func26 rfl ntmps26 rfl fun F => ?_
  haveI hRI : ∀ (H : List HProp) [HasH H A], ReadsC W H v insE 5 xs := fun H h => ⟨hr.at h.has⟩
  show GoC _ _ _ _ _ _ [A, F]
  refine .s (.r (.p (.a rfl) (.n (.t (.s (.s (.r (.p (.m rfl) ?_))))))))
  refine .p (.eqSlN underlying76 rfl rfl Rd.s) ?_
  refine .n (.t (.cond rfl (fun h4 => ?_) (fun h4 => ?_)))
  · refine .s (.r (.p (.a rfl) (.n (.t (.e (.tr ?_))))))
    refine .know (fun w s => Rd.nilS' Rd.s h4 w s) fun hn => ?_
    subst hn
    refine .to (A := sl insE 5 (.slice none 0 0) ([] : List Ins)) (Bs := []) .nil (fun h e => .inl ⟨⟨_, rfl⟩, rfl, e⟩) ?_
    refine .ret1 rfl rfl fun w s => ⟨_, ?_, trivial, finE .auto s⟩
    rfl
  · refine .v (.t (.s (.r ?_)))
    refine .does rfl (Does.bsl 80 rfl rfl (by kernel_rfl)) ?_
    rintro _ _ ⟨b5, rfl, rfl⟩
    refine .p (.m rfl) ?_
    refine .to (A := sl insE 5 (.slice (some ⟨b5, 0, none⟩) 0 0) ([] : List Ins)) (Bs := []) .nil (fun h e => .inl ⟨⟨_, rfl⟩, rfl, e⟩) ?_
    refine .does rfl (Does.append rfl underlying76 underlying76 typeInfo80 rfl rfl rfl (by decide) rfl rfl .auto Rd.s (by simp; omega) (insE_one _)) ?_
    rintro _ _ ⟨v7, rfl, rfl⟩
    refine .p (.a rfl) (.n (.t (.e (.ret1 rfl rfl fun w s => ⟨_, ?_, trivial, finE .auto s⟩))))
    rfl

theorem CloneNN {W : World} {A : HProp} {v : Value} {xs : List (Value × List Ins)} (hr : Rd W [A] fstE 1 v xs) (hl : xs.length ≤ 1000000000) (hone : ∀ y ∈ xs, ∀ c ∈ fstE y, c.oneCell' = true) : Fn Tryz.prog W 25 [v] [A] Value (fun u => u) (fun _ => True) (fun u => [sl fstE 1 u xs, A]) := by
  refine Fn.intro (N := 8) func25 rfl ntmps25 rfl fun F => ?_
  haveI hRI : ∀ (H : List HProp) [HasH H A], ReadsC W H v fstE 1 xs := fun H h => ⟨hr.at h.has⟩
  show GoC _ _ _ _ _ _ [A, F]
  refine .s (.r (.p (.a rfl) (.n (.t (.s (.s (.r (.p (.m rfl) ?_))))))))
  refine .p (.eqSlN underlying22 rfl rfl Rd.s) ?_
  refine .n (.t (.cond rfl (fun h4 => ?_) (fun h4 => ?_)))
  · refine .s (.r (.p (.a rfl) (.n (.t (.e (.tr ?_))))))
    refine .know (fun w s => Rd.nilS' Rd.s h4 w s) fun hn => ?_
    subst hn
    refine .to (A := sl fstE 1 (.slice none 0 0) ([] : List (Value × List Ins))) (Bs := []) .nil (fun h e => .inl ⟨⟨_, rfl⟩, rfl, e⟩) ?_
    refine .ret1 rfl rfl fun w s => ⟨_, ?_, trivial, finE .auto s⟩
    rfl
  · refine .v (.t (.s (.r ?_)))
    refine .does rfl (Does.bsl 76 rfl rfl (by kernel_rfl)) ?_
    rintro _ _ ⟨b5, rfl, rfl⟩
    refine .p (.m rfl) ?_
    refine .to (A := sl fstE 1 (.slice (some ⟨b5, 0, none⟩) 0 0) ([] : List (Value × List Ins))) (Bs := []) .nil (fun h e => .inl ⟨⟨_, rfl⟩, rfl, e⟩) ?_
    refine .does rfl (Does.append rfl underlying22 underlying22 typeInfo76 rfl rfl rfl (by decide) rfl rfl .auto Rd.s (by simp; omega) hone) ?_
    rintro _ _ ⟨v7, rfl, rfl⟩
    refine .p (.a rfl) (.n (.t (.e (.ret1 rfl rfl fun w s => ⟨_, ?_, trivial, finE .auto s⟩))))
    rfl

theorem IndexI {W : World} {A : HProp} {v : Value} {xs : List Int} {x : Int} (hr : Rd W [A] intE 1 v xs) (hl : xs.length ≤ 1000000000) : Fn Tryz.prog W 130 [v, .int .i64 x] [A] Unit (fun _ => .int .i64 (idxOf x xs)) (fun _ => True) (fun _ => [A]) := by
  refine Fn.intro (N := 19) func130 rfl ntmps130 rfl fun F => ?_
  haveI hRI : ∀ (H : List HProp) [HasH H A], ReadsC W H v intE 1 xs := fun H h => ⟨hr.at h.has⟩
  show GoC _ _ _ _ _ _ [A, F]
  refine .s (.r (.p (.a rfl) (.n (.t (.s (.s (.r (.p (.m rfl) (.p (.len rfl) (.p (.m rfl) (.n (.t (.b ?_)))))))))))))
  refine .loopK (X := Nat) [4, 5, 8, 9, 10, 11, 12, 13, 14, 15, 16, 17, 18] (fun k => xs.length - k) (fun k => k ≤ xs.length ∧ idxOf x xs = idxFrom x (xs.drop k) k) (fun k => [(8, some (.int .i64 (k : Int)))]) (fun k => [A, F]) 0 ?_ ?_ ?_ ?_
  · exact ⟨Nat.zero_le _, by simp [idxOf]⟩
  · exact ⟨rfl, trivial⟩
  · exact fun w s => Ent.kept .auto w s
  rintro k ⟨hk, hn⟩
  refine .s (.r (.p (.lss rfl rfl) (.n (.t (.s (.condD rfl (fun h9 => ?_) (fun h9 => ?_)))))))
  · refine .v (.t (.s (.b (.s (.r (.p (.m rfl) (.p (.a rfl) (.n (.t (.s (.r (.p (.m rfl) (.p (.m rfl) (.p (.m rfl) ?_))))))))))))))
    obtain ⟨y, hy⟩ := at_some (show k < xs.length by omega)
    refine .p (.ix _ rfl rfl rfl (by first | omega | decide)) ?_
    refine .p (.lr rfl ‹_›) ?_
    refine .p (.eql rfl rfl) (.n (.t (.condD rfl (fun h => ?_) (fun h => ?_))))
    · refine .s (.r (.p (.m rfl) (.p (.a rfl) (.n (.t (.e (.br (.tr (.tr (.br (.tr (.ret1 rfl rfl fun w s => ⟨(), ?_, trivial, finE .auto s⟩))))))))))))
      rw [hn, idx_hit hy h]
    · refine .v (.b (.t (.r ?_)))
      refine .p (.inc rfl rfl (by omega)) ?_
      refine .p (.m rfl) (.n ?_)
      refine .againK (k + 1) .auto rfl ?_ ?_ ?_ ?_
      · first | omega | (dsimp only; omega)
      · exact ⟨by omega, hn.trans (idx_miss hy h)⟩
      · exact ⟨rfl, trivial⟩
      · exact fun w s => Ent.kept .auto w s
  · refine .x (.tx (.tx (.bh (.t (.s (.r (.p (.a rfl) (.n (.t (.e (.ret1 rfl rfl fun w s => ⟨(), ?_, trivial, finE .auto s⟩)))))))))))
    rw [hn, idx_end (by omega)]

theorem ContainsI {W : World} {A : HProp} {v : Value} {xs : List Int} {x : Int} (hr : Rd W [A] intE 1 v xs) (hl : xs.length ≤ 1000000000) : Fn Tryz.prog W 108 [v, .int .i64 x] [A] Unit (fun _ => .bool (xs.contains x)) (fun _ => True) (fun _ => [A]) := by
  refine Fn.intro (N := 9) func108 rfl ntmps108 rfl fun F => ?_
  show GoC _ _ _ _ _ _ [A, F]
  refine .s (.r (.p (.a rfl) (.n (.t (.s (.r (.p (.m rfl) (.p (.m rfl) ?_))))))))
  refine .does rfl (Does.callE rfl call130 rfl (IndexI hr hl) .auto) ?_
  rintro _ _ ⟨⟨⟩, -, rfl, rfl⟩
  refine .p (.geq rfl rfl) (.p (.a rfl) (.n (.t (.e (.ret1 rfl rfl fun w s => ⟨(), ?_, trivial, finE .auto s⟩)))))
  rw [idxOf, idx_contains]

theorem GrowE {W : World} {n : Nat} (hn : n ≤ 1000000000) : Fn Tryz.prog W 73 [.slice none 0 0, .int .i64 (n : Int)] [] Value (fun u => u) (fun _ => True) (fun u => [sl evE 3 u ([] : List Ev)]) := by
  refine Fn.intro (N := 27) func73 rfl ntmps73 rfl fun F => ?_
  show GoC _ _ _ _ _ _ [F]
  refine .s (.r (.p (.a rfl) (.n (.t (.s (.s (.r (.p (.m rfl) (.p (.lss rfl rfl) (.n (.t (.condD rfl (fun h6 => ?_) (fun h6 => ?_)))))))))))))
  · omega
  · refine .v (.t (.s (.s (.r (.p (.m rfl) (.p (.m rfl) ?_))))))
    refine .p (.capSlice underlying43 rfl) ?_
    refine .p (.m rfl) (.p (.lens rfl) ?_)
    refine .p (.sub rfl rfl (by omega)) ?_
    refine .p (.sub rfl rfl (by omega)) ?_
    refine .p (.a rfl) (.n (.t (.s (.r (.p (.m rfl) (.p (.gtr rfl rfl) (.n (.t (.condD rfl (fun h16 => ?_) (fun h16 => ?_))))))))))
    · refine .r (.p (.m rfl) (.p (.m rfl) ?_))
      refine .p (.capSlice underlying43 rfl) ?_
      refine .p (.slice0X 0 underlying43 sizeOf49 rfl rfl rfl (Nat.le_refl _)) ?_
      refine .p (.m rfl) ?_
      refine .does rfl (Does.appendMake (enc := evE) (k := 3) ⟨0, 0, 0⟩ n rfl underlying43 underlying3 typeInfo49 rfl rfl rfl rfl (by decide) (by decide) rfl rfl (by omega) (by omega)) ?_
      rintro _ _ ⟨⟨b22, c22⟩, hc22, rfl, rfl⟩
      refine .p (.m rfl) (.p (.lens rfl) ?_)
      refine .p (.slice0X 0 underlying43 sizeOf49 rfl rfl rfl (Nat.zero_le _)) ?_
      refine .p (.a rfl) (.n (.t (.s (.r (.p (.m rfl) (.p (.a rfl) (.n (.t (.e ?_)))))))))
      refine .fr .auto (sl_shrink 0 (Nat.zero_le _)) ?_
      refine .ret1 rfl rfl fun w s => ⟨_, ?_, trivial, finE .auto s⟩
      rfl
    · refine .v (.t (.s (.r (.p (.m rfl) (.p (.a rfl) (.n (.t (.e ?_))))))))
      refine .to (A := sl evE 3 (.slice none 0 0) ([] : List Ev)) (Bs := []) .nil (fun h e => .inl ⟨⟨_, rfl⟩, rfl, e⟩) ?_
      refine .ret1 rfl rfl fun w s => ⟨_, ?_, trivial, finE .auto s⟩
      rfl

theorem ConcatE {W : World} {A : HProp} {v : Value} {qs : List (Value × List Ev)} (hr : Rd W [A] fstE 1 v qs) (hq : ∀ q ∈ qs, Rd W [A] evE 3 q.1 q.2) (hl : qs.length ≤ 1000000) (hs : (qs.flatMap (·.2)).length ≤ 1000000000) : Fn Tryz.prog W 53 [v] [A] Value (fun u => u) (fun _ => True) (fun u => [sl evE 3 u (qs.flatMap (·.2)), A]) := by
  refine Fn.intro (N := 36) func53 rfl ntmps53 rfl fun F => ?_
  haveI hRI : ∀ (H : List HProp) [HasH H A], ReadsC W H v fstE 1 qs := fun H h => ⟨hr.at h.has⟩
  show GoC _ _ _ _ _ _ [A, F]
  refine .s (.r (.p (.a rfl) (.n (.t (.s (.r (.p (.a rfl) (.n (.t (.s (.s (.r (.p (.m rfl) (.p (.len rfl) (.p (.m rfl) (.n (.t (.b ?_))))))))))))))))))
  refine .loopK (X := Nat) [3, 5, 11, 12, 13, 14, 15, 16, 17, 18, 19, 20, 21, 22] (fun k => qs.length - k) (fun k => k ≤ qs.length) (fun k => [(11, some (.int .i64 (k : Int))), (3, some (.int .i64 ((((qs.take k).flatMap (·.2)).length : Nat) : Int)))]) (fun k => [A, F]) 0 ?_ ?_ ?_ ?_
  · exact Nat.zero_le _
  · exact ⟨rfl, rfl, trivial⟩
  · exact fun w s => Ent.kept .auto w s
  rintro k hk
  refine .s (.r (.p (.lss rfl rfl) (.n (.t (.s (.condD rfl (fun h12 => ?_) (fun h12 => ?_)))))))
  · refine .v (.t (.s (.b (.s (.r ?_)))))
    obtain ⟨q, hx⟩ := at_some (show k < qs.length by omega)
    have hqr := hq q (List.mem_of_getElem? hx)
    have hRq : ∀ (H : List HProp) [HasH H A], ReadsC W H q.1 evE 3 q.2 := fun H h => ⟨hqr.at h.has⟩
    have hle := flat_le (f := fun q : Value × List Ev => q.2) qs (k + 1)
    rw [flat_snoc hx, List.length_append] at hle
    refine .p (.ix _ rfl rfl rfl (by first | omega | decide)) ?_
    refine .p (.lr rfl ‹_›) ?_
    refine .p (.a rfl) (.n (.t (.s (.r (.p (.m rfl) (.p (.m rfl) (.p (.len rfl) ?_)))))))
    refine .p (.add rfl rfl (by omega)) ?_
    refine .p (.a rfl) (.n (.t (.s (.r (.p (.m rfl) (.p (.lss rfl rfl) (.n (.t (.condD rfl (fun h20 => ?_) (fun h20 => ?_))))))))))
    · omega
    · refine .v (.b (.t (.r ?_)))
      refine .p (.inc rfl rfl (by omega)) ?_
      refine .p (.m rfl) (.n ?_)
      refine .againK (k + 1) .auto rfl ?_ ?_ ?_ ?_
      · first | omega | (dsimp only; omega)
      · omega
      · refine ⟨rfl, ?_, trivial⟩
        rw [flat_snoc hx, List.length_append, Int.natCast_add]; rfl
      · exact fun w s => Ent.kept .auto w s
  · refine .x (.tx (.tx (.bh (.t (.s (.r (.p (.m rfl) ?_)))))))
    obtain rfl : k = qs.length := by omega
    rw [List.take_length]
    refine .does rfl (Does.callE rfl call73 rfl (GrowE hs) .auto) ?_
    rintro _ _ ⟨u, -, rfl, rfl⟩
    refine .p (.a rfl) (.n (.t (.s (.s (.r (.p (.m rfl) (.p (.len rfl) (.p (.m rfl) (.n (.t (.b ?_)))))))))))
    refine .loopK (X := Nat × Value) [6, 8, 27, 28, 29, 30, 31, 32, 33, 34] (fun z => qs.length - z.1) (fun z => z.1 ≤ qs.length) (fun z => [(27, some (.int .i64 (z.1 : Int))), (6, some z.2)]) (fun z => [sl evE 3 z.2 ((qs.take z.1).flatMap (·.2)), A, F]) (0, u) ?_ ?_ ?_ ?_
    · exact Nat.zero_le _
    · exact ⟨rfl, rfl, trivial⟩
    · exact fun w s => Ent.kept .auto w s
    rintro ⟨k, u⟩ hk
    simp only at hk
    refine .s (.r (.p (.lss rfl rfl) (.n (.t (.s (.condD rfl (fun h28 => ?_) (fun h28 => ?_)))))))
    · refine .v (.t (.s (.b (.s (.r ?_)))))
      obtain ⟨q, hx⟩ := at_some (show k < qs.length by omega)
      have hqr := hq q (List.mem_of_getElem? hx)
      have hRq : ∀ (H : List HProp) [HasH H A], ReadsC W H q.1 evE 3 q.2 := fun H h => ⟨hqr.at h.has⟩
      have hle := flat_le (f := fun q : Value × List Ev => q.2) qs (k + 1)
      rw [flat_snoc hx, List.length_append] at hle
      refine .p (.ix _ rfl rfl rfl (by first | omega | decide)) ?_
      refine .p (.lr rfl ‹_›) ?_
      refine .p (.a rfl) (.n (.t (.r (.p (.m rfl) (.p (.m rfl) ?_)))))
      refine .does rfl (Does.append rfl underlying43 underlying43 typeInfo49 rfl rfl rfl (by decide) rfl rfl .auto Rd.s (by dsimp only; omega) (evE_one _)) ?_
      rintro _ _ ⟨v33, rfl, rfl⟩
      refine .p (.a rfl) (.n (.b (.t (.r ?_))))
      refine .p (.inc rfl rfl (by omega)) ?_
      refine .p (.m rfl) (.n ?_)
      refine .againK (k + 1, v33) .auto rfl ?_ ?_ ?_ ?_
      · show qs.length - (k + 1) < qs.length - k; omega
      · show k + 1 ≤ qs.length; omega
      · exact ⟨rfl, rfl, trivial⟩
      · show ∀ w, Sat _ w _ → Sat _ w (seps [sl evE 3 v33 ((qs.take (k + 1)).flatMap (·.2)), A, F])
        rw [flat_snoc hx]
        exact fun w s => Ent.kept .auto w s
    · refine .x (.tx (.tx (.bh (.t (.s (.r (.p (.m rfl) (.p (.a rfl) (.n (.t (.e ?_)))))))))))
      obtain rfl : k = qs.length := by omega
      rw [List.take_length]
      refine .ret1 rfl rfl fun w s => ⟨_, ?_, trivial, finE .auto s⟩
      rfl

theorem JoinE {W : World} {A : HProp} {va vb : Value} {xs ys : List Ev} (ha : Rd W [A] evE 3 va xs) (hb : Rd W [A] evE 3 vb ys) (hl : xs.length + ys.length ≤ 1000000000) : Fn Tryz.prog W 36 [va, vb] [A] Value (fun u => u) (fun _ => True) (fun u => [sl evE 3 u (xs ++ ys), A]) := by
  refine Fn.intro (N := 9) func36 rfl ntmps36 rfl fun F => ?_
  show GoC _ _ _ _ _ _ [A, F]
  refine .know (fun w s => Rd.shape (ha.at .here) w s) fun e => ?_
  obtain ⟨a1, c1, rfl⟩ := e
  refine .know (fun w s => Rd.shape (hb.at .here) w s) fun e => ?_
  obtain ⟨a2, c2, rfl⟩ := e
  refine .s (.r (.p (.a rfl) (.n (.t (.s (.r (.p (.m rfl) (.p (.m rfl) ?_))))))))
  refine .does rfl (Does.bsl 43 rfl rfl (by kernel_rfl)) ?_
  rintro _ _ ⟨b7, rfl, rfl⟩
  refine .does rfl (Does.callE rfl call53 rfl (ConcatE (A := seps [arr b7 0 [.slice a1 xs.length c1, .slice a2 ys.length c2], A]) (qs := [(.slice a1 xs.length c1, xs), (.slice a2 ys.length c2, ys)]) (Rd.grp (Rd.lit .here rfl (fun _ _ => rfl) rfl)) (by
      intro q hq
      simp only [List.mem_cons, List.not_mem_nil, or_false] at hq
      rcases hq with rfl | rfl
      · exact Rd.grp (Rd.at ha (.there .here))
      · exact Rd.grp (Rd.at hb (.there .here))) (by simp) (by simpa using hl)) .auto) ?_
  rintro _ _ ⟨u, -, rfl, rfl⟩
  rw [show [(Value.slice a1 xs.length c1, xs), (.slice a2 ys.length c2, ys)].flatMap (fun q : Value × List Ev => q.2) = xs ++ ys from by simp]
  refine .ungrp (by repeat (first | exact Take.here | apply Take.there)) ?_
  refine .p (.a rfl) (.n (.t (.e (.ret1 rfl rfl fun w s => ⟨_, ?_, trivial, finE .auto s⟩))))
  rfl

end Go.SLYtnceicnimongcaaGreat
