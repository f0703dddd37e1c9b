/- Walks of functions, and what they compute. Conditions: none, this text proves no statement. -/
import Derived.Test.YtpcjdohmjmeehaaGreatG07
import Derived.Test.YtpcjdohmjmeehaaGreatProg
import Derived.Shelf.Sort.Plain
import Derived.Shelf.Slices.In.SortNone
import Derived.Lib.SortBridge
import Derived.KernelRfl
import Derived.Test.YtpcjdohmjmeehaaGreatG06
namespace Go.SLYtpcjdohmjmeehaaGreat
open Go Go.RowKit

def dueOf (n : Int) (l : List MapEntry) : List Int := (l.filter fun e => decide ((entI e).2 ≤ n)).map fun e => (entI e).1
structure SeenOk (es seen : List MapEntry) : Prop where
  nd : (seen.map fun e => e.born).Nodup
  sub : ∀ e ∈ seen, e ∈ es
theorem SeenOk.zero (es : List MapEntry) : SeenOk es [] := ⟨.nil, fun e h => by cases h⟩
theorem SeenOk.len {es seen : List MapEntry} (h : SeenOk es seen) : seen.length ≤ es.length := by
  have := List.Nodup.length_le_of_subset (l₂ := es.map fun e => e.born) h.nd (fun b hb => by
    obtain ⟨e, he, rfl⟩ := List.mem_map.1 hb
    exact List.mem_map.2 ⟨e, h.sub e he, rfl⟩)
  simpa using this
theorem SeenOk.next {es seen : List MapEntry} (h : SeenOk es seen) {e : MapEntry} (he : e ∈ es) (hn : ¬ e.born ∈ seen.map (fun e => e.born)) : SeenOk es (seen ++ [e]) := by
  refine ⟨?_, fun x hx => ?_⟩
  · rw [List.map_append, List.nodup_append]
    refine ⟨h.nd, by simp, fun a ha b hb => ?_⟩
    simp only [List.map_cons, List.map_nil, List.mem_cons, List.not_mem_nil, or_false] at hb
    subst hb
    exact fun e' => hn (e' ▸ ha)
  · rcases List.mem_append.1 hx with hx | hx
    · exact h.sub x hx
    · simp only [List.mem_cons, List.not_mem_nil, or_false] at hx; subst hx; exact he
theorem nodup_of_map {α β : Type} {f : α → β} : ∀ {l : List α}, (l.map f).Nodup → l.Nodup
  | [], _ => .nil
  | x :: l, h => by
    simp only [List.map_cons, List.nodup_cons] at h
    exact List.nodup_cons.2 ⟨fun hx => h.1 (List.mem_map_of_mem hx), nodup_of_map h.2⟩
theorem SeenOk.all {es seen : List MapEntry} (h : SeenOk es seen) (hd : (es.map fun e => e.born).Nodup) (ha : ∀ e ∈ es, e.born ∈ seen.map (fun e => e.born)) : seen.Perm es := by
  refine (List.perm_ext_iff_of_nodup (nodup_of_map h.nd) (nodup_of_map hd)).2 fun e => ⟨h.sub e, fun he => ?_⟩
  obtain ⟨x, hx, hb⟩ := List.mem_map.1 (ha e he)
  have hxe := h.sub x hx
  clear ha h
  have : x = e := by
    induction es with
    | nil => cases he
    | cons y es ih =>
      simp only [List.map_cons, List.nodup_cons] at hd
      rcases List.mem_cons.1 he with h1 | h1
      · rcases List.mem_cons.1 hxe with h2 | h2
        · rw [h1, h2]
        · exact absurd (List.mem_map.2 ⟨x, h2, by rw [hb, h1]⟩) hd.1
      · rcases List.mem_cons.1 hxe with h2 | h2
        · exact absurd (List.mem_map.2 ⟨e, h1, by rw [← hb, h2]⟩) hd.1
        · exact ih hd.2 h1 h2
  rwa [← this]
end Go.SLYtpcjdohmjmeehaaGreat
namespace Go.SLYtpcjdohmjmeehaaGreat
open Go Go.RowKit Go.Proofs

end Go.SLYtpcjdohmjmeehaaGreat
namespace Go.Proofs
open Go.Shelf
def Tryz.lays189_ren : Go.Shelf.Ren := ⟨fun | 189 => 100 | 125 => 137 | 257 => 136 | 128 => 174 | 129 => 175 | 294 => 165 | 295 => 166 | 296 => 167 | 297 => 168 | 298 => 169 | 299 => 170 | 216 => 171 | 300 => 172 | 301 => 173 | 328 => 210 | 329 => 211 | 330 => 212 | 331 => 213 | 332 => 214 | 215 => 215 | 343 => 239 | n => n, fun | 28 => 23 | 3 => 3 | 46 => 239 | 0 => 0 | 51 => 272 | 53 => 43 | 4 => 4 | 183 => 266 | 182 => 265 | 131 => 245 | 5 => 5 | 9 => 9 | 218 => 306 | 222 => 309 | 228 => 328 | 229 => 329 | n => n, fun | n => n⟩
end Go.Proofs
namespace Go.SLYtpcjdohmjmeehaaGreat
open Go Go.RowKit Go.Sort Go.Proofs
end Go.SLYtpcjdohmjmeehaaGreat
namespace Go.SLYtpcjdohmjmeehaaGreat
open Go Go.RowKit Go.Proofs

set_option maxRecDepth 20000 in
theorem wheel_Sleep {W : World} {b : Nat} {w : Whl} {who n : Int} (hn : 0 ≤ w.now ∧ w.now ≤ 1099511627776) : Fn Tryz.prog W 164 [ptr b, .int .i64 who, .int .i64 n] [whlH b w] Unit (fun _ => .int .i64 (w.sleep who n).1) (fun _ => True) (fun _ => [whlH b (w.sleep who n).2]) := by
  refine Fn.intro (N := 38) Tryz.func164 rfl Tryz.ntmps164 rfl fun F => ?_
  show GoC _ _ _ _ _ _ [whlH b w, F]
  refine GoC.o1 (C := whlH b w) .auto rfl ?_
  rintro m -
  refine GoC.seq ?_
  refine GoC.region ?_
  refine GoL.y rfl (Y.assign rfl) ?_
  refine GoL.nil ?_
  refine GoE.then_normal ?_
  refine GoC.seq ?_
  refine GoC.block ?_
  refine GoC.seq ?_
  refine GoC.region ?_
  refine GoL.y rfl (Y.move rfl) ?_
  refine GoL.y rfl (Y.eqPtrNil Tryz.underlying112 rfl rfl) ?_
  refine GoL.y rfl (Y.move rfl) ?_
  refine GoL.yg rfl rfl rfl (Y.move rfl) ?_
  refine GoL.yg rfl rfl rfl (Y.lss rfl rfl) ?_
  refine GoL.y rfl (Y.pickF rfl rfl) ?_
  refine GoL.y rfl (Y.move rfl) ?_
  apply GoL.segOD 3 17 14 [14, 15, 16, 17] rfl
  · intro h14
    refine GoL.yg rfl rfl rfl (Y.move rfl) ?_
    refine GoL.yg rfl rfl rfl (Y.gtr rfl rfl) ?_
    refine GoL.y rfl (Y.pickF rfl rfl) ?_
    refine GoL.nil ?_
    refine GoE.seg .auto rfl (by first | exact fun _ h => h | exact Ent.kept .auto)
  · intro h14
    refine GoL.skip rfl rfl rfl rfl ?_
    refine GoL.skip rfl rfl rfl rfl ?_
    refine GoL.y rfl (Y.pickT rfl rfl) ?_
    refine GoL.nil ?_
    refine GoE.seg .auto rfl (by first | exact fun _ h => h | exact Ent.kept .auto)
  refine GoL.y rfl (Y.assign rfl) ?_
  refine GoL.nil ?_
  refine GoE.then_normal ?_
  refine GoC.cond rfl (fun h7 => ?_) (fun h7 => ?_)
  · refine GoC.seq ?_
    refine GoC.region ?_
    refine GoL.y rfl (Y.assign rfl) ?_
    refine GoL.nil ?_
    refine GoE.then_normal ?_
    refine GoC.ret ?_
    refine GoE.block_ret (GoE.then_ret ?_)
    rw [show w.sleep who n = (1, w) from by unfold Whl.sleep; rw [if_pos (by simpa using h7)]]
    refine GoE.ret1 rfl rfl fun w s => ⟨(), ?_, trivial, finE .auto s⟩
    rfl
  · refine GoC.seq ?_
    refine GoC.region ?_
    refine GoL.y rfl (Y.move rfl) ?_
    refine GoL.y rfl (Y.nilCheck rfl) ?_
    refine GoL.y rfl (Y.fieldAddr0 1 176 Tryz.underlying178 rfl Tryz.sizeOf176 rfl) ?_
    refine GoL.y rfl (Y.load Tryz.isAgg176 rfl (Cell.a (by rfl))) ?_
    refine GoL.y rfl (Y.move rfl) ?_
    refine GoL.y rfl (Y.lookI Tryz.underlying176 Tryz.underlying3 Tryz.zeroValue3 rfl rfl .auto) ?_
    refine GoL.y rfl (Y.gtr rfl rfl) ?_
    refine GoL.y rfl (Y.assign rfl) ?_
    refine GoL.nil ?_
    refine GoE.then_normal ?_
    refine GoC.condD rfl (fun h18 => ?_) (fun h18 => ?_)
    · refine GoC.seq ?_
      refine GoC.region ?_
      refine GoL.y rfl (Y.assign rfl) ?_
      refine GoL.nil ?_
      refine GoE.then_normal ?_
      refine GoC.ret ?_
      refine GoE.block_ret (GoE.then_ret ?_)
      rw [show w.sleep who n = (4, w) from by unfold Whl.sleep; rw [if_neg (by simpa using h7), if_pos h18]]
      refine GoE.ret1 rfl rfl fun w s => ⟨(), ?_, trivial, finE .auto s⟩
      rfl
    · refine GoC.skip ?_
      refine GoE.block_normal (GoE.then_normal ?_)
      refine GoC.seq ?_
      refine GoC.draw [] [1, 1, 1, 1, 1, 1, 1, 1, 1, 1, 1, 1, 3] rfl (by kernel_rfl) ?_
      simp only [Bool.or_eq_false_iff, decide_eq_false_iff_not] at h7
      refine GoK.s rfl (Y.move rfl) ?_
      refine GoK.s rfl (Y.nilCheck rfl) ?_
      refine GoK.s rfl (Y.fieldAddr0 1 176 Tryz.underlying178 rfl Tryz.sizeOf176 rfl) ?_
      refine GoK.s rfl (Y.load Tryz.isAgg176 rfl (Cell.a (by rfl))) ?_
      refine GoK.s rfl (Y.move rfl) ?_
      refine GoK.s rfl (Y.move rfl) ?_
      refine GoK.s rfl (Y.nilCheck rfl) ?_
      refine GoK.s rfl (Y.fieldAddrZ 3 Tryz.underlying178 rfl Tryz.sizeOf3 rfl) ?_
      refine GoK.s rfl (Y.load Tryz.isAgg3 rfl (Cell.a (by rfl))) ?_
      refine GoK.s rfl (Y.move rfl) ?_
      refine GoK.s rfl (Y.add rfl rfl (by omega)) ?_
      refine GoK.s rfl (Y.min2m rfl rfl) ?_
      refine GoK.d3 rfl (Does.mapSet Tryz.underlying176 Tryz.underlying3 rfl rfl rfl .auto) ?_
      rintro _ _ ⟨rfl, rfl⟩
      refine GoK.nil ?_
      refine GoE.then_normal ?_
      refine GoC.seq ?_
      refine GoC.region ?_
      refine GoL.y rfl (Y.assign rfl) ?_
      refine GoL.nil ?_
      refine GoE.then_normal ?_
      refine GoC.ret ?_
      rw [show w.sleep who n = (0, { w with till := mapSet w.till who (min (w.now + n) 1099511627776) }) from by unfold Whl.sleep; rw [if_neg (by omega), if_neg h18]]
      refine GoE.ret1 rfl rfl fun w s => ⟨(), ?_, trivial, finE .auto s⟩
      rfl

end Go.SLYtpcjdohmjmeehaaGreat
namespace Go.SLYtpcjdohmjmeehaaGreat
open Go Go.RowKit

theorem allH_out {α : Type} {f : α → HProp} {xs : List α} {i : Nat} {x : α} (h : xs[i]? = some x) : ∀ g, allH f xs g → seps [f x, allH f (xs.eraseIdx i)] g := fun g a => by rw [allH_get f h] at a; exact sep2.2 a
theorem tubs_in {v : Value} {l : List Tub} {xs : List (Nat × Tub)} {i : Nat} {x : Nat × Tub} (hx : xs[i]? = some x) (hxs : xs.map (·.2) = l) (u : Tub) : ∀ h, seps [sl ptrE 1 v xs, tubH x.1 u, allH (fun x : Nat × Tub => tubH x.1 x.2) (xs.eraseIdx i)] h → tubsH v (l.set i u) h := fun h a => by
  refine ⟨xs.set i (x.1, u), by show (xs.set i (x.1, u)).map (·.2) = _; rw [List.map_set, hxs], ?_⟩
  have hi := (List.getElem?_eq_some_iff.1 hx).1
  rw [sep2, allH_set _ _ hi]
  exact sep_mono (fun g b => unfocusH (x' := (x.1, u)) hi rfl g (focusH hx g b)) (fun g b => sep2.1 b) h a

theorem LiveAt.setT {ps : List (Option Nat)} {s : Spc} {n m : Nat} {t : Thr} (h : LiveAt ps s m) (ht : ThrR t) : LiveAt ps (s.setT n t) m := by
  obtain ⟨hm, q, u, hq, hu, hR⟩ := h
  rcases Decidable.em (n = m) with rfl | hne
  · exact ⟨hm, q, t, hq, setT_same hu, ht⟩
  · exact ⟨hm, q, u, hq, setT_thr hu hne, hR⟩
theorem LiveAt.of {ps : List (Option Nat)} {s s' : Spc} {m : Nat} (h : LiveAt ps s m) (e : s'.thr = s.thr) : LiveAt ps s' m := by
  obtain ⟨hm, q, u, hq, hu, hR⟩ := h
  exact ⟨hm, q, u, hq, by rw [e]; exact hu, hR⟩
theorem getD_set_all {l : List Int} {i n : Nat} {x : Int} (hx : 0 ≤ x ∧ x ≤ 18446744073709551615) (h : ∀ n, 0 ≤ l.getD n 0 ∧ l.getD n 0 ≤ 18446744073709551615) : 0 ≤ (l.set i x).getD n 0 ∧ (l.set i x).getD n 0 ≤ 18446744073709551615 := by
  have hn := h n
  rw [List.getD_eq_getElem?_getD] at hn ⊢
  rw [List.getElem?_set]
  split
  · split
    · exact hx
    · exact ⟨Int.le_refl _, by decide⟩
  · exact hn
theorem ThrR.put {t : Thr} (h : ThrR t) {i x : Int} (hx : 0 ≤ x ∧ x ≤ 18446744073709551615) : ThrR (t.put i x) := ⟨by rw [put_len]; exact h.l, fun n => getD_set_all hx h.r, h.i, h.v, h.h⟩
theorem ThrR.with {t : Thr} (h : ThrR t) {a b c : Int} (hc : -1 ≤ c ∧ c < 8) : ThrR { t with why := a, op := b, into := c } := ⟨h.l, h.r, hc, h.v, h.h⟩

/-- Who waits for something of the gates. -/
def Gates.has (g : Gates) (w : Int) : Prop := (∃ x ∈ g.mtx, ∃ y ∈ x.wait, y.who = w) ∨ (∃ r ∈ g.cnd, ∃ y ∈ r, y.who = w) ∨ (∃ x ∈ g.sem, ∃ y ∈ x.wait, y.who = w)
structure CallOk (ps : List (Option Nat)) (d : Dng) (t : Thr) : Prop where
  nb : d.n < 16
  R : ThrR t
  lt : d.s.thr.length = 16
  lp : ps.length = 16
  T : TakeOk d.s.table
  slot : ∀ h m, slotFind d.s.table h = some m → LiveAt ps d.s m
  free : ∀ n, slotFree? d.s.table 0 = some n → d.s.thr[n]? = some none
  join : ¬ t.joiner = -1 → 0 ≤ t.joiner ∧ t.joiner.toNat ≠ d.n ∧ LiveAt ps d.s t.joiner.toNat
  I : InsOk d.i
  nn : d.i.n ≤ 1099511627776
  recs : d.s.recs.length ≤ 90000000
  ends : d.ends.length ≤ 500000
  wok : d.out.woken.length ≤ 500000
  mem : d.s.mem.length ≤ 1000000
  gl : GatesLen d.s.gates
  gsem : ∀ x ∈ d.s.gates.sem, 0 ≤ x.count ∧ x.count ≤ 1048576
  gcnd : ∀ r ∈ d.s.gates.cnd, ∀ w ∈ r, 0 ≤ w.mutex ∧ w.mutex < (d.s.gates.mtx.length : Int)
  glive : ∀ w, d.s.gates.has w → 0 ≤ w ∧ LiveAt ps d.s w.toNat
  gsum : d.s.prg.mutexes ≤ (d.s.gates.mtx.length : Int)
  gsm : (∀ x ∈ d.s.gates.mtx, x.wait.length ≤ 400000) ∧ ∀ r ∈ d.s.gates.cnd, r.length ≤ 400000
  tub : (d.i.op = 35 ∨ d.i.op = 36) → d.i.n < (d.s.tubes.length : Int)
  tl : ∀ u ∈ d.s.tubes, TubLen u
  tlive : ∀ u ∈ d.s.tubes, (∀ w ∈ u.gets, 0 ≤ w ∧ LiveAt ps d.s w.toNat) ∧ (∀ x ∈ u.puts, 0 ≤ x.who ∧ LiveAt ps d.s x.who.toNat)
  tw : ∀ u ∈ d.s.tubes, ∀ w ∈ u.words, 0 ≤ w ∧ w ≤ 18446744073709551615
  dw : d.s.disk.wait.length ≤ 1000000
  wn : 0 ≤ d.s.wheel.now ∧ d.s.wheel.now ≤ 1099511627776

theorem other_zero {ps : List (Option Nat)} {d : Dng} {h : Int} (hs : ∀ n, slotFind d.s.table h = some n → LiveAt ps d.s n) (e : (d.other h).2 = 0) :
    ∃ m q u, slotFind d.s.table h = some m ∧ (d.other h).1 = m ∧ m ≠ d.n ∧ m < 16 ∧ ps[m]? = some (some q) ∧ d.s.thr[m]? = some (some u) ∧ ThrR u ∧ u.detached = false ∧ u.joiner = -1 := by
  cases hf : slotFind d.s.table h with
  | none => rw [other_no hf] at e; cases e
  | some m =>
    obtain ⟨hm, q, u, hq, hu, hR⟩ := hs m hf
    by_cases h1 : m = d.n ∨ u.detached = true
    · rw [other_self hf hu h1] at e; cases e
    · by_cases h2 : u.joiner = -1
      · exact ⟨m, q, u, rfl, by rw [other_ok hf hu h1 h2], fun h => h1 (.inl h), hm, hq, hu, hR, by cases hd : u.detached with | false => rfl | true => exact absurd (.inr hd) h1, h2⟩
      · rw [other_join hf hu h1 h2] at e; cases e
theorem other_bd {d : Dng} {h : Int} : 0 ≤ (d.other h).2 ∧ (d.other h).2 ≤ 11 := by
  unfold Dng.other
  repeat' split
  all_goals (dsimp only; omega)
theorem ask_bd {d : Dsk} {r : Rqs} : 0 ≤ (d.ask r).1 ∧ (d.ask r).1 ≤ 11 := by
  unfold Dsk.ask
  repeat' split
  all_goals (dsimp only; omega)
theorem lock_bd {g : Gates} {w m : Int} : 0 ≤ (g.lock w m).2.1 ∧ (g.lock w m).2.1 ≤ 11 := by
  unfold Gates.lock
  repeat' split
  all_goals (dsimp only; omega)
theorem unlock_bd {g : Gates} {w m c : Int} : 0 ≤ (g.unlock w m c).2.2.1 ∧ (g.unlock w m c).2.2.1 ≤ 11 := by
  unfold Gates.unlock
  repeat' split
  all_goals (dsimp only; omega)
theorem wait_bd {g : Gates} {w c m ch : Int} : 0 ≤ (g.wait w c m ch).2.2.1 ∧ (g.wait w c m ch).2.2.1 ≤ 11 := by
  unfold Gates.wait
  repeat' split
  all_goals (dsimp only; omega)
theorem up_bd {g : Gates} {s c : Int} : 0 ≤ (g.up s c).2.2.1 ∧ (g.up s c).2.2.1 ≤ 11 := by
  unfold Gates.up
  repeat' split
  all_goals (dsimp only; omega)
theorem down_bd {g : Gates} {w s : Int} : 0 ≤ (g.down w s).2.1 ∧ (g.down w s).2.1 ≤ 11 := by
  unfold Gates.down
  repeat' split
  all_goals (dsimp only; omega)
theorem signal_bd {g : Gates} {c ch : Int} {a : Bool} : 0 ≤ (g.signal c ch a).2.1 ∧ (g.signal c ch a).2.1 ≤ 11 := by
  unfold Gates.signal
  repeat' split
  all_goals (dsimp only; omega)
theorem takeW_mem {l : List Wtr} {c : Int} (h : (takeW l c).2.1 = true) : (takeW l c).1 ∈ l := by
  by_cases h0 : l.length = 0
  · rw [take_no h0] at h; cases h
  · exact (take_mem h0).1
theorem unlock_has {g : Gates} {w m c : Int} (h : (g.unlock w m c).2.1 = true) : g.has (g.unlock w m c).1 := by
  unfold Gates.unlock at h ⊢
  split
  · rename_i e; rw [e] at h; cases h
  · rename_i x e
    rw [e] at h; simp only at h ⊢
    split
    · rename_i hi; rw [if_pos hi] at h
      exact .inl ⟨x, List.mem_of_getElem? (geti_of e).2.2, _, takeW_mem h, rfl⟩
    · rename_i hi; rw [if_neg hi] at h; cases h
theorem wait_has {g : Gates} {w c m ch : Int} (h : (g.wait w c m ch).2.1 = true) : g.has (g.wait w c m ch).1 := by
  unfold Gates.wait at h ⊢
  split
  · rename_i x r e1 e2
    rw [e1, e2] at h; simp only at h ⊢
    repeat' split at h
    all_goals first | (cases h; done) | skip
    rename_i h1 h2
    rw [if_neg h1, if_pos h2]
    exact .inl ⟨x, List.mem_of_getElem? (geti_of e1).2.2, _, takeW_mem h, rfl⟩
  · rename_i hn
    split at h
    · rename_i x r e1 e2; exact absurd e2 (hn x r e1)
    · cases h
theorem up_has {g : Gates} {s c : Int} (h : (g.up s c).2.1 = true) : g.has (g.up s c).1 := by
  unfold Gates.up at h ⊢
  split
  · rename_i e; rw [e] at h; cases h
  · rename_i x e
    rw [e] at h; simp only at h ⊢
    split
    · rename_i hi
      exact .inr (.inr ⟨x, List.mem_of_getElem? (geti_of e).2.2, _, takeW_mem hi, rfl⟩)
    · rename_i hi; rw [if_neg hi] at h
      split at h <;> cases h
end Go.SLYtpcjdohmjmeehaaGreat
namespace Go.SLYtpcjdohmjmeehaaGreat
open Go Go.RowKit Go.Proofs

set_option maxRecDepth 20000 in
theorem dng_other {W : World} {bd b p : Nat} {ps : List (Option Nat)} {d : Dng} {h : Int} (h0 : 0 ≤ h) (hT : TakeOk d.s.table) (hs : ∀ n, slotFind d.s.table h = some n → LiveAt ps d.s n) : Fn Tryz.prog W 120 [ptr bd, .int .u64 h] [dngX bd b p ps d] Unit (fun _ => .tuple #[.int .i64 (((d.other h).1 : Nat) : Int), .int .i64 (d.other h).2]) (fun _ => True) (fun _ => [dngX bd b p ps d]) := by
  refine Fn.intro (N := 60) Tryz.func120 rfl Tryz.ntmps120 rfl fun F => ?_
  show GoC _ _ _ _ _ _ [dngX bd b p ps d, F]
  refine GoC.o2 (C := dngX bd b p ps d) .auto rfl ?_
  rintro vw ve -
  refine GoC.o10 (C := spcX b ps d.s) .auto rfl ?_
  rintro fv sv pv bt vm bg vt bk bw vr -
  refine GoC.seq ?_
  refine GoC.region ?_
  refine GoL.y rfl (Y.assign rfl) ?_
  refine GoL.y rfl (Y.assign rfl) ?_
  refine GoL.nil ?_
  refine GoE.then_normal ?_
  refine GoC.seq ?_
  refine GoC.region ?_
  refine GoL.y rfl (Y.move rfl) ?_
  refine GoL.y rfl (Y.nilCheck rfl) ?_
  refine GoL.y rfl (Y.fieldAddrZ 27 Tryz.underlying138 rfl Tryz.sizeOf27 rfl) ?_
  refine GoL.y rfl (Y.load Tryz.isAgg27 rfl (Cell.a (by rfl))) ?_
  refine GoL.y rfl (Y.nilCheck rfl) ?_
  refine GoL.y rfl (Y.fieldAddr0 8 106 Tryz.underlying118 rfl Tryz.sizeOf106 rfl) ?_
  refine GoL.y rfl (Y.load Tryz.isAgg106 rfl (Cell.a (by rfl))) ?_
  refine GoL.y rfl (Y.move rfl) ?_
  refine GoL.does rfl (Does.callE rfl Tryz.call148 rfl (slot_Find hT h0) .auto) ?_
  rintro _ _ ⟨⟨⟩, -, rfl, rfl⟩
  refine GoL.y rfl (Y.move rfl) ?_
  refine GoL.y rfl (Y.extract (v := .int .i64 (((slotFind d.s.table h).getD 0 : Nat) : Int)) rfl rfl) ?_
  refine GoL.y rfl (Y.extract (v := .bool (slotFind d.s.table h).isSome) rfl rfl) ?_
  refine GoL.y rfl (Y.assign rfl) ?_
  refine GoL.y rfl (Y.assign rfl) ?_
  refine GoL.nil ?_
  refine GoE.then_normal ?_
  refine GoC.seq ?_
  refine GoC.block ?_
  refine GoC.seq ?_
  refine GoC.region ?_
  obtain ⟨m, hm⟩ : ∃ m, m = (slotFind d.s.table h).getD 0 := ⟨_, rfl⟩
  rw [← hm]
  refine GoL.y rfl (Y.move rfl) ?_
  refine GoL.y rfl (Y.not rfl) ?_
  refine GoL.y rfl (Y.move rfl) ?_
  refine GoL.part (t := 23) rfl (fun h23 => ?_) (fun h23 => ?_)
  · refine GoL.skip rfl rfl rfl rfl ?_
    refine GoL.skip rfl rfl rfl rfl ?_
    refine GoL.skip rfl rfl rfl rfl ?_
    refine GoL.skip rfl rfl rfl rfl ?_
    refine GoL.skip rfl rfl rfl rfl ?_
    refine GoL.skip rfl rfl rfl rfl ?_
    refine GoL.y rfl (Y.pickT rfl rfl) ?_
    refine GoL.y rfl (Y.move rfl) ?_
    refine GoL.skip rfl rfl rfl rfl ?_
    refine GoL.skip rfl rfl rfl rfl ?_
    refine GoL.skip rfl rfl rfl rfl ?_
    refine GoL.skip rfl rfl rfl rfl ?_
    refine GoL.skip rfl rfl rfl rfl ?_
    refine GoL.skip rfl rfl rfl rfl ?_
    refine GoL.skip rfl rfl rfl rfl ?_
    refine GoL.skip rfl rfl rfl rfl ?_
    refine GoL.skip rfl rfl rfl rfl ?_
    refine GoL.skip rfl rfl rfl rfl ?_
    refine GoL.skip rfl rfl rfl rfl ?_
    refine GoL.skip rfl rfl rfl rfl ?_
    refine GoL.y rfl (Y.pickT rfl rfl) ?_
    refine GoL.y rfl (Y.assign rfl) ?_
    refine GoL.nil ?_
    refine GoE.then_normal ?_
    refine GoC.condT rfl ?_
    refine GoC.seq ?_
    refine GoC.region ?_
    refine GoL.y rfl (Y.assign rfl) ?_
    refine GoL.y rfl (Y.assign rfl) ?_
    refine GoL.nil ?_
    refine GoE.then_normal ?_
    refine GoC.ret ?_
    refine GoE.block_ret (GoE.then_ret ?_)
    rw [other_no (Option.isNone_iff_eq_none.mp (by simpa using h23))]
    refine GoE.ret2 rfl rfl rfl fun w s => ⟨(), ?_, trivial, finE .auto s⟩
    rfl
  · obtain ⟨n, hf⟩ : ∃ n, slotFind d.s.table h = some n := Option.isSome_iff_exists.mp (by simpa using h23)
    obtain rfl : m = n := by rw [hm, hf]; rfl
    obtain ⟨hm16, q, u, hq, hu, hR⟩ := hs m hf
    refine GoL.fr .auto (thrs_out hq hu) ?_
    refine GoL.yg rfl rfl rfl (Y.move rfl) ?_
    refine GoL.yg rfl rfl rfl (Y.move rfl) ?_
    refine GoL.yg rfl rfl rfl (Y.nilCheck rfl) ?_
    refine GoL.yg rfl rfl rfl (Y.fieldAddr0 1 3 Tryz.underlying138 rfl Tryz.sizeOf3 rfl) ?_
    refine GoL.yg rfl rfl rfl (Y.load Tryz.isAgg3 rfl (Cell.a (by rfl))) ?_
    refine GoL.yg rfl rfl rfl (Y.eql rfl rfl) ?_
    refine GoL.y rfl (Y.pickF rfl rfl) ?_
    refine GoL.y rfl (Y.move rfl) ?_
    refine GoL.partD (t := 31) rfl (fun h31 => ?_) (fun h31 => ?_)
    · refine GoL.skip rfl rfl rfl rfl ?_
      refine GoL.skip rfl rfl rfl rfl ?_
      refine GoL.skip rfl rfl rfl rfl ?_
      refine GoL.skip rfl rfl rfl rfl ?_
      refine GoL.skip rfl rfl rfl rfl ?_
      refine GoL.skip rfl rfl rfl rfl ?_
      refine GoL.skip rfl rfl rfl rfl ?_
      refine GoL.skip rfl rfl rfl rfl ?_
      refine GoL.skip rfl rfl rfl rfl ?_
      refine GoL.skip rfl rfl rfl rfl ?_
      refine GoL.skip rfl rfl rfl rfl ?_
      refine GoL.skip rfl rfl rfl rfl ?_
      refine GoL.y rfl (Y.pickT rfl rfl) ?_
      refine GoL.y rfl (Y.assign rfl) ?_
      refine GoL.nil ?_
      refine GoE.then_normal ?_
      refine GoC.condT rfl ?_
      refine GoC.seq ?_
      refine GoC.region ?_
      refine GoL.y rfl (Y.assign rfl) ?_
      refine GoL.y rfl (Y.assign rfl) ?_
      refine GoL.nil ?_
      refine GoE.then_normal ?_
      refine GoC.ret ?_
      refine GoE.block_ret (GoE.then_ret ?_)
      refine GoE.to (A := thrsH ps d.s.thr) (Bs := [arr q 0 (thrC u), thrsH (ps.set m none) (d.s.thr.set m none)]) .auto (thrs_keep hq hu) ?_
      rw [other_self hf hu (.inl (Int.ofNat_inj.mp h31))]
      refine GoE.ret2 rfl rfl rfl fun w s => ⟨(), ?_, trivial, finE .auto s⟩
      rfl
    · refine GoL.yg rfl rfl rfl (Y.move rfl) ?_
      refine GoL.yg rfl rfl rfl (Y.nilCheck rfl) ?_
      refine GoL.yg rfl rfl rfl (Y.fieldAddrZ 27 Tryz.underlying138 rfl Tryz.sizeOf27 rfl) ?_
      refine GoL.yg rfl rfl rfl (Y.load Tryz.isAgg27 rfl (Cell.a (by rfl))) ?_
      refine GoL.yg rfl rfl rfl (Y.move rfl) ?_
      refine GoL.yg rfl rfl rfl (Y.nilCheck rfl) ?_
      refine GoL.yg rfl rfl rfl (Y.fieldAddr0 9 115 Tryz.underlying118 rfl Tryz.sizeOf115 rfl) ?_
      refine GoL.yg rfl rfl rfl (Y.ixArr m Tryz.underlying115 Tryz.sizeOf114 rfl rfl rfl hm16) ?_
      refine GoL.yg rfl rfl rfl (Y.load Tryz.isAgg114 rfl (Cell.a (by rw [Nat.mul_one, spcC_get hm16, getD_of hq]))) ?_
      refine GoL.yg rfl rfl rfl (Y.nilCheck rfl) ?_
      refine GoL.yg rfl rfl rfl (Y.fieldAddr0 13 4 Tryz.underlying133 rfl Tryz.sizeOf4 rfl) ?_
      refine GoL.yg rfl rfl rfl (Y.load Tryz.isAgg4 rfl (Cell.a (by rfl))) ?_
      refine GoL.y rfl (Y.pickF rfl rfl) ?_
      refine GoL.y rfl (Y.assign rfl) ?_
      refine GoL.nil ?_
      refine GoE.then_normal ?_
      refine GoC.cond rfl (fun h20 => ?_) (fun h20 => ?_)
      · refine GoC.seq ?_
        refine GoC.region ?_
        refine GoL.y rfl (Y.assign rfl) ?_
        refine GoL.y rfl (Y.assign rfl) ?_
        refine GoL.nil ?_
        refine GoE.then_normal ?_
        refine GoC.ret ?_
        refine GoE.block_ret (GoE.then_ret ?_)
        refine GoE.to (A := thrsH ps d.s.thr) (Bs := [arr q 0 (thrC u), thrsH (ps.set m none) (d.s.thr.set m none)]) .auto (thrs_keep hq hu) ?_
        rw [other_self hf hu (.inr h20)]
        refine GoE.ret2 rfl rfl rfl fun w s => ⟨(), ?_, trivial, finE .auto s⟩
        rfl
      · have hno : ¬ (m = d.n ∨ u.detached = true) := fun hh => hh.elim (fun e => h31 (Int.ofNat_inj.mpr e)) (fun e => by rw [h20] at e; cases e)
        refine GoC.seq ?_
        refine GoC.region ?_
        refine GoL.y rfl (Y.move rfl) ?_
        refine GoL.y rfl (Y.nilCheck rfl) ?_
        refine GoL.y rfl (Y.fieldAddrZ 27 Tryz.underlying138 rfl Tryz.sizeOf27 rfl) ?_
        refine GoL.y rfl (Y.load Tryz.isAgg27 rfl (Cell.a (by rfl))) ?_
        refine GoL.y rfl (Y.move rfl) ?_
        refine GoL.y rfl (Y.nilCheck rfl) ?_
        refine GoL.y rfl (Y.fieldAddr0 9 115 Tryz.underlying118 rfl Tryz.sizeOf115 rfl) ?_
        refine GoL.y rfl (Y.ixArr m Tryz.underlying115 Tryz.sizeOf114 rfl rfl rfl hm16) ?_
        refine GoL.y rfl (Y.load Tryz.isAgg114 rfl (Cell.a (by rw [Nat.mul_one, spcC_get hm16, getD_of hq]))) ?_
        refine GoL.y rfl (Y.nilCheck rfl) ?_
        refine GoL.y rfl (Y.fieldAddr0 14 3 Tryz.underlying133 rfl Tryz.sizeOf3 rfl) ?_
        refine GoL.y rfl (Y.load Tryz.isAgg3 rfl (Cell.a (by rfl))) ?_
        refine GoL.y rfl (Y.neq rfl rfl) ?_
        refine GoL.y rfl (Y.assign rfl) ?_
        refine GoL.nil ?_
        refine GoE.then_normal ?_
        refine GoC.condD rfl (fun h45 => ?_) (fun h45 => ?_)
        · refine GoC.seq ?_
          refine GoC.region ?_
          refine GoL.y rfl (Y.assign rfl) ?_
          refine GoL.y rfl (Y.assign rfl) ?_
          refine GoL.nil ?_
          refine GoE.then_normal ?_
          refine GoC.ret ?_
          refine GoE.block_ret (GoE.then_ret ?_)
          refine GoE.to (A := thrsH ps d.s.thr) (Bs := [arr q 0 (thrC u), thrsH (ps.set m none) (d.s.thr.set m none)]) .auto (thrs_keep hq hu) ?_
          rw [other_join hf hu hno h45]
          refine GoE.ret2 rfl rfl rfl fun w s => ⟨(), ?_, trivial, finE .auto s⟩
          rfl
        · refine GoC.skip ?_
          refine GoE.block_normal (GoE.then_normal ?_)
          refine GoC.seq ?_
          refine GoC.region ?_
          refine GoL.y rfl (Y.move rfl) ?_
          refine GoL.y rfl (Y.assign rfl) ?_
          refine GoL.y rfl (Y.assign rfl) ?_
          refine GoL.nil ?_
          refine GoE.then_normal ?_
          refine GoC.ret ?_
          refine GoE.to (A := thrsH ps d.s.thr) (Bs := [arr q 0 (thrC u), thrsH (ps.set m none) (d.s.thr.set m none)]) .auto (thrs_keep hq hu) ?_
          rw [other_ok hf hu hno (Decidable.byContradiction h45)]
          refine GoE.ret2 rfl rfl rfl fun w s => ⟨(), ?_, trivial, finE .auto s⟩
          rfl

set_option maxRecDepth 20000 in
theorem dng_detach {W : World} {bd b p : Nat} {ps : List (Option Nat)} {d : Dng} {t : Thr} (hp : ps[d.n]? = some (some p)) (ht : d.s.thr[d.n]? = some (some t)) (hk : CallOk ps d t) : Fn Tryz.prog W 91 [ptr bd] [dngX bd b p ps d] (List (Option Nat)) (fun _ => .tuple #[]) (fun _ => True) (fun qs => [dngX bd b p qs d.detach]) := by
  refine Fn.intro (N := 51) Tryz.func91 rfl Tryz.ntmps91 rfl fun F => ?_
  show GoC _ _ _ _ _ _ [dngX bd b p ps d, F]
  refine GoC.seq ?_
  refine GoC.region ?_
  refine GoL.y rfl (Y.move rfl) ?_
  refine GoL.does rfl (Does.callE rfl Tryz.call92 rfl (dng_a hp ht hk.I.a) .auto) ?_
  rintro _ _ ⟨⟨⟩, -, rfl, rfl⟩
  have hx0 : 0 ≤ d.a := by
    unfold Dng.a; rw [dng_t ht]; exact (hk.R.r _).1
  obtain ⟨x, hx⟩ : ∃ x, x = d.a := ⟨_, rfl⟩
  rw [← hx]
  rw [← hx] at hx0
  refine GoL.y rfl (Y.assign rfl) ?_
  refine GoL.nil ?_
  refine GoE.then_normal ?_
  refine GoC.seq ?_
  refine GoC.region ?_
  refine GoL.y rfl (Y.move rfl) ?_
  refine GoL.y rfl (Y.move rfl) ?_
  refine GoL.does rfl (Does.callE rfl Tryz.call120 rfl (dng_other hx0 hk.T (hk.slot x)) .auto) ?_
  rintro _ _ ⟨⟨⟩, -, rfl, rfl⟩
  refine GoL.y rfl (Y.move rfl) ?_
  refine GoL.y rfl (Y.extract (v := .int .i64 (((d.other x).1 : Nat) : Int)) rfl rfl) ?_
  refine GoL.y rfl (Y.extract (v := .int .i64 (d.other x).2) rfl rfl) ?_
  refine GoL.y rfl (Y.assign rfl) ?_
  refine GoL.y rfl (Y.assign rfl) ?_
  refine GoL.nil ?_
  refine GoE.then_normal ?_
  refine GoC.seq ?_
  refine GoC.block ?_
  refine GoC.seq ?_
  refine GoC.region ?_
  refine GoL.y rfl (Y.move rfl) ?_
  refine GoL.y rfl (Y.neq rfl rfl) ?_
  refine GoL.y rfl (Y.assign rfl) ?_
  refine GoL.nil ?_
  refine GoE.then_normal ?_
  refine GoC.condD rfl (fun h24 => ?_) (fun h24 => ?_)
  · refine GoC.skip ?_
    refine GoE.block_normal (GoE.then_normal ?_)
    refine GoC.region ?_
    refine GoL.y rfl (Y.move rfl) ?_
    refine GoL.y rfl (Y.move rfl) ?_
    refine GoL.y rfl (Y.move rfl) ?_
    refine GoL.does rfl (Does.callE rfl Tryz.call89 rfl (dng_pass hp ht (Nat.le_trans hk.recs (by decide)) other_bd hk.R.l) .auto) ?_
    rintro _ _ ⟨⟨⟩, -, rfl, rfl⟩
    refine GoL.nil ?_
    rw [show d.detach = d.pass x 0 (d.other x).2 from by unfold Dng.detach; rw [← hx]; simp only; rw [if_pos h24]]
    refine GoE.end0 rfl fun w s => ⟨ps, ?_, trivial, finE .auto s⟩
    rfl
  · have hz : (d.other x).2 = 0 := Decidable.byContradiction h24
    obtain ⟨m, q, u, hf, ho1, hmn, hm16, hq, hu, hRu, hdt, hjo⟩ := other_zero (hk.slot x) hz
    rw [ho1, hz]
    refine GoC.seq ?_
    refine GoC.region ?_
    refine GoL.o2 (C := dngX bd b p ps (d)) .auto rfl ?_
    rintro vw ve -
    refine GoL.o10 (C := spcX b ps (d).s) .auto rfl ?_
    rintro fv sv pv bt vm bg vt bk bw vr -
    refine GoL.fr .auto (thrs_out hq hu) ?_
    refine GoL.y rfl (Y.move rfl) ?_
    refine GoL.y rfl (Y.nilCheck rfl) ?_
    refine GoL.y rfl (Y.fieldAddrZ 27 Tryz.underlying138 rfl Tryz.sizeOf27 rfl) ?_
    refine GoL.y rfl (Y.load Tryz.isAgg27 rfl (Cell.a (by rfl))) ?_
    refine GoL.y rfl (Y.move rfl) ?_
    refine GoL.y rfl (Y.nilCheck rfl) ?_
    refine GoL.y rfl (Y.fieldAddr0 9 115 Tryz.underlying118 rfl Tryz.sizeOf115 rfl) ?_
    refine GoL.y rfl (Y.ixArr m Tryz.underlying115 Tryz.sizeOf114 rfl rfl rfl hm16) ?_
    refine GoL.y rfl (Y.load Tryz.isAgg114 rfl (Cell.a (by rw [Nat.mul_one, spcC_get hm16, getD_of hq]))) ?_
    refine GoL.y rfl (Y.nilCheck rfl) ?_
    refine GoL.y rfl (Y.fieldAddr0 11 3 Tryz.underlying133 rfl Tryz.sizeOf3 rfl) ?_
    refine GoL.y rfl (Y.load Tryz.isAgg3 rfl (Cell.a (by rfl))) ?_
    refine GoL.y rfl (Y.eql rfl rfl) ?_
    refine GoL.y rfl (Y.assign rfl) ?_
    refine GoL.nil ?_
    refine GoE.then_normal ?_
    refine GoC.condD rfl (fun h27 => ?_) (fun h27 => ?_)
    · refine GoC.region ?_
      refine GoL.to (A := thrsH ps d.s.thr) (Bs := [arr q 0 (thrC u), thrsH (ps.set m none) (d.s.thr.set m none)]) .auto (thrs_keep hq hu) ?_
      refine GoL.y rfl (Y.move rfl) ?_
      refine GoL.y rfl (Y.nilCheck rfl) ?_
      refine GoL.y rfl (Y.fieldAddrZ 27 Tryz.underlying138 rfl Tryz.sizeOf27 rfl) ?_
      refine GoL.y rfl (Y.load Tryz.isAgg27 rfl (Cell.a (by rfl))) ?_
      refine GoL.y rfl (Y.move rfl) ?_
      refine GoL.does rfl (Does.callE rfl Tryz.call85 rfl (core_free (s := d.s) hq hu hk.lt hk.lp hk.T hRu.h.1) .auto) ?_
      rintro _ _ ⟨⟨⟩, -, rfl, rfl⟩
      refine GoL.nil ?_
      refine GoE.block_normal (GoE.then_normal ?_)
      refine GoC.region ?_
      refine GoL.y rfl (Y.move rfl) ?_
      refine GoL.y rfl (Y.move rfl) ?_
      refine GoL.y rfl (Y.move rfl) ?_
      refine GoL.does rfl (Does.callE rfl Tryz.call89 rfl (dng_pass (d := d.free m) (ps := ps.set m none) (p := p) (t := t) (by show (ps.set m none)[d.n]? = _; rw [List.getElem?_set_ne hmn]; exact hp) (by show (d.s.thr.set m none)[d.n]? = _; rw [List.getElem?_set_ne hmn]; exact ht) (Nat.le_trans hk.recs (by decide)) (by decide) hk.R.l) .auto) ?_
      rintro _ _ ⟨⟨⟩, -, rfl, rfl⟩
      refine GoL.nil ?_
      rw [show d.detach = (d.free m).pass x 0 0 from by unfold Dng.detach; rw [← hx]; simp only; rw [if_neg (by rw [hz]; simp), ho1, spc_t hu, if_pos h27]]
      refine GoE.end0 rfl fun w s => ⟨ps.set m none, ?_, trivial, finE .auto s⟩
      rfl
    · refine GoC.region ?_
      refine GoL.y rfl (Y.move rfl) ?_
      refine GoL.y rfl (Y.nilCheck rfl) ?_
      refine GoL.y rfl (Y.fieldAddrZ 27 Tryz.underlying138 rfl Tryz.sizeOf27 rfl) ?_
      refine GoL.y rfl (Y.load Tryz.isAgg27 rfl (Cell.a (by rfl))) ?_
      refine GoL.y rfl (Y.move rfl) ?_
      refine GoL.y rfl (Y.nilCheck rfl) ?_
      refine GoL.y rfl (Y.fieldAddr0 9 115 Tryz.underlying118 rfl Tryz.sizeOf115 rfl) ?_
      refine GoL.y rfl (Y.ixArr m Tryz.underlying115 Tryz.sizeOf114 rfl rfl rfl hm16) ?_
      refine GoL.y rfl (Y.load Tryz.isAgg114 rfl (Cell.a (by rw [Nat.mul_one, spcC_get hm16, getD_of hq]))) ?_
      refine GoL.y rfl (Y.nilCheck rfl) ?_
      refine GoL.y rfl (Y.fieldAddr0 13 4 Tryz.underlying133 rfl Tryz.sizeOf4 rfl) ?_
      refine GoL.does rfl (Does.st Tryz.sizeOf4 rfl rfl rfl rfl) ?_
      rintro _ _ ⟨rfl, rfl⟩
      rw [thr_det]
      refine GoL.nil ?_
      refine GoE.block_normal (GoE.then_normal ?_)
      refine GoC.region ?_
      refine GoL.y rfl (Y.move rfl) ?_
      refine GoL.y rfl (Y.move rfl) ?_
      refine GoL.y rfl (Y.move rfl) ?_
      refine GoL.to (A := thrsH ps (d.s.thr.set m (some ({ u with detached := true })))) (Bs := [arr q 0 (thrC ({ u with detached := true })), thrsH (ps.set m none) (d.s.thr.set m none)]) .auto (thrs_shut (List.getElem?_eq_some_iff.1 hu).1 hq) ?_
      refine GoL.does rfl (Does.callE rfl Tryz.call89 rfl (dng_pass (d := { d with s := d.s.setT m { u with detached := true } }) (ps := ps) (p := p) (t := t) hp (setT_thr ht hmn) (Nat.le_trans hk.recs (by decide)) (by decide) hk.R.l) .auto) ?_
      rintro _ _ ⟨⟨⟩, -, rfl, rfl⟩
      refine GoL.nil ?_
      rw [show d.detach = ({ d with s := d.s.setT m { u with detached := true } } : Dng).pass x 0 0 from by unfold Dng.detach; rw [← hx]; simp only; rw [if_neg (by rw [hz]; simp), ho1, spc_t hu, if_neg h27]]
      refine GoE.end0 rfl fun w s => ⟨ps, ?_, trivial, finE .auto s⟩
      rfl

set_option maxRecDepth 20000 in
theorem dng_join {W : World} {bd b p : Nat} {ps : List (Option Nat)} {d : Dng} {t : Thr} (hp : ps[d.n]? = some (some p)) (ht : d.s.thr[d.n]? = some (some t)) (hk : CallOk ps d t) : Fn Tryz.prog W 90 [ptr bd] [dngX bd b p ps d] (List (Option Nat)) (fun _ => .tuple #[]) (fun _ => True) (fun qs => [dngX bd b p qs d.join]) := by
  refine Fn.intro (N := 94) Tryz.func90 rfl Tryz.ntmps90 rfl fun F => ?_
  show GoC _ _ _ _ _ _ [dngX bd b p ps d, F]
  have hIa := hk.I.a
  have hRl := hk.R.l
  refine GoC.seq ?_
  refine GoC.region ?_
  refine GoL.y rfl (Y.move rfl) ?_
  refine GoL.does rfl (Does.callE rfl Tryz.call119 rfl (dng_b hp ht hk.I.b) .auto) ?_
  rintro _ _ ⟨⟨⟩, -, rfl, rfl⟩
  have hx0 : 0 ≤ d.b := by
    unfold Dng.b; rw [dng_t ht]; exact (hk.R.r _).1
  obtain ⟨x, hx⟩ : ∃ x, x = d.b := ⟨_, rfl⟩
  rw [← hx]
  rw [← hx] at hx0
  refine GoL.y rfl (Y.assign rfl) ?_
  refine GoL.nil ?_
  refine GoE.then_normal ?_
  refine GoC.seq ?_
  refine GoC.region ?_
  refine GoL.y rfl (Y.move rfl) ?_
  refine GoL.y rfl (Y.move rfl) ?_
  refine GoL.does rfl (Does.callE rfl Tryz.call120 rfl (dng_other hx0 hk.T (hk.slot x)) .auto) ?_
  rintro _ _ ⟨⟨⟩, -, rfl, rfl⟩
  refine GoL.y rfl (Y.move rfl) ?_
  refine GoL.y rfl (Y.extract (v := .int .i64 (((d.other x).1 : Nat) : Int)) rfl rfl) ?_
  refine GoL.y rfl (Y.extract (v := .int .i64 (d.other x).2) rfl rfl) ?_
  refine GoL.y rfl (Y.assign rfl) ?_
  refine GoL.y rfl (Y.assign rfl) ?_
  refine GoL.nil ?_
  refine GoE.then_normal ?_
  refine GoC.block ?_
  refine GoC.seq ?_
  refine GoC.region ?_
  refine GoL.y rfl (Y.move rfl) ?_
  refine GoL.y rfl (Y.neq rfl rfl) ?_
  refine GoL.y rfl (Y.assign rfl) ?_
  refine GoL.nil ?_
  refine GoE.then_normal ?_
  refine GoC.condD rfl (fun h37 => ?_) (fun h37 => ?_)
  · refine GoC.region ?_
    refine GoL.y rfl (Y.move rfl) ?_
    refine GoL.y rfl (Y.move rfl) ?_
    refine GoL.y rfl (Y.move rfl) ?_
    refine GoL.does rfl (Does.callE rfl Tryz.call89 rfl (dng_pass hp ht (Nat.le_trans hk.recs (by decide)) other_bd hk.R.l) .auto) ?_
    rintro _ _ ⟨⟨⟩, -, rfl, rfl⟩
    refine GoL.nil ?_
    refine GoE.block_normal ?_
    rw [show d.join = d.pass x 0 (d.other x).2 from by unfold Dng.join; rw [← hx]; simp only; rw [if_pos h37]]
    refine GoE.end0 rfl fun w s => ⟨ps, ?_, trivial, finE .auto s⟩
    rfl
  · have hz : (d.other x).2 = 0 := Decidable.byContradiction h37
    obtain ⟨m, q, u, hf, ho1, hmn, hm16, hq, hu, hRu, hdt, hjo⟩ := other_zero (hk.slot x) hz
    rw [ho1, hz]
    refine GoC.seq ?_
    refine GoC.region ?_
    refine GoL.o2 (C := dngX bd b p ps (d)) .auto rfl ?_
    rintro vw ve -
    refine GoL.o10 (C := spcX b ps (d).s) .auto rfl ?_
    rintro fv sv pv bt vm bg vt bk bw vr -
    refine GoL.fr .auto (thrs_out hq hu) ?_
    refine GoL.y rfl (Y.move rfl) ?_
    refine GoL.y rfl (Y.nilCheck rfl) ?_
    refine GoL.y rfl (Y.fieldAddrZ 27 Tryz.underlying138 rfl Tryz.sizeOf27 rfl) ?_
    refine GoL.y rfl (Y.load Tryz.isAgg27 rfl (Cell.a (by rfl))) ?_
    refine GoL.y rfl (Y.move rfl) ?_
    refine GoL.y rfl (Y.nilCheck rfl) ?_
    refine GoL.y rfl (Y.fieldAddr0 9 115 Tryz.underlying118 rfl Tryz.sizeOf115 rfl) ?_
    refine GoL.y rfl (Y.ixArr m Tryz.underlying115 Tryz.sizeOf114 rfl rfl rfl hm16) ?_
    refine GoL.y rfl (Y.load Tryz.isAgg114 rfl (Cell.a (by rw [Nat.mul_one, spcC_get hm16, getD_of hq]))) ?_
    refine GoL.y rfl (Y.nilCheck rfl) ?_
    refine GoL.y rfl (Y.fieldAddr0 11 3 Tryz.underlying133 rfl Tryz.sizeOf3 rfl) ?_
    refine GoL.y rfl (Y.load Tryz.isAgg3 rfl (Cell.a (by rfl))) ?_
    refine GoL.y rfl (Y.eql rfl rfl) ?_
    refine GoL.y rfl (Y.assign rfl) ?_
    refine GoL.nil ?_
    refine GoE.then_normal ?_
    refine GoC.condD rfl (fun h44 => ?_) (fun h44 => ?_)
    · refine GoC.seq ?_
      refine GoC.region ?_
      refine GoL.y rfl (Y.move rfl) ?_
      refine GoL.y rfl (Y.nilCheck rfl) ?_
      refine GoL.y rfl (Y.fieldAddrZ 27 Tryz.underlying138 rfl Tryz.sizeOf27 rfl) ?_
      refine GoL.y rfl (Y.load Tryz.isAgg27 rfl (Cell.a (by rfl))) ?_
      refine GoL.y rfl (Y.move rfl) ?_
      refine GoL.y rfl (Y.nilCheck rfl) ?_
      refine GoL.y rfl (Y.fieldAddr0 9 115 Tryz.underlying118 rfl Tryz.sizeOf115 rfl) ?_
      refine GoL.y rfl (Y.ixArr m Tryz.underlying115 Tryz.sizeOf114 rfl rfl rfl hm16) ?_
      refine GoL.y rfl (Y.load Tryz.isAgg114 rfl (Cell.a (by rw [Nat.mul_one, spcC_get hm16, getD_of hq]))) ?_
      refine GoL.y rfl (Y.nilCheck rfl) ?_
      refine GoL.y rfl (Y.fieldAddr0 12 43 Tryz.underlying133 rfl Tryz.sizeOf43 rfl) ?_
      refine GoL.y rfl (Y.load Tryz.isAgg43 rfl (Cell.a (by rfl))) ?_
      refine GoL.y rfl (Y.assign rfl) ?_
      refine GoL.nil ?_
      refine GoE.then_normal ?_
      refine GoC.seq ?_
      refine GoC.to (A := thrsH ps d.s.thr) (Bs := [arr q 0 (thrC u), thrsH (ps.set m none) (d.s.thr.set m none)]) .auto (thrs_keep hq hu) ?_
      refine GoC.fr .auto (thrs_out hp ht) ?_
      refine GoC.draw [arr bd 0 (dngC b p d vw ve)] [1, 1, 1, 1, 1, 1, 1, 1, 1, 1, 1, 1, 1, 1, 3] rfl (by kernel_rfl) ?_
      refine GoK.s rfl (Y.move rfl) ?_
      refine GoK.s rfl (Y.nilCheck rfl) ?_
      refine GoK.s rfl (Y.fieldAddr0 2 114 Tryz.underlying138 rfl Tryz.sizeOf114 rfl) ?_
      refine GoK.s rfl (Y.load Tryz.isAgg114 rfl (Cell.a (by rfl))) ?_
      refine GoK.s rfl (Y.move rfl) ?_
      refine GoK.s rfl (Y.nilCheck rfl) ?_
      refine GoK.s rfl (Y.fieldAddr0 3 123 Tryz.underlying138 rfl Tryz.sizeOf123 rfl) ?_
      refine GoK.s rfl (Y.fieldAddr 1 3 Tryz.underlying123 rfl Tryz.sizeOf3 rfl) ?_
      refine GoK.s rfl (Y.load Tryz.isAgg3 rfl (Cell.a (by rfl))) ?_
      refine GoK.s rfl (Y.move rfl) ?_
      refine GoK.s rfl (Y.nilCheck rfl) ?_
      refine GoK.s rfl (Y.fieldAddrZ 131 Tryz.underlying133 rfl Tryz.sizeOf131 rfl) ?_
      refine GoK.s rfl (Y.fieldAddr0 2 57 Tryz.underlying131 rfl Tryz.sizeOf57 rfl) ?_
      refine GoK.s rfl (Y.ixArr d.i.a.toNat Tryz.underlying57 Tryz.sizeOf43 rfl rfl (by omega) (by omega)) ?_
      refine GoK.d3 rfl (Does.st Tryz.sizeOf43 rfl rfl rfl (Nat.blt_eq.mpr (by show 2 + d.i.a.toNat * 1 < 18; omega))) ?_
      rintro _ _ ⟨rfl, rfl⟩
      rw [thr_setI _ (by omega) (by omega) hRl]
      refine GoK.to (A := thrsH ps (d.s.thr.set d.n (some (t.put d.i.a u.value)))) (Bs := [arr p 0 (thrC (t.put d.i.a u.value)), thrsH (ps.set d.n none) (d.s.thr.set d.n none)]) .auto (thrs_shut (List.getElem?_eq_some_iff.1 ht).1 hp) ?_
      refine GoK.nil ?_
      refine GoE.then_normal ?_
      refine GoC.seq ?_
      refine GoC.region ?_
      refine GoL.y rfl (Y.move rfl) ?_
      refine GoL.y rfl (Y.nilCheck rfl) ?_
      refine GoL.y rfl (Y.fieldAddrZ 27 Tryz.underlying138 rfl Tryz.sizeOf27 rfl) ?_
      refine GoL.y rfl (Y.load Tryz.isAgg27 rfl (Cell.a (by rfl))) ?_
      refine GoL.y rfl (Y.move rfl) ?_
      refine GoL.does rfl (Does.callE rfl Tryz.call85 rfl (core_free (s := (d.setT (t.put d.i.a u.value)).s) hq (setT_thr hu (Ne.symm hmn)) (by simp [Dng.setT, Spc.setT, hk.lt]) hk.lp hk.T hRu.h.1) .auto) ?_
      rintro _ _ ⟨⟨⟩, -, rfl, rfl⟩
      refine GoL.nil ?_
      refine GoE.then_normal ?_
      refine GoC.region ?_
      refine GoL.y rfl (Y.move rfl) ?_
      refine GoL.y rfl (Y.move rfl) ?_
      refine GoL.y rfl (Y.move rfl) ?_
      refine GoL.does rfl (Does.callE rfl Tryz.call89 rfl (dng_pass (d := (d.setT (t.put d.i.a u.value)).free m) (ps := ps.set m none) (p := p) (t := t.put d.i.a u.value) (by show (ps.set m none)[d.n]? = _; rw [List.getElem?_set_ne hmn]; exact hp) (by show ((d.setT (t.put d.i.a u.value)).s.thr.set m none)[d.n]? = _; rw [List.getElem?_set_ne hmn]; exact setT_same ht) (Nat.le_trans hk.recs (by decide)) (by decide) (by rw [put_len]; exact hRl)) .auto) ?_
      rintro _ _ ⟨⟨⟩, -, rfl, rfl⟩
      refine GoL.nil ?_
      refine GoE.block_normal ?_
      rw [show d.join = ((d.setT (t.put d.i.a u.value)).free m).pass x u.value 0 from by unfold Dng.join; rw [← hx]; simp only; rw [if_neg (by rw [hz]; simp), ho1, spc_t hu, if_pos h44, dng_t ht]]
      refine GoE.end0 rfl fun w s => ⟨ps.set m none, ?_, trivial, finE .auto s⟩
      rfl
    · refine GoC.seq ?_
      refine GoC.draw [arr bd 0 (dngC b p d vw ve)] [1, 1, 1, 1, 1, 1, 1, 1, 1, 1, 1, 1, 1, 1, 1, 3] rfl (by kernel_rfl) ?_
      refine GoK.s rfl (Y.move rfl) ?_
      refine GoK.s rfl (Y.nilCheck rfl) ?_
      refine GoK.s rfl (Y.fieldAddrZ 27 Tryz.underlying138 rfl Tryz.sizeOf27 rfl) ?_
      refine GoK.s rfl (Y.load Tryz.isAgg27 rfl (Cell.a (by rfl))) ?_
      refine GoK.s rfl (Y.move rfl) ?_
      refine GoK.s rfl (Y.nilCheck rfl) ?_
      refine GoK.s rfl (Y.fieldAddr0 9 115 Tryz.underlying118 rfl Tryz.sizeOf115 rfl) ?_
      refine GoK.s rfl (Y.ixArr m Tryz.underlying115 Tryz.sizeOf114 rfl rfl rfl hm16) ?_
      refine GoK.s rfl (Y.load Tryz.isAgg114 rfl (Cell.a (by rw [Nat.mul_one, spcC_get hm16, getD_of hq]))) ?_
      refine GoK.s rfl (Y.move rfl) ?_
      refine GoK.s rfl (Y.nilCheck rfl) ?_
      refine GoK.s rfl (Y.fieldAddr0 1 3 Tryz.underlying138 rfl Tryz.sizeOf3 rfl) ?_
      refine GoK.s rfl (Y.load Tryz.isAgg3 rfl (Cell.a (by rfl))) ?_
      refine GoK.s rfl (Y.nilCheck rfl) ?_
      refine GoK.s rfl (Y.fieldAddr0 14 3 Tryz.underlying133 rfl Tryz.sizeOf3 rfl) ?_
      refine GoK.d3 rfl (Does.st Tryz.sizeOf3 rfl rfl rfl rfl) ?_
      rintro _ _ ⟨rfl, rfl⟩
      rw [thr_joiner]
      refine GoK.to (A := thrsH ps (d.s.thr.set m (some ({ u with joiner := d.n })))) (Bs := [arr q 0 (thrC ({ u with joiner := d.n })), thrsH (ps.set m none) (d.s.thr.set m none)]) .auto (thrs_shut (List.getElem?_eq_some_iff.1 hu).1 hq) ?_
      refine GoK.nil ?_
      refine GoE.then_normal ?_
      refine GoC.region ?_
      refine GoL.y rfl (Y.move rfl) ?_
      refine GoL.y rfl (Y.move rfl) ?_
      refine GoL.y rfl (Y.nilCheck rfl) ?_
      refine GoL.y rfl (Y.fieldAddr0 3 123 Tryz.underlying138 rfl Tryz.sizeOf123 rfl) ?_
      refine GoL.y rfl (Y.fieldAddr 1 3 Tryz.underlying123 rfl Tryz.sizeOf3 rfl) ?_
      refine GoL.y rfl (Y.load Tryz.isAgg3 rfl (Cell.a (by rfl))) ?_
      refine GoL.y rfl (Y.move rfl) ?_
      refine GoL.does rfl (Does.callE rfl Tryz.call121 rfl (dng_block (d := { d with s := d.s.setT m { u with joiner := d.n } }) (ps := ps) (p := p) (t := t) hp (setT_thr ht hmn) (Nat.le_trans hk.recs (by decide))) .auto) ?_
      rintro _ _ ⟨⟨⟩, -, rfl, rfl⟩
      refine GoL.nil ?_
      refine GoE.block_normal ?_
      rw [show d.join = ({ d with s := d.s.setT m { u with joiner := d.n } } : Dng).block 4 d.i.a x 0 from by unfold Dng.join; rw [← hx]; simp only; rw [if_neg (by rw [hz]; simp), ho1, spc_t hu, if_neg h44]]
      refine GoE.end0 rfl fun w s => ⟨ps, ?_, trivial, finE .auto s⟩
      rfl

set_option maxRecDepth 20000 in
theorem dng_sleep {W : World} {bd b p : Nat} {ps : List (Option Nat)} {d : Dng} {t : Thr} (hp : ps[d.n]? = some (some p)) (ht : d.s.thr[d.n]? = some (some t)) (hk : CallOk ps d t) : Fn Tryz.prog W 135 [ptr bd] [dngX bd b p ps d] Unit (fun _ => .tuple #[]) (fun _ => True) (fun _ => [dngX bd b p ps (d.sleep)]) := by
  refine Fn.intro (N := 34) Tryz.func135 rfl Tryz.ntmps135 rfl fun F => ?_
  show GoC _ _ _ _ _ _ [dngX bd b p ps d, F]
  refine GoC.seq ?_
  refine GoC.region ?_
  refine GoL.y rfl (Y.move rfl) ?_
  refine GoL.does rfl (Does.callE rfl Tryz.call92 rfl (dng_a hp ht hk.I.a) .auto) ?_
  rintro _ _ ⟨⟨⟩, -, rfl, rfl⟩
  have hx0 : 0 ≤ d.a := by
    unfold Dng.a; rw [dng_t ht]; exact (hk.R.r _).1
  obtain ⟨x, hx⟩ : ∃ x, x = d.a := ⟨_, rfl⟩
  rw [← hx]
  rw [← hx] at hx0
  refine GoL.y rfl (Y.assign rfl) ?_
  refine GoL.nil ?_
  refine GoE.then_normal ?_
  refine GoC.block ?_
  refine GoC.seq ?_
  refine GoC.region ?_
  refine GoL.y rfl (Y.move rfl) ?_
  refine GoL.y rfl (Y.eql rfl rfl) ?_
  refine GoL.y rfl (Y.assign rfl) ?_
  refine GoL.nil ?_
  refine GoE.then_normal ?_
  refine GoC.condD rfl (fun h22 => ?_) (fun h22 => ?_)
  · refine GoC.region ?_
    refine GoL.y rfl (Y.move rfl) ?_
    refine GoL.y rfl (Y.move rfl) ?_
    refine GoL.does rfl (Does.callE rfl Tryz.call89 rfl (dng_pass hp ht (Nat.le_trans hk.recs (by decide)) (by decide) hk.R.l) .auto) ?_
    rintro _ _ ⟨⟨⟩, -, rfl, rfl⟩
    refine GoL.nil ?_
    refine GoE.block_normal ?_
    rw [show d.sleep = d.pass x 0 0 from by unfold Dng.sleep; rw [← hx]; simp only; rw [if_pos h22]]
    refine GoE.end0 rfl fun w s => ⟨(), ?_, trivial, finE .auto s⟩
    rfl
  · refine GoC.seq ?_
    refine GoC.region ?_
    refine GoL.y rfl (Y.move rfl) ?_
    refine GoL.y rfl (Y.gtr rfl rfl) ?_
    refine GoL.y rfl (Y.assign rfl) ?_
    refine GoL.nil ?_
    refine GoE.then_normal ?_
    refine GoC.condD rfl (fun h28 => ?_) (fun h28 => ?_)
    · refine GoC.region ?_
      refine GoL.y rfl (Y.move rfl) ?_
      refine GoL.y rfl (Y.move rfl) ?_
      refine GoL.does rfl (Does.callE rfl Tryz.call89 rfl (dng_pass hp ht (Nat.le_trans hk.recs (by decide)) (by decide) hk.R.l) .auto) ?_
      rintro _ _ ⟨⟨⟩, -, rfl, rfl⟩
      refine GoL.nil ?_
      refine GoE.block_normal ?_
      rw [show d.sleep = d.pass x 0 1 from by unfold Dng.sleep; rw [← hx]; simp only; rw [if_neg h22, if_pos h28]]
      refine GoE.end0 rfl fun w s => ⟨(), ?_, trivial, finE .auto s⟩
      rfl
    · refine GoC.seq ?_
      refine GoC.o2 (C := dngX bd b p ps (d)) .auto rfl ?_
      rintro vw ve -
      refine GoC.o10 (C := spcX b ps (d).s) .auto rfl ?_
      rintro fv sv pv bt vm bg vt bk bw vr -
      refine GoC.draw [arr bd 0 (dngC b p d vw ve), arr b 0 (spcC fv sv pv d.s.prg bt ps vm bg vt bk bw vr)] [1, 1, 1, 1, 1, 1, 1, 1, 1, 1, 1, 1, 1, 3] rfl (by kernel_rfl) ?_
      refine GoK.s rfl (Y.move rfl) ?_
      refine GoK.s rfl (Y.nilCheck rfl) ?_
      refine GoK.s rfl (Y.fieldAddrZ 27 Tryz.underlying138 rfl Tryz.sizeOf27 rfl) ?_
      refine GoK.s rfl (Y.load Tryz.isAgg27 rfl (Cell.a (by rfl))) ?_
      refine GoK.s rfl (Y.nilCheck rfl) ?_
      refine GoK.s rfl (Y.fieldAddr0 29 112 Tryz.underlying118 rfl Tryz.sizeOf112 rfl) ?_
      refine GoK.s rfl (Y.load Tryz.isAgg112 rfl (Cell.a (by rfl))) ?_
      refine GoK.s rfl (Y.move rfl) ?_
      refine GoK.s rfl (Y.nilCheck rfl) ?_
      refine GoK.s rfl (Y.fieldAddr0 1 3 Tryz.underlying138 rfl Tryz.sizeOf3 rfl) ?_
      refine GoK.s rfl (Y.load Tryz.isAgg3 rfl (Cell.a (by rfl))) ?_
      refine GoK.s rfl (Y.move rfl) ?_
      refine GoK.s rfl (Y.convI Tryz.underlying43 Tryz.underlying3 rfl (by omega)) ?_
      refine GoK.d3 rfl (Does.callE rfl Tryz.call164 rfl (wheel_Sleep hk.wn) .auto) ?_
      rintro _ _ ⟨⟨⟩, -, rfl, rfl⟩
      refine GoK.nil ?_
      refine GoE.then_normal ?_
      refine GoC.region ?_
      refine GoL.y rfl (Y.move rfl) ?_
      refine GoL.y rfl (Y.move rfl) ?_
      refine GoL.does rfl (Does.callE rfl Tryz.call121 rfl (dng_block (d := d.withW (d.s.wheel.sleep d.n x).2) hp ht (Nat.le_trans hk.recs (by decide))) .auto) ?_
      rintro _ _ ⟨⟨⟩, -, rfl, rfl⟩
      refine GoL.nil ?_
      refine GoE.block_normal ?_
      rw [show d.sleep = (d.withW (d.s.wheel.sleep d.n x).2).block 8 (-1) x 0 from by unfold Dng.sleep; rw [← hx]; simp only; rw [if_neg h22, if_neg h28]]
      refine GoE.end0 rfl fun w s => ⟨(), ?_, trivial, finE .auto s⟩
      rfl

set_option maxRecDepth 20000 in
theorem dng_ask {W : World} {bd b p : Nat} {ps : List (Option Nat)} {d : Dng} {t : Thr} (hp : ps[d.n]? = some (some p)) (ht : d.s.thr[d.n]? = some (some t)) (hk : CallOk ps d t) {block y into : Int} (hb : 0 ≤ block) : Fn Tryz.prog W 132 [ptr bd, .int .u64 block, .int .u64 y, .int .i64 into] [dngX bd b p ps d] Unit (fun _ => .tuple #[]) (fun _ => True) (fun _ => [dngX bd b p ps (d.ask block y into)]) := by
  refine Fn.intro (N := 45) Tryz.func132 rfl Tryz.ntmps132 rfl fun F => ?_
  show GoC _ _ _ _ _ _ [dngX bd b p ps d, F]
  refine GoC.seq ?_
  refine GoC.region ?_
  refine GoL.y rfl (Y.assign rfl) ?_
  refine GoL.nil ?_
  refine GoE.then_normal ?_
  refine GoC.seq ?_
  refine GoC.seq ?_
  refine GoC.region ?_
  refine GoL.y rfl (Y.move rfl) ?_
  refine GoL.y rfl (Y.lss rfl rfl) ?_
  refine GoL.nil ?_
  refine GoE.then_normal ?_
  refine GoC.condD rfl (fun h10 => ?_) (fun h10 => ?_)
  · refine GoC.o2 (C := dngX bd b p ps (d)) .auto rfl ?_
    rintro vw ve -
    refine GoC.o10 (C := spcX b ps (d).s) .auto rfl ?_
    rintro fv sv pv bt vm bg vt bk bw vr -
    refine GoC.draw [arr bd 0 (dngC b p d vw ve), arr b 0 (spcC fv sv pv d.s.prg bt ps vm bg vt bk bw vr)] [1, 1, 1, 1, 1, 1, 1, 1, 1, 1, 1, 1, 1, 1, 1, 1, 1, 1, 1, 1, 1, 3, 1] rfl (by kernel_rfl) ?_
    refine GoK.s rfl (Y.move rfl) ?_
    refine GoK.s rfl (Y.nilCheck rfl) ?_
    refine GoK.s rfl (Y.fieldAddrZ 27 Tryz.underlying138 rfl Tryz.sizeOf27 rfl) ?_
    refine GoK.s rfl (Y.load Tryz.isAgg27 rfl (Cell.a (by rfl))) ?_
    refine GoK.s rfl (Y.nilCheck rfl) ?_
    refine GoK.s rfl (Y.fieldAddr0 28 110 Tryz.underlying118 rfl Tryz.sizeOf110 rfl) ?_
    refine GoK.s rfl (Y.load Tryz.isAgg110 rfl (Cell.a (by rfl))) ?_
    refine GoK.s rfl (Y.move rfl) ?_
    refine GoK.s rfl (Y.nilCheck rfl) ?_
    refine GoK.s rfl (Y.fieldAddr0 1 3 Tryz.underlying138 rfl Tryz.sizeOf3 rfl) ?_
    refine GoK.s rfl (Y.load Tryz.isAgg3 rfl (Cell.a (by rfl))) ?_
    refine GoK.s rfl (Y.move rfl) ?_
    refine GoK.s rfl (Y.convI Tryz.underlying43 Tryz.underlying3 rfl (by omega)) ?_
    refine GoK.s rfl (Y.move rfl) ?_
    refine GoK.s rfl (Y.nilCheck rfl) ?_
    refine GoK.s rfl (Y.fieldAddr0 3 123 Tryz.underlying138 rfl Tryz.sizeOf123 rfl) ?_
    refine GoK.s rfl (Y.fieldAddrZ 3 Tryz.underlying123 rfl Tryz.sizeOf3 rfl) ?_
    refine GoK.s rfl (Y.load Tryz.isAgg3 rfl (Cell.a (by rfl))) ?_
    refine GoK.s rfl (Y.eql rfl rfl) ?_
    refine GoK.s rfl (Y.move rfl) ?_
    refine GoK.s rfl (Y.bld4 (fun v1 v2 v3 v4 => [v1, v2, v3, v4]) rfl rfl rfl rfl (by kernel_rfl)) ?_
    refine GoK.d3 rfl (Does.callE rfl Tryz.call161 rfl (disk_Ask (r := (⟨d.n, block, decide (d.i.op = 34), y⟩ : Rqs)) hk.dw) .auto) ?_
    rintro _ _ ⟨⟨⟩, -, rfl, rfl⟩
    refine GoK.s rfl (Y.assign rfl) ?_
    refine GoK.nil ?_
    refine GoE.then_normal ?_
    refine GoC.seq ?_
    refine GoC.seq ?_
    refine GoC.region ?_
    refine GoL.y rfl (Y.move rfl) ?_
    refine GoL.y rfl (Y.neq rfl rfl) ?_
    refine GoL.nil ?_
    refine GoE.then_normal ?_
    refine GoC.condD rfl (fun h34 => ?_) (fun h34 => ?_)
    · refine GoC.seq ?_
      refine GoC.region ?_
      refine GoL.y rfl (Y.move rfl) ?_
      refine GoL.y rfl (Y.move rfl) ?_
      refine GoL.y rfl (Y.move rfl) ?_
      refine GoL.y rfl (Y.move rfl) ?_
      refine GoL.does rfl (Does.callE rfl Tryz.call89 rfl (dng_pass (d := d.withD (d.s.disk.ask ⟨d.n, block, decide (d.i.op = 34), y⟩).2) hp ht (Nat.le_trans hk.recs (by decide)) ask_bd hk.R.l) .auto) ?_
      rintro _ _ ⟨⟨⟩, -, rfl, rfl⟩
      refine GoL.nil ?_
      refine GoE.then_normal ?_
      refine GoC.ret ?_
      refine GoE.then_ret ?_
      rw [show d.ask block y into = (d.withD (d.s.disk.ask ⟨d.n, block, decide (d.i.op = 34), y⟩).2).pass block y (d.s.disk.ask ⟨d.n, block, decide (d.i.op = 34), y⟩).1 from by unfold Dng.ask; rw [if_pos h10]; simp only; rw [if_pos h34]]
      refine GoE.ret0 rfl fun w s => ⟨(), ?_, trivial, finE .auto s⟩
      rfl
    · refine GoC.skip ?_
      refine GoE.then_normal ?_
      refine GoC.region ?_
      refine GoL.y rfl (Y.move rfl) ?_
      refine GoL.y rfl (Y.move rfl) ?_
      refine GoL.y rfl (Y.move rfl) ?_
      refine GoL.y rfl (Y.move rfl) ?_
      refine GoL.does rfl (Does.callE rfl Tryz.call121 rfl (dng_block (d := d.withD (d.s.disk.ask ⟨d.n, block, decide (d.i.op = 34), y⟩).2) hp ht (Nat.le_trans hk.recs (by decide))) .auto) ?_
      rintro _ _ ⟨⟨⟩, -, rfl, rfl⟩
      refine GoL.nil ?_
      rw [show d.ask block y into = (d.withD (d.s.disk.ask ⟨d.n, block, decide (d.i.op = 34), y⟩).2).block 5 into block y from by unfold Dng.ask; rw [if_pos h10]; simp only; rw [if_neg h34]]
      refine GoE.end0 rfl fun w s => ⟨(), ?_, trivial, finE .auto s⟩
      rfl
  · refine GoC.skip ?_
    refine GoE.then_normal ?_
    refine GoC.seq ?_
    refine GoC.seq ?_
    refine GoC.region ?_
    refine GoL.y rfl (Y.move rfl) ?_
    refine GoL.y rfl (Y.neq rfl rfl) ?_
    refine GoL.nil ?_
    refine GoE.then_normal ?_
    refine GoC.condT rfl ?_
    refine GoC.seq ?_
    refine GoC.region ?_
    refine GoL.y rfl (Y.move rfl) ?_
    refine GoL.y rfl (Y.move rfl) ?_
    refine GoL.y rfl (Y.move rfl) ?_
    refine GoL.y rfl (Y.move rfl) ?_
    refine GoL.does rfl (Does.callE rfl Tryz.call89 rfl (dng_pass hp ht (Nat.le_trans hk.recs (by decide)) (by decide) hk.R.l) .auto) ?_
    rintro _ _ ⟨⟨⟩, -, rfl, rfl⟩
    refine GoL.nil ?_
    refine GoE.then_normal ?_
    refine GoC.ret ?_
    refine GoE.then_ret ?_
    rw [show d.ask block y into = d.pass block y 1 from by unfold Dng.ask; rw [if_neg h10]]
    refine GoE.ret0 rfl fun w s => ⟨(), ?_, trivial, finE .auto s⟩
    rfl

end Go.SLYtpcjdohmjmeehaaGreat
namespace Go.SLYtpcjdohmjmeehaaGreat
open Go Go.RowKit

theorem LiveAt.pass {ps : List (Option Nat)} {d : Dng} {t : Thr} {m : Nat} {x y e : Int} (h : LiveAt ps d.s m) (ht : d.s.thr[d.n]? = some (some t)) (hR : ThrR t) (he : 0 ≤ e ∧ e ≤ 11) : LiveAt ps (d.pass x y e).s m := by
  have : LiveAt ps (d.tell x y e true).s m := h.of rfl
  have h2 := this.setT (n := d.n) (hR.put (i := 7) (x := e) (by omega))
  unfold Dng.pass; rw [dng_t ht]; exact h2
theorem LiveAt.block {ps : List (Option Nat)} {d : Dng} {t : Thr} {m : Nat} {w i x y : Int} (h : LiveAt ps d.s m) (ht : d.s.thr[d.n]? = some (some t)) (hR : ThrR t) (hi : -1 ≤ i ∧ i < 8) : LiveAt ps (d.block w i x y).s m := by
  have : LiveAt ps (d.tell x y 0 false).s m := h.of rfl
  have h2 := this.setT (n := d.n) (hR.with (a := w) (b := d.i.op) hi)
  unfold Dng.block; rw [dng_t ht]; exact h2
theorem w64_id {c : Int} (h : 0 ≤ c ∧ c < 8) : w64 c = c := by unfold w64; omega
theorem put_live {u : Tub} {who x : Int} (h : (u.put who x).2.2.1 = true) : (u.put who x).2.1 ∈ u.gets := by
  cases hw : u.waits who with
  | true => rw [put_waits hw] at h; cases h
  | false =>
    cases hg : u.gets with
    | cons w r => rw [put_get hw hg]; exact List.mem_cons_self
    | nil =>
      by_cases hr : (u.words.length : Int) < u.room
      · rw [put_room hw hg hr] at h; cases h
      · rw [put_full hw hg hr] at h; cases h
theorem get_live {u : Tub} {who : Int} (h : (u.get who).2.2.2.1 = true) : ∃ x ∈ u.puts, x.who = (u.get who).2.2.1 := by
  cases hw : u.waits who with
  | true => rw [get_waits hw] at h; cases h
  | false =>
    cases hg : u.words with
    | nil => rw [get_none hw hg] at h; cases h
    | cons w r =>
      cases hp : u.puts with
      | nil => rw [get_one hw hg hp] at h; cases h
      | cons q r2 => rw [get_two hw hg hp]; exact ⟨q, List.mem_cons_self, rfl⟩
theorem get_word {u : Tub} {who : Int} (h : ∀ w ∈ u.words, 0 ≤ w ∧ w ≤ 18446744073709551615) : 0 ≤ (u.get who).1 ∧ (u.get who).1 ≤ 18446744073709551615 := by
  have h0 : (0 : Int) ≤ 0 ∧ (0 : Int) ≤ 18446744073709551615 := by decide
  cases hw : u.waits who with
  | true => rw [get_waits hw]; exact h0
  | false =>
    cases hg : u.words with
    | nil => rw [get_none hw hg]; exact h0
    | cons w r =>
      have := h w (by rw [hg]; exact List.mem_cons_self)
      cases hp : u.puts with
      | nil => rw [get_one hw hg hp]; exact this
      | cons q r2 => rw [get_two hw hg hp]; exact this
theorem tube_at {d : Dng} {xs : List (Nat × Tub)} (hxs : xs.map (·.2) = d.s.tubes) (h0 : 0 ≤ d.i.n) (h : d.i.n < (d.s.tubes.length : Int)) : ∃ q, xs[d.i.n.toNat]? = some (q, d.tube) ∧ d.tube ∈ d.s.tubes := by
  have hl : xs.length = d.s.tubes.length := by rw [← hxs, List.length_map]
  obtain ⟨⟨q, u⟩, hx⟩ := at_some (show d.i.n.toNat < xs.length by omega)
  have hu := map_get hxs hx
  have : d.tube = u := by unfold Dng.tube; rw [List.getD_eq_getElem?_getD, hu]; rfl
  exact ⟨q, by rw [this]; exact hx, by rw [this]; exact List.mem_of_getElem? hu⟩
theorem spawn_thr {s : Spc} {f arg : Int} {n : Nat} (h : slotFree? s.table 0 = some n) (hl : n < s.thr.length) : ∃ t, (s.begin f arg).2.2.thr[n]? = some (some t) ∧ t = thr0 f arg (slotH ((s.table.getD n (false, 0)).2 + 1) n) := by
  rw [begin_ok h]
  exact ⟨_, List.getElem?_set_self hl, rfl⟩
end Go.SLYtpcjdohmjmeehaaGreat
namespace Go.SLYtpcjdohmjmeehaaGreat
open Go Go.RowKit Go.Proofs

set_option maxRecDepth 20000 in
theorem dng_aP {W : World} {bd b p : Nat} {d : Dng} {t : Thr} {vw ve : Value} (ht : d.s.thr[d.n]? = some (some t)) (hI : 0 ≤ d.i.a ∧ d.i.a < 8) : Fn Tryz.prog W 92 [ptr bd] [arr bd 0 (dngC b p d vw ve), arr p 0 (thrC t)] Unit (fun _ => .int .u64 d.a) (fun _ => True) (fun _ => [arr bd 0 (dngC b p d vw ve), arr p 0 (thrC t)]) := by
  refine Fn.intro (N := 17) Tryz.func92 rfl Tryz.ntmps92 rfl fun F => ?_
  show GoC _ _ _ _ _ _ [arr bd 0 (dngC b p d vw ve), arr p 0 (thrC t), F]
  refine GoC.seq ?_
  refine GoC.region ?_
  refine GoL.y rfl (Y.assign rfl) ?_
  refine GoL.nil ?_
  refine GoE.then_normal ?_
  refine GoC.seq ?_
  refine GoC.draw [] [1, 1, 1, 1, 1, 1, 1, 1, 1, 1, 1, 1, 1, 1, 1] rfl (by kernel_rfl) ?_
  refine GoK.s rfl (Y.move rfl) ?_
  refine GoK.s rfl (Y.nilCheck rfl) ?_
  refine GoK.s rfl (Y.fieldAddr0 2 114 Tryz.underlying138 rfl Tryz.sizeOf114 rfl) ?_
  refine GoK.s rfl (Y.load Tryz.isAgg114 rfl (Cell.a (by rfl))) ?_
  refine GoK.s rfl (Y.move rfl) ?_
  refine GoK.s rfl (Y.nilCheck rfl) ?_
  refine GoK.s rfl (Y.fieldAddr0 3 123 Tryz.underlying138 rfl Tryz.sizeOf123 rfl) ?_
  refine GoK.s rfl (Y.fieldAddr 1 3 Tryz.underlying123 rfl Tryz.sizeOf3 rfl) ?_
  refine GoK.s rfl (Y.load Tryz.isAgg3 rfl (Cell.a (by rfl))) ?_
  refine GoK.s rfl (Y.nilCheck rfl) ?_
  refine GoK.s rfl (Y.fieldAddrZ 131 Tryz.underlying133 rfl Tryz.sizeOf131 rfl) ?_
  refine GoK.s rfl (Y.fieldAddr0 2 57 Tryz.underlying131 rfl Tryz.sizeOf57 rfl) ?_
  refine GoK.s rfl (Y.ixArr d.i.a.toNat Tryz.underlying57 Tryz.sizeOf43 rfl rfl (by omega) (by omega)) ?_
  refine GoK.s rfl (Y.load Tryz.isAgg43 rfl (Cell.a (thr_get (by omega)))) ?_
  refine GoK.s rfl (Y.assign rfl) ?_
  refine GoK.nil ?_
  refine GoE.then_normal ?_
  refine GoC.ret ?_
  refine GoE.ret1 rfl rfl fun w s => ⟨(), ?_, trivial, finE .auto s⟩
  rw [show d.a = t.regs.getD d.i.a.toNat 0 from by unfold Dng.a; rw [dng_t ht]; rfl]

set_option maxRecDepth 20000 in
theorem dng_bP {W : World} {bd b p : Nat} {d : Dng} {t : Thr} {vw ve : Value} (ht : d.s.thr[d.n]? = some (some t)) (hI : 0 ≤ d.i.b ∧ d.i.b < 8) : Fn Tryz.prog W 119 [ptr bd] [arr bd 0 (dngC b p d vw ve), arr p 0 (thrC t)] Unit (fun _ => .int .u64 d.b) (fun _ => True) (fun _ => [arr bd 0 (dngC b p d vw ve), arr p 0 (thrC t)]) := by
  refine Fn.intro (N := 17) Tryz.func119 rfl Tryz.ntmps119 rfl fun F => ?_
  show GoC _ _ _ _ _ _ [arr bd 0 (dngC b p d vw ve), arr p 0 (thrC t), F]
  refine GoC.seq ?_
  refine GoC.region ?_
  refine GoL.y rfl (Y.assign rfl) ?_
  refine GoL.nil ?_
  refine GoE.then_normal ?_
  refine GoC.seq ?_
  refine GoC.draw [] [1, 1, 1, 1, 1, 1, 1, 1, 1, 1, 1, 1, 1, 1, 1] rfl (by kernel_rfl) ?_
  refine GoK.s rfl (Y.move rfl) ?_
  refine GoK.s rfl (Y.nilCheck rfl) ?_
  refine GoK.s rfl (Y.fieldAddr0 2 114 Tryz.underlying138 rfl Tryz.sizeOf114 rfl) ?_
  refine GoK.s rfl (Y.load Tryz.isAgg114 rfl (Cell.a (by rfl))) ?_
  refine GoK.s rfl (Y.move rfl) ?_
  refine GoK.s rfl (Y.nilCheck rfl) ?_
  refine GoK.s rfl (Y.fieldAddr0 3 123 Tryz.underlying138 rfl Tryz.sizeOf123 rfl) ?_
  refine GoK.s rfl (Y.fieldAddr 2 3 Tryz.underlying123 rfl Tryz.sizeOf3 rfl) ?_
  refine GoK.s rfl (Y.load Tryz.isAgg3 rfl (Cell.a (by rfl))) ?_
  refine GoK.s rfl (Y.nilCheck rfl) ?_
  refine GoK.s rfl (Y.fieldAddrZ 131 Tryz.underlying133 rfl Tryz.sizeOf131 rfl) ?_
  refine GoK.s rfl (Y.fieldAddr0 2 57 Tryz.underlying131 rfl Tryz.sizeOf57 rfl) ?_
  refine GoK.s rfl (Y.ixArr d.i.b.toNat Tryz.underlying57 Tryz.sizeOf43 rfl rfl (by omega) (by omega)) ?_
  refine GoK.s rfl (Y.load Tryz.isAgg43 rfl (Cell.a (thr_get (by omega)))) ?_
  refine GoK.s rfl (Y.assign rfl) ?_
  refine GoK.nil ?_
  refine GoE.then_normal ?_
  refine GoC.ret ?_
  refine GoE.ret1 rfl rfl fun w s => ⟨(), ?_, trivial, finE .auto s⟩
  rw [show d.b = t.regs.getD d.i.b.toNat 0 from by unfold Dng.b; rw [dng_t ht]; rfl]

set_option maxRecDepth 20000 in
theorem dng_sem {W : World} {bd b p : Nat} {ps : List (Option Nat)} {d : Dng} {t : Thr} (hp : ps[d.n]? = some (some p)) (ht : d.s.thr[d.n]? = some (some t)) (hk : CallOk ps d t) : Fn Tryz.prog W 96 [ptr bd] [dngX bd b p ps d] Unit (fun _ => .tuple #[]) (fun _ => True) (fun _ => [dngX bd b p ps (d.sem)]) := by
  refine Fn.intro (N := 86) Tryz.func96 rfl Tryz.ntmps96 rfl fun F => ?_
  show GoC _ _ _ _ _ _ [dngX bd b p ps d, F]
  refine GoC.o2 (C := dngX bd b p ps (d)) .auto rfl ?_
  rintro vw ve -
  refine GoC.o10 (C := spcX b ps (d).s) .auto rfl ?_
  rintro fv sv pv bt vm bg vt bk bw vr -
  have hnn := hk.nn
  have hn0 := hk.I.n
  refine GoC.seq ?_
  refine GoC.region ?_
  refine GoL.y rfl (Y.move rfl) ?_
  refine GoL.y rfl (Y.nilCheck rfl) ?_
  refine GoL.y rfl (Y.fieldAddr0 3 123 Tryz.underlying138 rfl Tryz.sizeOf123 rfl) ?_
  refine GoL.y rfl (Y.fieldAddr 4 43 Tryz.underlying123 rfl Tryz.sizeOf43 rfl) ?_
  refine GoL.y rfl (Y.load Tryz.isAgg43 rfl (Cell.a (by rfl))) ?_
  refine GoL.y rfl (Y.convI Tryz.underlying43 Tryz.underlying3 rfl (by omega)) ?_
  refine GoL.y rfl (Y.assign rfl) ?_
  refine GoL.nil ?_
  refine GoE.then_normal ?_
  refine GoC.seq ?_
  refine GoC.seq ?_
  refine GoC.region ?_
  refine GoL.y rfl (Y.move rfl) ?_
  refine GoL.y rfl (Y.nilCheck rfl) ?_
  refine GoL.y rfl (Y.fieldAddr0 3 123 Tryz.underlying138 rfl Tryz.sizeOf123 rfl) ?_
  refine GoL.y rfl (Y.fieldAddrZ 3 Tryz.underlying123 rfl Tryz.sizeOf3 rfl) ?_
  refine GoL.y rfl (Y.load Tryz.isAgg3 rfl (Cell.a (by rfl))) ?_
  refine GoL.y rfl (Y.eql rfl rfl) ?_
  refine GoL.nil ?_
  refine GoE.then_normal ?_
  refine GoC.condD rfl (fun h19 => ?_) (fun h19 => ?_)
  · refine GoC.seq ?_
    refine GoC.draw [arr bd 0 (dngC b p d vw ve), arr b 0 (spcC fv sv pv d.s.prg bt ps vm bg vt bk bw vr)] [1, 1, 1, 1, 1, 1, 1, 1, 1, 1, 1, 1, 3, 1, 1, 1, 1, 1, 1, 1] rfl (by kernel_rfl) ?_
    refine GoK.s rfl (Y.move rfl) ?_
    refine GoK.s rfl (Y.nilCheck rfl) ?_
    refine GoK.s rfl (Y.fieldAddrZ 27 Tryz.underlying138 rfl Tryz.sizeOf27 rfl) ?_
    refine GoK.s rfl (Y.load Tryz.isAgg27 rfl (Cell.a (by rfl))) ?_
    refine GoK.s rfl (Y.nilCheck rfl) ?_
    refine GoK.s rfl (Y.fieldAddr0 26 108 Tryz.underlying118 rfl Tryz.sizeOf108 rfl) ?_
    refine GoK.s rfl (Y.load Tryz.isAgg108 rfl (Cell.a (by rfl))) ?_
    refine GoK.s rfl (Y.move rfl) ?_
    refine GoK.s rfl (Y.move rfl) ?_
    refine GoK.s rfl (Y.nilCheck rfl) ?_
    refine GoK.s rfl (Y.fieldAddr0 8 3 Tryz.underlying138 rfl Tryz.sizeOf3 rfl) ?_
    refine GoK.s rfl (Y.load Tryz.isAgg3 rfl (Cell.a (by rfl))) ?_
    refine GoK.d3 rfl (Does.callE rfl Tryz.call130 rfl (gate_Up hk.gl hk.gsem) .auto) ?_
    rintro _ _ ⟨⟨⟩, -, rfl, rfl⟩
    refine GoK.s rfl (Y.move rfl) ?_
    refine GoK.s rfl (Y.extract (v := .int .i64 (d.s.gates.up d.i.n d.choice).1) rfl rfl) ?_
    refine GoK.s rfl (Y.extract (v := .bool (d.s.gates.up d.i.n d.choice).2.1) rfl rfl) ?_
    refine GoK.s rfl (Y.extract (v := .int .i64 (d.s.gates.up d.i.n d.choice).2.2.1) rfl rfl) ?_
    refine GoK.s rfl (Y.assign rfl) ?_
    refine GoK.s rfl (Y.assign rfl) ?_
    refine GoK.s rfl (Y.assign rfl) ?_
    refine GoK.nil ?_
    refine GoE.then_normal ?_
    refine GoC.seq ?_
    refine GoC.region ?_
    refine GoL.y rfl (Y.move rfl) ?_
    refine GoL.y rfl (Y.move rfl) ?_
    refine GoL.y rfl (Y.nilCheck rfl) ?_
    refine GoL.y rfl (Y.fieldAddr0 3 123 Tryz.underlying138 rfl Tryz.sizeOf123 rfl) ?_
    refine GoL.y rfl (Y.fieldAddr 4 43 Tryz.underlying123 rfl Tryz.sizeOf43 rfl) ?_
    refine GoL.y rfl (Y.load Tryz.isAgg43 rfl (Cell.a (by rfl))) ?_
    refine GoL.y rfl (Y.move rfl) ?_
    refine GoL.does rfl (Does.callE rfl Tryz.call89 rfl (dng_pass (d := d.withG (d.s.gates.up d.i.n d.choice).2.2.2) hp ht (Nat.le_trans hk.recs (by decide)) up_bd hk.R.l) .auto) ?_
    rintro _ _ ⟨⟨⟩, -, rfl, rfl⟩
    refine GoL.nil ?_
    refine GoE.then_normal ?_
    refine GoC.seq ?_
    refine GoC.region ?_
    refine GoL.y rfl (Y.move rfl) ?_
    refine GoL.y rfl (Y.move rfl) ?_
    refine GoL.y rfl (Y.move rfl) ?_
    refine GoL.does rfl (Does.callE rfl Tryz.call124 rfl (dng_given (n := (d.s.gates.up d.i.n d.choice).1) (ok := (d.s.gates.up d.i.n d.choice).2.1) (d := ((d.withG (d.s.gates.up d.i.n d.choice).2.2.2).pass d.i.n 0 (d.s.gates.up d.i.n d.choice).2.2.1)) (fun h => ⟨(hk.glive _ (up_has h)).1, ((hk.glive _ (up_has h)).2.of (s' := (d.withG (d.s.gates.up d.i.n d.choice).2.2.2).s) rfl).pass (d := d.withG (d.s.gates.up d.i.n d.choice).2.2.2) ht hk.R up_bd⟩) (Nat.le_trans hk.ends (by decide)) (Nat.le_trans hk.wok (by decide))) .auto) ?_
    rintro _ _ ⟨⟨⟩, -, rfl, rfl⟩
    refine GoL.nil ?_
    refine GoE.then_normal ?_
    refine GoC.ret ?_
    refine GoE.then_ret ?_
    rw [show d.sem = ((d.withG (d.s.gates.up d.i.n d.choice).2.2.2).pass d.i.n 0 (d.s.gates.up d.i.n d.choice).2.2.1).given (d.s.gates.up d.i.n d.choice).1 (d.s.gates.up d.i.n d.choice).2.1 from by unfold Dng.sem; rw [if_pos h19]]
    refine GoE.ret0 rfl fun w s => ⟨(), ?_, trivial, finE .auto s⟩
    rfl
  · refine GoC.skip ?_
    refine GoE.then_normal ?_
    refine GoC.seq ?_
    refine GoC.draw [arr bd 0 (dngC b p d vw ve), arr b 0 (spcC fv sv pv d.s.prg bt ps vm bg vt bk bw vr)] [1, 1, 1, 1, 1, 1, 1, 1, 1, 1, 1, 1, 3, 1, 1, 1, 1, 1] rfl (by kernel_rfl) ?_
    refine GoK.s rfl (Y.move rfl) ?_
    refine GoK.s rfl (Y.nilCheck rfl) ?_
    refine GoK.s rfl (Y.fieldAddrZ 27 Tryz.underlying138 rfl Tryz.sizeOf27 rfl) ?_
    refine GoK.s rfl (Y.load Tryz.isAgg27 rfl (Cell.a (by rfl))) ?_
    refine GoK.s rfl (Y.nilCheck rfl) ?_
    refine GoK.s rfl (Y.fieldAddr0 26 108 Tryz.underlying118 rfl Tryz.sizeOf108 rfl) ?_
    refine GoK.s rfl (Y.load Tryz.isAgg108 rfl (Cell.a (by rfl))) ?_
    refine GoK.s rfl (Y.move rfl) ?_
    refine GoK.s rfl (Y.nilCheck rfl) ?_
    refine GoK.s rfl (Y.fieldAddr0 1 3 Tryz.underlying138 rfl Tryz.sizeOf3 rfl) ?_
    refine GoK.s rfl (Y.load Tryz.isAgg3 rfl (Cell.a (by rfl))) ?_
    refine GoK.s rfl (Y.move rfl) ?_
    refine GoK.d3 rfl (Does.callE rfl Tryz.call131 rfl (gate_Down hk.gl hk.gsem) .auto) ?_
    rintro _ _ ⟨⟨⟩, -, rfl, rfl⟩
    refine GoK.s rfl (Y.move rfl) ?_
    refine GoK.s rfl (Y.extract (v := .bool (d.s.gates.down d.n d.i.n).1) rfl rfl) ?_
    refine GoK.s rfl (Y.extract (v := .int .i64 (d.s.gates.down d.n d.i.n).2.1) rfl rfl) ?_
    refine GoK.s rfl (Y.assign rfl) ?_
    refine GoK.s rfl (Y.assign rfl) ?_
    refine GoK.nil ?_
    refine GoE.then_normal ?_
    refine GoC.seq ?_
    refine GoC.seq ?_
    refine GoC.region ?_
    refine GoL.y rfl (Y.move rfl) ?_
    refine GoL.y rfl (Y.eql rfl rfl) ?_
    refine GoL.y rfl (Y.move rfl) ?_
    apply GoL.segAD 3 70 67 [67, 68, 69, 70] rfl
    · intro h67
      refine GoL.yg rfl rfl rfl (Y.move rfl) ?_
      refine GoL.yg rfl rfl rfl (Y.not rfl) ?_
      refine GoL.y rfl (Y.pickT rfl rfl) ?_
      refine GoL.nil ?_
      refine GoE.seg .auto rfl (by first | exact fun _ h => h | exact Ent.kept .auto)
    · intro h67
      refine GoL.skip rfl rfl rfl rfl ?_
      refine GoL.skip rfl rfl rfl rfl ?_
      refine GoL.y rfl (Y.pickF rfl rfl) ?_
      refine GoL.nil ?_
      refine GoE.seg .auto rfl (by first | exact fun _ h => h | exact Ent.kept .auto)
    refine GoL.nil ?_
    refine GoE.then_normal ?_
    refine GoC.cond rfl (fun h70 => ?_) (fun h70 => ?_)
    · simp only [Bool.and_eq_true, Bool.or_eq_true, Bool.and_eq_false_iff, Bool.or_eq_false_iff, decide_eq_true_eq, decide_eq_false_iff_not, Bool.not_eq_true', Bool.not_eq_false'] at h70
      refine GoC.seq ?_
      refine GoC.region ?_
      refine GoL.y rfl (Y.move rfl) ?_
      refine GoL.y rfl (Y.move rfl) ?_
      refine GoL.y rfl (Y.nilCheck rfl) ?_
      refine GoL.y rfl (Y.fieldAddr0 3 123 Tryz.underlying138 rfl Tryz.sizeOf123 rfl) ?_
      refine GoL.y rfl (Y.fieldAddr 4 43 Tryz.underlying123 rfl Tryz.sizeOf43 rfl) ?_
      refine GoL.y rfl (Y.load Tryz.isAgg43 rfl (Cell.a (by rfl))) ?_
      refine GoL.does rfl (Does.callE rfl Tryz.call121 rfl (dng_block (d := d.withG (d.s.gates.down d.n d.i.n).2.2) hp ht (Nat.le_trans hk.recs (by decide))) .auto) ?_
      rintro _ _ ⟨⟨⟩, -, rfl, rfl⟩
      refine GoL.nil ?_
      refine GoE.then_normal ?_
      refine GoC.ret ?_
      refine GoE.then_ret ?_
      rw [show d.sem = (d.withG (d.s.gates.down d.n d.i.n).2.2).block 3 (-1) d.i.n 0 from by unfold Dng.sem; rw [if_neg h19]; simp only; rw [if_pos h70]]
      refine GoE.ret0 rfl fun w s => ⟨(), ?_, trivial, finE .auto s⟩
      rfl
    · simp only [Bool.and_eq_true, Bool.or_eq_true, Bool.and_eq_false_iff, Bool.or_eq_false_iff, decide_eq_true_eq, decide_eq_false_iff_not, Bool.not_eq_true', Bool.not_eq_false'] at h70
      refine GoC.skip ?_
      refine GoE.then_normal ?_
      refine GoC.region ?_
      refine GoL.y rfl (Y.move rfl) ?_
      refine GoL.y rfl (Y.move rfl) ?_
      refine GoL.y rfl (Y.nilCheck rfl) ?_
      refine GoL.y rfl (Y.fieldAddr0 3 123 Tryz.underlying138 rfl Tryz.sizeOf123 rfl) ?_
      refine GoL.y rfl (Y.fieldAddr 4 43 Tryz.underlying123 rfl Tryz.sizeOf43 rfl) ?_
      refine GoL.y rfl (Y.load Tryz.isAgg43 rfl (Cell.a (by rfl))) ?_
      refine GoL.y rfl (Y.move rfl) ?_
      refine GoL.does rfl (Does.callE rfl Tryz.call89 rfl (dng_pass (d := d.withG (d.s.gates.down d.n d.i.n).2.2) hp ht (Nat.le_trans hk.recs (by decide)) down_bd hk.R.l) .auto) ?_
      rintro _ _ ⟨⟨⟩, -, rfl, rfl⟩
      refine GoL.nil ?_
      rw [show d.sem = (d.withG (d.s.gates.down d.n d.i.n).2.2).pass d.i.n 0 (d.s.gates.down d.n d.i.n).2.1 from by unfold Dng.sem; rw [if_neg h19]; simp only; rw [if_neg (by rintro ⟨a, b⟩; rcases h70 with h | h; exact h a; rw [b] at h; cases h)]]
      refine GoE.end0 rfl fun w s => ⟨(), ?_, trivial, finE .auto s⟩
      rfl

set_option maxRecDepth 20000 in
theorem dng_mutex {W : World} {bd b p : Nat} {ps : List (Option Nat)} {d : Dng} {t : Thr} (hp : ps[d.n]? = some (some p)) (ht : d.s.thr[d.n]? = some (some t)) (hk : CallOk ps d t) : Fn Tryz.prog W 93 [ptr bd] [dngX bd b p ps d] Unit (fun _ => .tuple #[]) (fun _ => True) (fun _ => [dngX bd b p ps (d.mutex)]) := by
  refine Fn.intro (N := 155) Tryz.func93 rfl Tryz.ntmps93 rfl fun F => ?_
  show GoC _ _ _ _ _ _ [dngX bd b p ps d, F]
  refine GoC.o2 (C := dngX bd b p ps (d)) .auto rfl ?_
  rintro vw ve -
  refine GoC.o10 (C := spcX b ps (d).s) .auto rfl ?_
  rintro fv sv pv bt vm bg vt bk bw vr -
  have hnn := hk.nn
  have hn0 := hk.I.n
  have hIc := hk.I.c
  have hwc := w64_id hIc
  refine GoC.seq ?_
  refine GoC.region ?_
  refine GoL.y rfl (Y.move rfl) ?_
  refine GoL.y rfl (Y.nilCheck rfl) ?_
  refine GoL.y rfl (Y.fieldAddr0 3 123 Tryz.underlying138 rfl Tryz.sizeOf123 rfl) ?_
  refine GoL.y rfl (Y.fieldAddr 4 43 Tryz.underlying123 rfl Tryz.sizeOf43 rfl) ?_
  refine GoL.y rfl (Y.load Tryz.isAgg43 rfl (Cell.a (by rfl))) ?_
  refine GoL.y rfl (Y.convI Tryz.underlying43 Tryz.underlying3 rfl (by omega)) ?_
  refine GoL.y rfl (Y.assign rfl) ?_
  refine GoL.nil ?_
  refine GoE.then_normal ?_
  refine GoC.seq ?_
  refine GoC.region ?_
  refine GoL.y rfl (Y.move rfl) ?_
  refine GoL.y rfl (Y.nilCheck rfl) ?_
  refine GoL.y rfl (Y.fieldAddr0 3 123 Tryz.underlying138 rfl Tryz.sizeOf123 rfl) ?_
  refine GoL.y rfl (Y.fieldAddrZ 3 Tryz.underlying123 rfl Tryz.sizeOf3 rfl) ?_
  refine GoL.y rfl (Y.load Tryz.isAgg3 rfl (Cell.a (by rfl))) ?_
  refine GoL.nil ?_
  refine GoE.then_normal ?_
  refine GoC.block ?_
  refine GoC.seq ?_
  refine GoC.region ?_
  refine GoL.y rfl (Y.eql rfl rfl) ?_
  refine GoL.y rfl (Y.assign rfl) ?_
  refine GoL.nil ?_
  refine GoE.then_normal ?_
  refine GoC.condD rfl (fun h81 => ?_) (fun h81 => ?_)
  · refine GoC.seq ?_
    refine GoC.draw [arr bd 0 (dngC b p d vw ve), arr b 0 (spcC fv sv pv d.s.prg bt ps vm bg vt bk bw vr)] [1, 1, 1, 1, 1, 1, 1, 1, 1, 1, 1, 1, 3, 1, 1, 1, 1, 1] rfl (by kernel_rfl) ?_
    refine GoK.s rfl (Y.move rfl) ?_
    refine GoK.s rfl (Y.nilCheck rfl) ?_
    refine GoK.s rfl (Y.fieldAddrZ 27 Tryz.underlying138 rfl Tryz.sizeOf27 rfl) ?_
    refine GoK.s rfl (Y.load Tryz.isAgg27 rfl (Cell.a (by rfl))) ?_
    refine GoK.s rfl (Y.nilCheck rfl) ?_
    refine GoK.s rfl (Y.fieldAddr0 26 108 Tryz.underlying118 rfl Tryz.sizeOf108 rfl) ?_
    refine GoK.s rfl (Y.load Tryz.isAgg108 rfl (Cell.a (by rfl))) ?_
    refine GoK.s rfl (Y.move rfl) ?_
    refine GoK.s rfl (Y.nilCheck rfl) ?_
    refine GoK.s rfl (Y.fieldAddr0 1 3 Tryz.underlying138 rfl Tryz.sizeOf3 rfl) ?_
    refine GoK.s rfl (Y.load Tryz.isAgg3 rfl (Cell.a (by rfl))) ?_
    refine GoK.s rfl (Y.move rfl) ?_
    refine GoK.d3 rfl (Does.callE rfl Tryz.call122 rfl (gate_Lock hk.gl) .auto) ?_
    rintro _ _ ⟨⟨⟩, -, rfl, rfl⟩
    refine GoK.s rfl (Y.move rfl) ?_
    refine GoK.s rfl (Y.extract (v := .bool (d.s.gates.lock d.n d.i.n).1) rfl rfl) ?_
    refine GoK.s rfl (Y.extract (v := .int .i64 (d.s.gates.lock d.n d.i.n).2.1) rfl rfl) ?_
    refine GoK.s rfl (Y.assign rfl) ?_
    refine GoK.s rfl (Y.assign rfl) ?_
    refine GoK.nil ?_
    refine GoE.then_normal ?_
    refine GoC.seq ?_
    refine GoC.seq ?_
    refine GoC.region ?_
    refine GoL.y rfl (Y.move rfl) ?_
    refine GoL.y rfl (Y.eql rfl rfl) ?_
    refine GoL.y rfl (Y.move rfl) ?_
    apply GoL.segAD 3 104 101 [101, 102, 103, 104] rfl
    · intro h101
      refine GoL.yg rfl rfl rfl (Y.move rfl) ?_
      refine GoL.yg rfl rfl rfl (Y.not rfl) ?_
      refine GoL.y rfl (Y.pickT rfl rfl) ?_
      refine GoL.nil ?_
      refine GoE.seg .auto rfl (by first | exact fun _ h => h | exact Ent.kept .auto)
    · intro h101
      refine GoL.skip rfl rfl rfl rfl ?_
      refine GoL.skip rfl rfl rfl rfl ?_
      refine GoL.y rfl (Y.pickF rfl rfl) ?_
      refine GoL.nil ?_
      refine GoE.seg .auto rfl (by first | exact fun _ h => h | exact Ent.kept .auto)
    refine GoL.nil ?_
    refine GoE.then_normal ?_
    refine GoC.cond rfl (fun h104 => ?_) (fun h104 => ?_)
    · simp only [Bool.and_eq_true, Bool.or_eq_true, Bool.and_eq_false_iff, Bool.or_eq_false_iff, decide_eq_true_eq, decide_eq_false_iff_not, Bool.not_eq_true', Bool.not_eq_false'] at h104
      refine GoC.seq ?_
      refine GoC.region ?_
      refine GoL.y rfl (Y.move rfl) ?_
      refine GoL.y rfl (Y.move rfl) ?_
      refine GoL.y rfl (Y.nilCheck rfl) ?_
      refine GoL.y rfl (Y.fieldAddr0 3 123 Tryz.underlying138 rfl Tryz.sizeOf123 rfl) ?_
      refine GoL.y rfl (Y.fieldAddr 4 43 Tryz.underlying123 rfl Tryz.sizeOf43 rfl) ?_
      refine GoL.y rfl (Y.load Tryz.isAgg43 rfl (Cell.a (by rfl))) ?_
      refine GoL.does rfl (Does.callE rfl Tryz.call121 rfl (dng_block (d := d.withG (d.s.gates.lock d.n d.i.n).2.2) hp ht (Nat.le_trans hk.recs (by decide))) .auto) ?_
      rintro _ _ ⟨⟨⟩, -, rfl, rfl⟩
      refine GoL.nil ?_
      refine GoE.then_normal ?_
      refine GoC.ret ?_
      refine GoE.then_ret (GoE.block_ret ?_)
      rw [show d.mutex = (d.withG (d.s.gates.lock d.n d.i.n).2.2).block 1 (-1) d.i.n 0 from by unfold Dng.mutex; simp only; rw [if_pos h81, if_pos h104]]
      refine GoE.ret0 rfl fun w s => ⟨(), ?_, trivial, finE .auto s⟩
      rfl
    · simp only [Bool.and_eq_true, Bool.or_eq_true, Bool.and_eq_false_iff, Bool.or_eq_false_iff, decide_eq_true_eq, decide_eq_false_iff_not, Bool.not_eq_true', Bool.not_eq_false'] at h104
      refine GoC.skip ?_
      refine GoE.then_normal ?_
      refine GoC.region ?_
      refine GoL.y rfl (Y.move rfl) ?_
      refine GoL.y rfl (Y.move rfl) ?_
      refine GoL.y rfl (Y.nilCheck rfl) ?_
      refine GoL.y rfl (Y.fieldAddr0 3 123 Tryz.underlying138 rfl Tryz.sizeOf123 rfl) ?_
      refine GoL.y rfl (Y.fieldAddr 4 43 Tryz.underlying123 rfl Tryz.sizeOf43 rfl) ?_
      refine GoL.y rfl (Y.load Tryz.isAgg43 rfl (Cell.a (by rfl))) ?_
      refine GoL.y rfl (Y.move rfl) ?_
      refine GoL.does rfl (Does.callE rfl Tryz.call89 rfl (dng_pass (d := d.withG (d.s.gates.lock d.n d.i.n).2.2) hp ht (Nat.le_trans hk.recs (by decide)) lock_bd hk.R.l) .auto) ?_
      rintro _ _ ⟨⟨⟩, -, rfl, rfl⟩
      refine GoL.nil ?_
      refine GoE.block_normal ?_
      rw [show d.mutex = (d.withG (d.s.gates.lock d.n d.i.n).2.2).pass d.i.n 0 (d.s.gates.lock d.n d.i.n).2.1 from by unfold Dng.mutex; simp only; rw [if_pos h81, if_neg (by rintro ⟨a, b⟩; rcases h104 with h | h; exact h a; rw [b] at h; cases h)]]
      refine GoE.end0 rfl fun w s => ⟨(), ?_, trivial, finE .auto s⟩
      rfl
  · refine GoC.seq ?_
    refine GoC.region ?_
    refine GoL.y rfl (Y.eql rfl rfl) ?_
    refine GoL.y rfl (Y.assign rfl) ?_
    refine GoL.nil ?_
    refine GoE.then_normal ?_
    refine GoC.condD rfl (fun h120 => ?_) (fun h120 => ?_)
    · refine GoC.seq ?_
      refine GoC.draw [arr bd 0 (dngC b p d vw ve), arr b 0 (spcC fv sv pv d.s.prg bt ps vm bg vt bk bw vr)] [1, 1, 1, 1, 1, 1, 1, 1, 1, 1, 1, 1, 1, 1, 1, 1, 3, 1, 1, 1, 1, 1, 1, 1] rfl (by kernel_rfl) ?_
      refine GoK.s rfl (Y.move rfl) ?_
      refine GoK.s rfl (Y.nilCheck rfl) ?_
      refine GoK.s rfl (Y.fieldAddrZ 27 Tryz.underlying138 rfl Tryz.sizeOf27 rfl) ?_
      refine GoK.s rfl (Y.load Tryz.isAgg27 rfl (Cell.a (by rfl))) ?_
      refine GoK.s rfl (Y.nilCheck rfl) ?_
      refine GoK.s rfl (Y.fieldAddr0 26 108 Tryz.underlying118 rfl Tryz.sizeOf108 rfl) ?_
      refine GoK.s rfl (Y.load Tryz.isAgg108 rfl (Cell.a (by rfl))) ?_
      refine GoK.s rfl (Y.move rfl) ?_
      refine GoK.s rfl (Y.nilCheck rfl) ?_
      refine GoK.s rfl (Y.fieldAddr0 1 3 Tryz.underlying138 rfl Tryz.sizeOf3 rfl) ?_
      refine GoK.s rfl (Y.load Tryz.isAgg3 rfl (Cell.a (by rfl))) ?_
      refine GoK.s rfl (Y.move rfl) ?_
      refine GoK.s rfl (Y.move rfl) ?_
      refine GoK.s rfl (Y.nilCheck rfl) ?_
      refine GoK.s rfl (Y.fieldAddr0 8 3 Tryz.underlying138 rfl Tryz.sizeOf3 rfl) ?_
      refine GoK.s rfl (Y.load Tryz.isAgg3 rfl (Cell.a (by rfl))) ?_
      refine GoK.d3 rfl (Does.callE rfl Tryz.call123 rfl (gate_Unlock hk.gl) .auto) ?_
      rintro _ _ ⟨⟨⟩, -, rfl, rfl⟩
      refine GoK.s rfl (Y.move rfl) ?_
      refine GoK.s rfl (Y.extract (v := .int .i64 (d.s.gates.unlock d.n d.i.n d.choice).1) rfl rfl) ?_
      refine GoK.s rfl (Y.extract (v := .bool (d.s.gates.unlock d.n d.i.n d.choice).2.1) rfl rfl) ?_
      refine GoK.s rfl (Y.extract (v := .int .i64 (d.s.gates.unlock d.n d.i.n d.choice).2.2.1) rfl rfl) ?_
      refine GoK.s rfl (Y.assign rfl) ?_
      refine GoK.s rfl (Y.assign rfl) ?_
      refine GoK.s rfl (Y.assign rfl) ?_
      refine GoK.nil ?_
      refine GoE.then_normal ?_
      refine GoC.seq ?_
      refine GoC.region ?_
      refine GoL.y rfl (Y.move rfl) ?_
      refine GoL.y rfl (Y.move rfl) ?_
      refine GoL.y rfl (Y.nilCheck rfl) ?_
      refine GoL.y rfl (Y.fieldAddr0 3 123 Tryz.underlying138 rfl Tryz.sizeOf123 rfl) ?_
      refine GoL.y rfl (Y.fieldAddr 4 43 Tryz.underlying123 rfl Tryz.sizeOf43 rfl) ?_
      refine GoL.y rfl (Y.load Tryz.isAgg43 rfl (Cell.a (by rfl))) ?_
      refine GoL.y rfl (Y.move rfl) ?_
      refine GoL.does rfl (Does.callE rfl Tryz.call89 rfl (dng_pass (d := d.withG (d.s.gates.unlock d.n d.i.n d.choice).2.2.2) hp ht (Nat.le_trans hk.recs (by decide)) unlock_bd hk.R.l) .auto) ?_
      rintro _ _ ⟨⟨⟩, -, rfl, rfl⟩
      refine GoL.nil ?_
      refine GoE.then_normal ?_
      refine GoC.region ?_
      refine GoL.y rfl (Y.move rfl) ?_
      refine GoL.y rfl (Y.move rfl) ?_
      refine GoL.y rfl (Y.move rfl) ?_
      refine GoL.does rfl (Does.callE rfl Tryz.call124 rfl (dng_given (n := (d.s.gates.unlock d.n d.i.n d.choice).1) (ok := (d.s.gates.unlock d.n d.i.n d.choice).2.1) (d := ((d.withG (d.s.gates.unlock d.n d.i.n d.choice).2.2.2).pass d.i.n 0 (d.s.gates.unlock d.n d.i.n d.choice).2.2.1)) (fun h => ⟨(hk.glive _ (unlock_has h)).1, ((hk.glive _ (unlock_has h)).2.of (s' := (d.withG (d.s.gates.unlock d.n d.i.n d.choice).2.2.2).s) rfl).pass (d := d.withG (d.s.gates.unlock d.n d.i.n d.choice).2.2.2) ht hk.R unlock_bd⟩) (Nat.le_trans hk.ends (by decide)) (Nat.le_trans hk.wok (by decide))) .auto) ?_
      rintro _ _ ⟨⟨⟩, -, rfl, rfl⟩
      refine GoL.nil ?_
      refine GoE.block_normal ?_
      rw [show d.mutex = ((d.withG (d.s.gates.unlock d.n d.i.n d.choice).2.2.2).pass d.i.n 0 (d.s.gates.unlock d.n d.i.n d.choice).2.2.1).given (d.s.gates.unlock d.n d.i.n d.choice).1 (d.s.gates.unlock d.n d.i.n d.choice).2.1 from by unfold Dng.mutex; simp only; rw [if_neg h81, if_pos h120]]
      refine GoE.end0 rfl fun w s => ⟨(), ?_, trivial, finE .auto s⟩
      rfl
    · refine GoC.seq ?_
      refine GoC.draw [arr bd 0 (dngC b p d vw ve), arr b 0 (spcC fv sv pv d.s.prg bt ps vm bg vt bk bw vr)] [1, 1, 1, 1, 1, 1, 1, 1, 1, 1, 1, 1, 1, 1, 1, 1, 1, 1, 1, 1, 1, 3, 1, 1, 1, 1, 1, 1, 1] rfl (by kernel_rfl) ?_
      refine GoK.s rfl (Y.move rfl) ?_
      refine GoK.s rfl (Y.nilCheck rfl) ?_
      refine GoK.s rfl (Y.fieldAddrZ 27 Tryz.underlying138 rfl Tryz.sizeOf27 rfl) ?_
      refine GoK.s rfl (Y.load Tryz.isAgg27 rfl (Cell.a (by rfl))) ?_
      refine GoK.s rfl (Y.nilCheck rfl) ?_
      refine GoK.s rfl (Y.fieldAddr0 26 108 Tryz.underlying118 rfl Tryz.sizeOf108 rfl) ?_
      refine GoK.s rfl (Y.load Tryz.isAgg108 rfl (Cell.a (by rfl))) ?_
      refine GoK.s rfl (Y.move rfl) ?_
      refine GoK.s rfl (Y.nilCheck rfl) ?_
      refine GoK.s rfl (Y.fieldAddr0 1 3 Tryz.underlying138 rfl Tryz.sizeOf3 rfl) ?_
      refine GoK.s rfl (Y.load Tryz.isAgg3 rfl (Cell.a (by rfl))) ?_
      refine GoK.s rfl (Y.move rfl) ?_
      refine GoK.s rfl (Y.move rfl) ?_
      refine GoK.s rfl (Y.nilCheck rfl) ?_
      refine GoK.s rfl (Y.fieldAddr0 3 123 Tryz.underlying138 rfl Tryz.sizeOf123 rfl) ?_
      refine GoK.s rfl (Y.fieldAddr 3 3 Tryz.underlying123 rfl Tryz.sizeOf3 rfl) ?_
      refine GoK.s rfl (Y.load Tryz.isAgg3 rfl (Cell.a (by rfl))) ?_
      refine GoK.s rfl (Y.move rfl) ?_
      refine GoK.s rfl (Y.nilCheck rfl) ?_
      refine GoK.s rfl (Y.fieldAddr0 8 3 Tryz.underlying138 rfl Tryz.sizeOf3 rfl) ?_
      refine GoK.s rfl (Y.load Tryz.isAgg3 rfl (Cell.a (by rfl))) ?_
      refine GoK.d3 rfl (Does.callE rfl Tryz.call125 rfl (gate_Wait hk.gl) .auto) ?_
      rintro _ _ ⟨⟨⟩, -, rfl, rfl⟩
      refine GoK.s rfl (Y.move rfl) ?_
      refine GoK.s rfl (Y.extract (v := .int .i64 (d.s.gates.wait d.n d.i.n d.i.c d.choice).1) rfl rfl) ?_
      refine GoK.s rfl (Y.extract (v := .bool (d.s.gates.wait d.n d.i.n d.i.c d.choice).2.1) rfl rfl) ?_
      refine GoK.s rfl (Y.extract (v := .int .i64 (d.s.gates.wait d.n d.i.n d.i.c d.choice).2.2.1) rfl rfl) ?_
      refine GoK.s rfl (Y.assign rfl) ?_
      refine GoK.s rfl (Y.assign rfl) ?_
      refine GoK.s rfl (Y.assign rfl) ?_
      refine GoK.nil ?_
      refine GoE.then_normal ?_
      refine GoC.seq ?_
      refine GoC.seq ?_
      refine GoC.region ?_
      refine GoL.y rfl (Y.move rfl) ?_
      refine GoL.y rfl (Y.neq rfl rfl) ?_
      refine GoL.nil ?_
      refine GoE.then_normal ?_
      refine GoC.condD rfl (fun h48 => ?_) (fun h48 => ?_)
      · refine GoC.seq ?_
        refine GoC.draw [] [1, 1, 1, 1, 1, 1, 1, 1, 1, 1, 1, 1, 1, 3] rfl (by kernel_rfl) ?_
        refine GoK.s rfl (Y.move rfl) ?_
        refine GoK.s rfl (Y.move rfl) ?_
        refine GoK.s rfl (Y.nilCheck rfl) ?_
        refine GoK.s rfl (Y.fieldAddr0 3 123 Tryz.underlying138 rfl Tryz.sizeOf123 rfl) ?_
        refine GoK.s rfl (Y.fieldAddr 4 43 Tryz.underlying123 rfl Tryz.sizeOf43 rfl) ?_
        refine GoK.s rfl (Y.load Tryz.isAgg43 rfl (Cell.a (by rfl))) ?_
        refine GoK.s rfl (Y.move rfl) ?_
        refine GoK.s rfl (Y.nilCheck rfl) ?_
        refine GoK.s rfl (Y.fieldAddr0 3 123 Tryz.underlying138 rfl Tryz.sizeOf123 rfl) ?_
        refine GoK.s rfl (Y.fieldAddr 3 3 Tryz.underlying123 rfl Tryz.sizeOf3 rfl) ?_
        refine GoK.s rfl (Y.load Tryz.isAgg3 rfl (Cell.a (by rfl))) ?_
        refine GoK.s rfl (Y.convU Tryz.underlying3 Tryz.underlying43 rfl (by omega)) ?_
        refine GoK.s rfl (Y.move rfl) ?_
        refine GoK.d3 rfl (Does.callE rfl Tryz.call89 rfl (dng_pass (d := d.withG (d.s.gates.wait d.n d.i.n d.i.c d.choice).2.2.2) hp ht (Nat.le_trans hk.recs (by decide)) wait_bd hk.R.l) .auto) ?_
        rintro _ _ ⟨⟨⟩, -, rfl, rfl⟩
        refine GoK.nil ?_
        refine GoE.then_normal ?_
        refine GoC.ret ?_
        refine GoE.then_ret (GoE.block_ret ?_)
        rw [show d.mutex = (d.withG (d.s.gates.wait d.n d.i.n d.i.c d.choice).2.2.2).pass d.i.n d.i.c (d.s.gates.wait d.n d.i.n d.i.c d.choice).2.2.1 from by unfold Dng.mutex; simp only; rw [if_neg h81, if_neg h120, if_pos h48, hwc]]
        refine GoE.ret0 rfl fun w s => ⟨(), ?_, trivial, finE .auto s⟩
        rfl
      · refine GoC.skip ?_
        refine GoE.then_normal ?_
        refine GoC.seq ?_
        refine GoC.draw [] [1, 1, 1, 1, 1, 1, 1, 1, 1, 1, 1, 1, 3] rfl (by kernel_rfl) ?_
        refine GoK.s rfl (Y.move rfl) ?_
        refine GoK.s rfl (Y.move rfl) ?_
        refine GoK.s rfl (Y.nilCheck rfl) ?_
        refine GoK.s rfl (Y.fieldAddr0 3 123 Tryz.underlying138 rfl Tryz.sizeOf123 rfl) ?_
        refine GoK.s rfl (Y.fieldAddr 4 43 Tryz.underlying123 rfl Tryz.sizeOf43 rfl) ?_
        refine GoK.s rfl (Y.load Tryz.isAgg43 rfl (Cell.a (by rfl))) ?_
        refine GoK.s rfl (Y.move rfl) ?_
        refine GoK.s rfl (Y.nilCheck rfl) ?_
        refine GoK.s rfl (Y.fieldAddr0 3 123 Tryz.underlying138 rfl Tryz.sizeOf123 rfl) ?_
        refine GoK.s rfl (Y.fieldAddr 3 3 Tryz.underlying123 rfl Tryz.sizeOf3 rfl) ?_
        refine GoK.s rfl (Y.load Tryz.isAgg3 rfl (Cell.a (by rfl))) ?_
        refine GoK.s rfl (Y.convU Tryz.underlying3 Tryz.underlying43 rfl (by omega)) ?_
        refine GoK.d3 rfl (Does.callE rfl Tryz.call121 rfl (dng_block (d := d.withG (d.s.gates.wait d.n d.i.n d.i.c d.choice).2.2.2) hp ht (Nat.le_trans hk.recs (by decide))) .auto) ?_
        rintro _ _ ⟨⟨⟩, -, rfl, rfl⟩
        refine GoK.nil ?_
        refine GoE.then_normal ?_
        refine GoC.region ?_
        refine GoL.y rfl (Y.move rfl) ?_
        refine GoL.y rfl (Y.move rfl) ?_
        refine GoL.y rfl (Y.move rfl) ?_
        refine GoL.does rfl (Does.callE rfl Tryz.call124 rfl (dng_given (n := (d.s.gates.wait d.n d.i.n d.i.c d.choice).1) (ok := (d.s.gates.wait d.n d.i.n d.i.c d.choice).2.1) (d := ((d.withG (d.s.gates.wait d.n d.i.n d.i.c d.choice).2.2.2).block 2 (-1) d.i.n d.i.c)) (fun h => ⟨(hk.glive _ (wait_has h)).1, ((hk.glive _ (wait_has h)).2.of (s' := (d.withG (d.s.gates.wait d.n d.i.n d.i.c d.choice).2.2.2).s) rfl).block (d := d.withG (d.s.gates.wait d.n d.i.n d.i.c d.choice).2.2.2) ht hk.R (by decide)⟩) (Nat.le_trans hk.ends (by decide)) (Nat.le_trans hk.wok (by decide))) .auto) ?_
        rintro _ _ ⟨⟨⟩, -, rfl, rfl⟩
        refine GoL.nil ?_
        refine GoE.block_normal ?_
        rw [show d.mutex = ((d.withG (d.s.gates.wait d.n d.i.n d.i.c d.choice).2.2.2).block 2 (-1) d.i.n d.i.c).given (d.s.gates.wait d.n d.i.n d.i.c d.choice).1 (d.s.gates.wait d.n d.i.n d.i.c d.choice).2.1 from by unfold Dng.mutex; simp only; rw [if_neg h81, if_neg h120, if_neg h48, hwc]]
        refine GoE.end0 rfl fun w s => ⟨(), ?_, trivial, finE .auto s⟩
        rfl

end Go.SLYtpcjdohmjmeehaaGreat
namespace Go.SLYtpcjdohmjmeehaaGreat
open Go Go.RowKit Go.Proofs

set_option maxRecDepth 20000 in
theorem dng_put {W : World} {bd b p : Nat} {ps : List (Option Nat)} {d : Dng} {t : Thr} (hp : ps[d.n]? = some (some p)) (ht : d.s.thr[d.n]? = some (some t)) (hk : CallOk ps d t) (hop : d.i.op = 35 ∨ d.i.op = 36) : Fn Tryz.prog W 133 [ptr bd] [dngX bd b p ps d] Unit (fun _ => .tuple #[]) (fun _ => True) (fun _ => [dngX bd b p ps (d.put)]) := by
  refine Fn.intro (N := 57) Tryz.func133 rfl Tryz.ntmps133 rfl fun F => ?_
  show GoC _ _ _ _ _ _ [dngX bd b p ps d, F]
  refine GoC.o2 (C := dngX bd b p ps (d)) .auto rfl ?_
  rintro vw ve -
  refine GoC.o10 (C := spcX b ps (d).s) .auto rfl ?_
  rintro fv sv pv bt vm bg vt bk bw vr -
  have hnn := hk.nn
  have hn0 := hk.I.n
  refine GoC.o1 (C := tubsH vt d.s.tubes) .auto rfl ?_
  rintro xs hxs
  obtain ⟨xq, hx, hmem⟩ := tube_at hxs hn0.1 (hk.tub hop)
  have hxl : xs.length = d.s.tubes.length := by rw [← hxs, List.length_map]
  have hti := hk.tub hop
  refine GoC.fr .auto (thrs_out hp ht) ?_
  refine GoC.seq ?_
  refine GoC.draw [] [1, 1, 1, 1, 1, 1, 1, 1, 1, 1, 1, 1, 1, 1, 1] rfl (by kernel_rfl) ?_
  refine GoK.s rfl (Y.move rfl) ?_
  refine GoK.s rfl (Y.nilCheck rfl) ?_
  refine GoK.s rfl (Y.fieldAddrZ 27 Tryz.underlying138 rfl Tryz.sizeOf27 rfl) ?_
  refine GoK.s rfl (Y.load Tryz.isAgg27 rfl (Cell.a (by rfl))) ?_
  refine GoK.s rfl (Y.nilCheck rfl) ?_
  refine GoK.s rfl (Y.fieldAddr0 27 116 Tryz.underlying118 rfl Tryz.sizeOf116 rfl) ?_
  refine GoK.s rfl (Y.load Tryz.isAgg116 rfl (Cell.a (by rfl))) ?_
  refine GoK.s rfl (Y.move rfl) ?_
  refine GoK.s rfl (Y.nilCheck rfl) ?_
  refine GoK.s rfl (Y.fieldAddr0 3 123 Tryz.underlying138 rfl Tryz.sizeOf123 rfl) ?_
  refine GoK.s rfl (Y.fieldAddr 4 43 Tryz.underlying123 rfl Tryz.sizeOf43 rfl) ?_
  refine GoK.s rfl (Y.load Tryz.isAgg43 rfl (Cell.a (by rfl))) ?_
  refine GoK.s rfl (Y.ixRd d.i.n.toNat Tryz.underlying116 Tryz.sizeOf124 rfl rfl Rd.s (by omega) (by omega)) ?_
  refine GoK.s rfl (Y.load Tryz.isAgg124 rfl (Cell.rd0 Rd.s hx (by rfl))) ?_
  refine GoK.s rfl (Y.assign rfl) ?_
  refine GoK.nil ?_
  refine GoE.then_normal ?_
  refine GoC.seq ?_
  refine GoC.region ?_
  refine GoL.y rfl (Y.move rfl) ?_
  refine GoL.does rfl (Does.callE rfl Tryz.call92 rfl (dng_aP ht hk.I.a) .auto) ?_
  rintro _ _ ⟨⟨⟩, -, rfl, rfl⟩
  refine GoL.y rfl (Y.assign rfl) ?_
  refine GoL.nil ?_
  refine GoE.then_normal ?_
  refine GoC.seq ?_
  refine GoC.region ?_
  obtain ⟨x, hx0⟩ : ∃ x, x = d.a := ⟨_, rfl⟩
  rw [← hx0]
  refine GoL.y rfl (Y.move rfl) ?_
  refine GoL.y rfl (Y.move rfl) ?_
  refine GoL.y rfl (Y.nilCheck rfl) ?_
  refine GoL.y rfl (Y.fieldAddr0 1 3 Tryz.underlying138 rfl Tryz.sizeOf3 rfl) ?_
  refine GoL.y rfl (Y.load Tryz.isAgg3 rfl (Cell.a (by rfl))) ?_
  refine GoL.y rfl (Y.move rfl) ?_
  refine GoL.fr .auto (allH_out (f := fun x : Nat × Tub => tubH x.1 x.2) hx) ?_
  refine GoL.does rfl (Does.callE rfl Tryz.call162 rfl (tube_Put (hk.tl _ hmem)) .auto) ?_
  rintro _ _ ⟨⟨⟩, -, rfl, rfl⟩
  refine GoL.to (A := tubsH vt (d.s.tubes.set d.i.n.toNat (d.tube.put d.n x).2.2.2)) (Bs := [sl ptrE 1 vt xs, tubH xq (d.tube.put d.n x).2.2.2, allH (fun x : Nat × Tub => tubH x.1 x.2) (xs.eraseIdx d.i.n.toNat)]) .auto (tubs_in hx hxs (d.tube.put d.n x).2.2.2) ?_
  refine GoL.to (A := thrsH ps d.s.thr) (Bs := [arr p 0 (thrC t), thrsH (ps.set d.n none) (d.s.thr.set d.n none)]) .auto (thrs_keep hp ht) ?_
  refine GoL.y rfl (Y.move rfl) ?_
  refine GoL.y rfl (Y.extract (v := .bool (d.tube.put d.n x).1) rfl rfl) ?_
  refine GoL.y rfl (Y.extract (v := .int .i64 (d.tube.put d.n x).2.1) rfl rfl) ?_
  refine GoL.y rfl (Y.extract (v := .bool (d.tube.put d.n x).2.2.1) rfl rfl) ?_
  refine GoL.y rfl (Y.assign rfl) ?_
  refine GoL.y rfl (Y.assign rfl) ?_
  refine GoL.y rfl (Y.assign rfl) ?_
  refine GoL.nil ?_
  refine GoE.then_normal ?_
  refine GoC.seq ?_
  refine GoC.seq ?_
  refine GoC.region ?_
  refine GoL.y rfl (Y.move rfl) ?_
  refine GoL.y rfl (Y.not rfl) ?_
  refine GoL.nil ?_
  refine GoE.then_normal ?_
  refine GoC.cond rfl (fun h35 => ?_) (fun h35 => ?_)
  · refine GoC.seq ?_
    refine GoC.region ?_
    refine GoL.y rfl (Y.move rfl) ?_
    refine GoL.y rfl (Y.move rfl) ?_
    refine GoL.y rfl (Y.nilCheck rfl) ?_
    refine GoL.y rfl (Y.fieldAddr0 3 123 Tryz.underlying138 rfl Tryz.sizeOf123 rfl) ?_
    refine GoL.y rfl (Y.fieldAddr 4 43 Tryz.underlying123 rfl Tryz.sizeOf43 rfl) ?_
    refine GoL.y rfl (Y.load Tryz.isAgg43 rfl (Cell.a (by rfl))) ?_
    refine GoL.y rfl (Y.move rfl) ?_
    refine GoL.does rfl (Does.callE rfl Tryz.call121 rfl (dng_block (d := (d.withU d.i.n.toNat (d.tube.put d.n x).2.2.2)) hp ht (Nat.le_trans hk.recs (by decide))) .auto) ?_
    rintro _ _ ⟨⟨⟩, -, rfl, rfl⟩
    refine GoL.nil ?_
    refine GoE.then_normal ?_
    refine GoC.ret ?_
    refine GoE.then_ret ?_
    rw [show d.put = (d.withU d.i.n.toNat (d.tube.put d.n x).2.2.2).block 7 (-1) d.i.n x from by unfold Dng.put; rw [← hx0]; simp only; rw [if_pos (by simpa using h35)]]
    refine GoE.ret0 rfl fun w s => ⟨(), ?_, trivial, finE .auto s⟩
    rfl
  · refine GoC.skip ?_
    refine GoE.then_normal ?_
    refine GoC.seq ?_
    refine GoC.region ?_
    refine GoL.y rfl (Y.move rfl) ?_
    refine GoL.y rfl (Y.move rfl) ?_
    refine GoL.y rfl (Y.nilCheck rfl) ?_
    refine GoL.y rfl (Y.fieldAddr0 3 123 Tryz.underlying138 rfl Tryz.sizeOf123 rfl) ?_
    refine GoL.y rfl (Y.fieldAddr 4 43 Tryz.underlying123 rfl Tryz.sizeOf43 rfl) ?_
    refine GoL.y rfl (Y.load Tryz.isAgg43 rfl (Cell.a (by rfl))) ?_
    refine GoL.y rfl (Y.move rfl) ?_
    refine GoL.does rfl (Does.callE rfl Tryz.call89 rfl (dng_pass (d := (d.withU d.i.n.toNat (d.tube.put d.n x).2.2.2)) hp ht (Nat.le_trans hk.recs (by decide)) (by decide) hk.R.l) .auto) ?_
    rintro _ _ ⟨⟨⟩, -, rfl, rfl⟩
    refine GoL.nil ?_
    refine GoE.then_normal ?_
    refine GoC.seq ?_
    refine GoC.region ?_
    refine GoL.y rfl (Y.move rfl) ?_
    refine GoL.nil ?_
    refine GoE.then_normal ?_
    refine GoC.cond rfl (fun h52 => ?_) (fun h52 => ?_)
    · have hlv := (hk.tlive _ hmem).1 _ (put_live h52)
      obtain ⟨hw16, q, u, hq, hu, hRu⟩ := (hlv.2.of (s' := (d.withU d.i.n.toNat (d.tube.put d.n x).2.2.2).s) rfl).pass (x := d.i.n) (y := x) (e := 0) (d := (d.withU d.i.n.toNat (d.tube.put d.n x).2.2.2)) ht hk.R (by decide)
      refine GoC.region ?_
      refine GoL.y rfl (Y.move rfl) ?_
      refine GoL.y rfl (Y.move rfl) ?_
      refine GoL.y rfl (Y.move rfl) ?_
      refine GoL.does rfl (Does.callE rfl Tryz.call86 rfl (dng_goesI (d := (d.withU d.i.n.toNat (d.tube.put d.n x).2.2.2).pass d.i.n x 0) hlv.1 hq hu hw16 hRu (Nat.le_trans hk.ends (by decide)) (Nat.le_trans hk.wok (by decide))) .auto) ?_
      rintro _ _ ⟨⟨⟩, -, rfl, rfl⟩
      refine GoL.nil ?_
      rw [show d.put = ((d.withU d.i.n.toNat (d.tube.put d.n x).2.2.2).pass d.i.n x 0).goes (d.tube.put d.n x).2.1.toNat x from by unfold Dng.put; rw [← hx0]; simp only; rw [if_neg (by simpa using h35), if_pos h52]]
      refine GoE.end0 rfl fun w s => ⟨(), ?_, trivial, finE .auto s⟩
      rfl
    · refine GoC.skip ?_
      rw [show d.put = (d.withU d.i.n.toNat (d.tube.put d.n x).2.2.2).pass d.i.n x 0 from by unfold Dng.put; rw [← hx0]; simp only; rw [if_neg (by simpa using h35), if_neg (by rw [h52]; simp)]]
      refine GoE.end0 rfl fun w s => ⟨(), ?_, trivial, finE .auto s⟩
      rfl

set_option maxRecDepth 20000 in
theorem dng_get {W : World} {bd b p : Nat} {ps : List (Option Nat)} {d : Dng} {t : Thr} (hp : ps[d.n]? = some (some p)) (ht : d.s.thr[d.n]? = some (some t)) (hk : CallOk ps d t) (hop : d.i.op = 35 ∨ d.i.op = 36) : Fn Tryz.prog W 134 [ptr bd] [dngX bd b p ps d] Unit (fun _ => .tuple #[]) (fun _ => True) (fun _ => [dngX bd b p ps (d.get)]) := by
  refine Fn.intro (N := 70) Tryz.func134 rfl Tryz.ntmps134 rfl fun F => ?_
  show GoC _ _ _ _ _ _ [dngX bd b p ps d, F]
  refine GoC.o2 (C := dngX bd b p ps (d)) .auto rfl ?_
  rintro vw ve -
  refine GoC.o10 (C := spcX b ps (d).s) .auto rfl ?_
  rintro fv sv pv bt vm bg vt bk bw vr -
  have hnn := hk.nn
  have hn0 := hk.I.n
  refine GoC.o1 (C := tubsH vt d.s.tubes) .auto rfl ?_
  rintro xs hxs
  obtain ⟨xq, hx, hmem⟩ := tube_at hxs hn0.1 (hk.tub hop)
  have hxl : xs.length = d.s.tubes.length := by rw [← hxs, List.length_map]
  have hti := hk.tub hop
  have hIa := hk.I.a
  have hRl := hk.R.l
  refine GoC.seq ?_
  refine GoC.fr .auto (allH_out (f := fun x : Nat × Tub => tubH x.1 x.2) hx) ?_
  refine GoC.draw [arr bd 0 (dngC b p d vw ve), arr b 0 (spcC fv sv pv d.s.prg bt ps vm bg vt bk bw vr), sl ptrE 1 vt xs] [1, 1, 1, 1, 1, 1, 1, 1, 1, 1, 1, 1, 1, 1, 1, 1, 1, 1, 3, 1, 1, 1, 1, 1, 1, 1, 1, 1] rfl (by kernel_rfl) ?_
  refine GoK.s rfl (Y.move rfl) ?_
  refine GoK.s rfl (Y.nilCheck rfl) ?_
  refine GoK.s rfl (Y.fieldAddrZ 27 Tryz.underlying138 rfl Tryz.sizeOf27 rfl) ?_
  refine GoK.s rfl (Y.load Tryz.isAgg27 rfl (Cell.a (by rfl))) ?_
  refine GoK.s rfl (Y.nilCheck rfl) ?_
  refine GoK.s rfl (Y.fieldAddr0 27 116 Tryz.underlying118 rfl Tryz.sizeOf116 rfl) ?_
  refine GoK.s rfl (Y.load Tryz.isAgg116 rfl (Cell.a (by rfl))) ?_
  refine GoK.s rfl (Y.move rfl) ?_
  refine GoK.s rfl (Y.nilCheck rfl) ?_
  refine GoK.s rfl (Y.fieldAddr0 3 123 Tryz.underlying138 rfl Tryz.sizeOf123 rfl) ?_
  refine GoK.s rfl (Y.fieldAddr 4 43 Tryz.underlying123 rfl Tryz.sizeOf43 rfl) ?_
  refine GoK.s rfl (Y.load Tryz.isAgg43 rfl (Cell.a (by rfl))) ?_
  refine GoK.s rfl (Y.ixRd d.i.n.toNat Tryz.underlying116 Tryz.sizeOf124 rfl rfl Rd.s (by omega) (by omega)) ?_
  refine GoK.s rfl (Y.load Tryz.isAgg124 rfl (Cell.rd0 Rd.s hx (by rfl))) ?_
  refine GoK.s rfl (Y.move rfl) ?_
  refine GoK.s rfl (Y.nilCheck rfl) ?_
  refine GoK.s rfl (Y.fieldAddr0 1 3 Tryz.underlying138 rfl Tryz.sizeOf3 rfl) ?_
  refine GoK.s rfl (Y.load Tryz.isAgg3 rfl (Cell.a (by rfl))) ?_
  refine GoK.d3 rfl (Does.callE rfl Tryz.call163 rfl (tube_Get (hk.tl _ hmem)) .auto) ?_
  rintro _ _ ⟨⟨⟩, -, rfl, rfl⟩
  refine GoK.s rfl (Y.move rfl) ?_
  refine GoK.s rfl (Y.extract (v := .int .u64 (d.tube.get d.n).1) rfl rfl) ?_
  refine GoK.s rfl (Y.extract (v := .bool (d.tube.get d.n).2.1) rfl rfl) ?_
  refine GoK.s rfl (Y.extract (v := .int .i64 (d.tube.get d.n).2.2.1) rfl rfl) ?_
  refine GoK.s rfl (Y.extract (v := .bool (d.tube.get d.n).2.2.2.1) rfl rfl) ?_
  refine GoK.s rfl (Y.assign rfl) ?_
  refine GoK.s rfl (Y.assign rfl) ?_
  refine GoK.s rfl (Y.assign rfl) ?_
  refine GoK.s rfl (Y.assign rfl) ?_
  refine GoK.nil ?_
  refine GoE.then_normal ?_
  refine GoC.seq ?_
  refine GoC.seq ?_
  refine GoC.region ?_
  refine GoL.y rfl (Y.move rfl) ?_
  refine GoL.y rfl (Y.not rfl) ?_
  refine GoL.nil ?_
  refine GoE.then_normal ?_
  refine GoC.cond rfl (fun h31 => ?_) (fun h31 => ?_)
  · refine GoC.seq ?_
    refine GoC.to (A := tubsH vt (d.s.tubes.set d.i.n.toNat (d.tube.get d.n).2.2.2.2)) (Bs := [sl ptrE 1 vt xs, tubH xq (d.tube.get d.n).2.2.2.2, allH (fun x : Nat × Tub => tubH x.1 x.2) (xs.eraseIdx d.i.n.toNat)]) .auto (tubs_in hx hxs (d.tube.get d.n).2.2.2.2) ?_
    refine GoC.draw [] [1, 1, 1, 1, 1, 1, 1, 1, 1, 1, 1, 3] rfl (by kernel_rfl) ?_
    refine GoK.s rfl (Y.move rfl) ?_
    refine GoK.s rfl (Y.move rfl) ?_
    refine GoK.s rfl (Y.nilCheck rfl) ?_
    refine GoK.s rfl (Y.fieldAddr0 3 123 Tryz.underlying138 rfl Tryz.sizeOf123 rfl) ?_
    refine GoK.s rfl (Y.fieldAddr 1 3 Tryz.underlying123 rfl Tryz.sizeOf3 rfl) ?_
    refine GoK.s rfl (Y.load Tryz.isAgg3 rfl (Cell.a (by rfl))) ?_
    refine GoK.s rfl (Y.move rfl) ?_
    refine GoK.s rfl (Y.nilCheck rfl) ?_
    refine GoK.s rfl (Y.fieldAddr0 3 123 Tryz.underlying138 rfl Tryz.sizeOf123 rfl) ?_
    refine GoK.s rfl (Y.fieldAddr 4 43 Tryz.underlying123 rfl Tryz.sizeOf43 rfl) ?_
    refine GoK.s rfl (Y.load Tryz.isAgg43 rfl (Cell.a (by rfl))) ?_
    refine GoK.d3 rfl (Does.callE rfl Tryz.call121 rfl (dng_block (d := (d.withU d.i.n.toNat (d.tube.get d.n).2.2.2.2)) hp ht (Nat.le_trans hk.recs (by decide))) .auto) ?_
    rintro _ _ ⟨⟨⟩, -, rfl, rfl⟩
    refine GoK.nil ?_
    refine GoE.then_normal ?_
    refine GoC.ret ?_
    refine GoE.then_ret ?_
    rw [show d.get = (d.withU d.i.n.toNat (d.tube.get d.n).2.2.2.2).block 6 d.i.a d.i.n 0 from by unfold Dng.get; simp only; rw [if_pos (by simpa using h31)]]
    refine GoE.ret0 rfl fun w s => ⟨(), ?_, trivial, finE .auto s⟩
    rfl
  · refine GoC.skip ?_
    refine GoE.then_normal ?_
    refine GoC.seq ?_
    refine GoC.to (A := tubsH vt (d.s.tubes.set d.i.n.toNat (d.tube.get d.n).2.2.2.2)) (Bs := [sl ptrE 1 vt xs, tubH xq (d.tube.get d.n).2.2.2.2, allH (fun x : Nat × Tub => tubH x.1 x.2) (xs.eraseIdx d.i.n.toNat)]) .auto (tubs_in hx hxs (d.tube.get d.n).2.2.2.2) ?_
    refine GoC.fr .auto (thrs_out hp ht) ?_
    refine GoC.draw [arr bd 0 (dngC b p d vw ve)] [1, 1, 1, 1, 1, 1, 1, 1, 1, 1, 1, 1, 1, 1, 3] rfl (by kernel_rfl) ?_
    refine GoK.s rfl (Y.move rfl) ?_
    refine GoK.s rfl (Y.nilCheck rfl) ?_
    refine GoK.s rfl (Y.fieldAddr0 2 114 Tryz.underlying138 rfl Tryz.sizeOf114 rfl) ?_
    refine GoK.s rfl (Y.load Tryz.isAgg114 rfl (Cell.a (by rfl))) ?_
    refine GoK.s rfl (Y.move rfl) ?_
    refine GoK.s rfl (Y.nilCheck rfl) ?_
    refine GoK.s rfl (Y.fieldAddr0 3 123 Tryz.underlying138 rfl Tryz.sizeOf123 rfl) ?_
    refine GoK.s rfl (Y.fieldAddr 1 3 Tryz.underlying123 rfl Tryz.sizeOf3 rfl) ?_
    refine GoK.s rfl (Y.load Tryz.isAgg3 rfl (Cell.a (by rfl))) ?_
    refine GoK.s rfl (Y.move rfl) ?_
    refine GoK.s rfl (Y.nilCheck rfl) ?_
    refine GoK.s rfl (Y.fieldAddrZ 131 Tryz.underlying133 rfl Tryz.sizeOf131 rfl) ?_
    refine GoK.s rfl (Y.fieldAddr0 2 57 Tryz.underlying131 rfl Tryz.sizeOf57 rfl) ?_
    refine GoK.s rfl (Y.ixArr d.i.a.toNat Tryz.underlying57 Tryz.sizeOf43 rfl rfl (by omega) (by omega)) ?_
    refine GoK.d3 rfl (Does.st Tryz.sizeOf43 rfl rfl rfl (Nat.blt_eq.mpr (by show 2 + d.i.a.toNat * 1 < 18; omega))) ?_
    rintro _ _ ⟨rfl, rfl⟩
    rw [thr_setI _ (by omega) (by omega) hRl]
    refine GoK.to (A := thrsH ps (d.s.thr.set d.n (some (t.put d.i.a (d.tube.get d.n).1)))) (Bs := [arr p 0 (thrC (t.put d.i.a (d.tube.get d.n).1)), thrsH (ps.set d.n none) (d.s.thr.set d.n none)]) .auto (thrs_shut (List.getElem?_eq_some_iff.1 ht).1 hp) ?_
    refine GoK.nil ?_
    refine GoE.then_normal ?_
    refine GoC.seq ?_
    refine GoC.region ?_
    refine GoL.y rfl (Y.move rfl) ?_
    refine GoL.y rfl (Y.move rfl) ?_
    refine GoL.y rfl (Y.nilCheck rfl) ?_
    refine GoL.y rfl (Y.fieldAddr0 3 123 Tryz.underlying138 rfl Tryz.sizeOf123 rfl) ?_
    refine GoL.y rfl (Y.fieldAddr 4 43 Tryz.underlying123 rfl Tryz.sizeOf43 rfl) ?_
    refine GoL.y rfl (Y.load Tryz.isAgg43 rfl (Cell.a (by rfl))) ?_
    refine GoL.y rfl (Y.move rfl) ?_
    refine GoL.does rfl (Does.callE rfl Tryz.call89 rfl (dng_pass (d := ((d.withU d.i.n.toNat (d.tube.get d.n).2.2.2.2).setT (t.put d.i.a (d.tube.get d.n).1))) (t := t.put d.i.a (d.tube.get d.n).1) hp (setT_same ht) (Nat.le_trans hk.recs (by decide)) (by decide) (by rw [put_len]; exact hRl)) .auto) ?_
    rintro _ _ ⟨⟨⟩, -, rfl, rfl⟩
    refine GoL.nil ?_
    refine GoE.then_normal ?_
    refine GoC.seq ?_
    refine GoC.region ?_
    refine GoL.y rfl (Y.move rfl) ?_
    refine GoL.nil ?_
    refine GoE.then_normal ?_
    refine GoC.cond rfl (fun h66 => ?_) (fun h66 => ?_)
    · obtain ⟨z, hz, hzw⟩ := get_live h66
      have hlv := (hk.tlive _ hmem).2 z hz
      rw [hzw] at hlv
      have hRg := hk.R.put (i := d.i.a) (get_word (who := d.n) (hk.tw _ hmem))
      obtain ⟨hw16, q, u, hq, hu, hRu⟩ := ((hlv.2.of (s' := (d.withU d.i.n.toNat (d.tube.get d.n).2.2.2.2).s) rfl).setT (n := d.n) hRg).pass (x := d.i.n) (y := (d.tube.get d.n).1) (e := 0) (d := ((d.withU d.i.n.toNat (d.tube.get d.n).2.2.2.2).setT (t.put d.i.a (d.tube.get d.n).1))) (setT_same ht) hRg (by decide)
      refine GoC.region ?_
      refine GoL.y rfl (Y.move rfl) ?_
      refine GoL.y rfl (Y.move rfl) ?_
      refine GoL.does rfl (Does.callE rfl Tryz.call86 rfl (dng_goesI (d := ((d.withU d.i.n.toNat (d.tube.get d.n).2.2.2.2).setT (t.put d.i.a (d.tube.get d.n).1)).pass d.i.n (d.tube.get d.n).1 0) hlv.1 hq hu hw16 hRu (Nat.le_trans hk.ends (by decide)) (Nat.le_trans hk.wok (by decide))) .auto) ?_
      rintro _ _ ⟨⟨⟩, -, rfl, rfl⟩
      refine GoL.nil ?_
      rw [show d.get = (((d.withU d.i.n.toNat (d.tube.get d.n).2.2.2.2).setT (t.put d.i.a (d.tube.get d.n).1)).pass d.i.n (d.tube.get d.n).1 0).goes (d.tube.get d.n).2.2.1.toNat 0 from by unfold Dng.get; simp only; rw [if_neg (by simpa using h31), if_pos h66, show (d.withU d.i.n.toNat (d.tube.get d.n).2.2.2.2).t = t from dng_t ht]]
      refine GoE.end0 rfl fun w s => ⟨(), ?_, trivial, finE .auto s⟩
      rfl
    · refine GoC.skip ?_
      rw [show d.get = ((d.withU d.i.n.toNat (d.tube.get d.n).2.2.2.2).setT (t.put d.i.a (d.tube.get d.n).1)).pass d.i.n (d.tube.get d.n).1 0 from by unfold Dng.get; simp only; rw [if_neg (by simpa using h31), if_neg (by rw [h66]; simp), show (d.withU d.i.n.toNat (d.tube.get d.n).2.2.2.2).t = t from dng_t ht]]
      refine GoE.end0 rfl fun w s => ⟨(), ?_, trivial, finE .auto s⟩
      rfl

end Go.SLYtpcjdohmjmeehaaGreat
namespace Go.SLYtpcjdohmjmeehaaGreat
open Go Go.RowKit Go.Proofs

set_option maxRecDepth 20000 in
theorem dng_spawn {W : World} {bd b p : Nat} {ps : List (Option Nat)} {d : Dng} {t : Thr} (hp : ps[d.n]? = some (some p)) (ht : d.s.thr[d.n]? = some (some t)) (hk : CallOk ps d t) : Fn Tryz.prog W 88 [ptr bd] [dngX bd b p ps d] (List (Option Nat)) (fun _ => .tuple #[]) (fun _ => True) (fun qs => [dngX bd b p qs d.spawn]) := by
  refine Fn.intro (N := 70) Tryz.func88 rfl Tryz.ntmps88 rfl fun F => ?_
  show GoC _ _ _ _ _ _ [dngX bd b p ps d, F]
  refine GoC.o2 (C := dngX bd b p ps (d)) .auto rfl ?_
  rintro vw ve -
  refine GoC.o10 (C := spcX b ps (d).s) .auto rfl ?_
  rintro fv sv pv bt vm bg vt bk bw vr -
  have hnn := hk.nn
  have hn0 := hk.I.n
  refine GoC.fr .auto (thrs_out hp ht) ?_
  have hIa := hk.I.a
  have hRl := hk.R.l
  have hlt := hk.lt
  refine GoC.seq ?_
  refine GoC.draw [arr bd 0 (dngC b p d vw ve)] [0, 0, 0, 0, 0, 0, 0, 0, 0, 0, 1, 2, 3, 1, 1, 1, 1, 1] rfl (by kernel_rfl) ?_
  refine GoK.k rfl Kept.auto (Y.move rfl) ?_
  refine GoK.k rfl Kept.auto (Y.nilCheck rfl) ?_
  refine GoK.k rfl Kept.auto (Y.fieldAddrZ 27 Tryz.underlying138 rfl Tryz.sizeOf27 rfl) ?_
  refine GoK.k rfl Kept.auto (Y.load Tryz.isAgg27 rfl (Cell.a (by rfl))) ?_
  refine GoK.k rfl Kept.auto (Y.move rfl) ?_
  refine GoK.k rfl Kept.auto (Y.nilCheck rfl) ?_
  refine GoK.k rfl Kept.auto (Y.fieldAddr0 3 123 Tryz.underlying138 rfl Tryz.sizeOf123 rfl) ?_
  refine GoK.k rfl Kept.auto (Y.fieldAddr 4 43 Tryz.underlying123 rfl Tryz.sizeOf43 rfl) ?_
  refine GoK.k rfl Kept.auto (Y.load Tryz.isAgg43 rfl (Cell.a (by rfl))) ?_
  refine GoK.k rfl Kept.auto (Y.convI Tryz.underlying43 Tryz.underlying3 rfl (by omega)) ?_
  refine GoK.s rfl (Y.move rfl) ?_
  refine GoK.d2 rfl Kept.auto (Does.callE rfl Tryz.call119 rfl (dng_bP ht hk.I.b) .auto) (by rintro _ _ ⟨⟨⟩, -, rfl, rfl⟩; exact Kept.auto) ?_
  rintro _ _ ⟨⟨⟩, -, rfl, rfl⟩
  refine GoK.to (A := thrsH ps d.s.thr) (Bs := [arr p 0 (thrC t), thrsH (ps.set d.n none) (d.s.thr.set d.n none)]) .auto (thrs_keep hp ht) ?_
  refine GoK.d3 rfl (Does.callE rfl Tryz.call57 rfl (core_begin hk.T hk.lt hk.free) .auto) ?_
  rintro _ _ ⟨qs, ⟨q, hqs⟩, rfl, rfl⟩
  refine GoK.s rfl (Y.move rfl) ?_
  refine GoK.s rfl (Y.extract (v := .int .i64 (d.s.begin d.i.n d.b).1) rfl rfl) ?_
  refine GoK.s rfl (Y.extract (v := .int .i64 (d.s.begin d.i.n d.b).2.1) rfl rfl) ?_
  refine GoK.s rfl (Y.assign rfl) ?_
  refine GoK.s rfl (Y.assign rfl) ?_
  refine GoK.nil ?_
  refine GoE.then_normal ?_
  refine GoC.seq ?_
  refine GoC.region ?_
  refine GoL.y rfl (Y.assign rfl) ?_
  refine GoL.nil ?_
  refine GoE.then_normal ?_
  refine GoC.seq ?_
  refine GoC.seq ?_
  refine GoC.region ?_
  refine GoL.y rfl (Y.move rfl) ?_
  refine GoL.y rfl (Y.eql rfl rfl) ?_
  refine GoL.nil ?_
  refine GoE.then_normal ?_
  refine GoC.condD rfl (fun h22 => ?_) (fun h22 => ?_)
  · obtain ⟨n, hfr⟩ : ∃ n, slotFree? d.s.table 0 = some n := by
      cases hh : slotFree? d.s.table 0 with
      | none => rw [begin_no hh] at h22; cases h22
      | some n => exact ⟨n, rfl⟩
    have hb1 : (d.s.begin d.i.n d.b).1 = (n : Int) := by rw [begin_ok hfr]
    have hn0e := hk.free n hfr
    have hn16 : n < 16 := hlt ▸ (List.getElem?_eq_some_iff.1 hn0e).1
    obtain ⟨t1, ht1, ht1e⟩ := spawn_thr (f := d.i.n) (arg := d.b) hfr (by omega)
    have hqn : qs[n]? = some (some q) := by
      rw [hqs]; unfold psBegin; rw [hfr]; exact List.getElem?_set_self (by rw [hk.lp]; exact hn16)
    have hne : n ≠ d.n := fun e => by rw [e, ht] at hn0e; cases hn0e
    have hp2 : qs[d.n]? = some (some p) := by
      rw [hqs]; unfold psBegin; rw [hfr]; exact (List.getElem?_set_ne hne).trans hp
    have ht2 : (d.s.begin d.i.n d.b).2.2.thr[d.n]? = some (some t) := by
      rw [begin_ok hfr]; exact (List.getElem?_set_ne hne).trans ht
    rw [hb1]
    refine GoC.seq ?_
    refine GoC.region ?_
    refine GoL.o10 (C := spcX b qs (d.s.begin d.i.n d.b).2.2) .auto rfl ?_
    rintro fv sv pv bt vm bg vt bk bw vr -
    refine GoL.fr .auto (thrs_out hqn ht1) ?_
    refine GoL.y rfl (Y.move rfl) ?_
    refine GoL.y rfl (Y.nilCheck rfl) ?_
    refine GoL.y rfl (Y.fieldAddrZ 27 Tryz.underlying138 rfl Tryz.sizeOf27 rfl) ?_
    refine GoL.y rfl (Y.load Tryz.isAgg27 rfl (Cell.a (by rfl))) ?_
    refine GoL.y rfl (Y.move rfl) ?_
    refine GoL.y rfl (Y.nilCheck rfl) ?_
    refine GoL.y rfl (Y.fieldAddr0 9 115 Tryz.underlying118 rfl Tryz.sizeOf115 rfl) ?_
    refine GoL.y rfl (Y.ixArr n Tryz.underlying115 Tryz.sizeOf114 rfl rfl rfl hn16) ?_
    refine GoL.y rfl (Y.load Tryz.isAgg114 rfl (Cell.a (by rw [Nat.mul_one, spcC_get hn16, getD_of hqn]))) ?_
    refine GoL.y rfl (Y.nilCheck rfl) ?_
    refine GoL.y rfl (Y.fieldAddr0 10 43 Tryz.underlying133 rfl Tryz.sizeOf43 rfl) ?_
    refine GoL.y rfl (Y.load Tryz.isAgg43 rfl (Cell.a (by rfl))) ?_
    refine GoL.y rfl (Y.assign rfl) ?_
    refine GoL.nil ?_
    refine GoE.then_normal ?_
    refine GoC.region ?_
    refine GoL.y rfl (Y.move rfl) ?_
    refine GoL.y rfl (Y.move rfl) ?_
    refine GoL.y rfl (Y.nilCheck rfl) ?_
    refine GoL.y rfl (Y.fieldAddr0 9 36 Tryz.underlying138 rfl Tryz.sizeOf36 rfl) ?_
    refine GoL.y rfl (Y.fieldAddrZ 23 Tryz.underlying36 rfl Tryz.sizeOf23 rfl) ?_
    refine GoL.y rfl (Y.load Tryz.isAgg23 rfl (Cell.a (by rfl))) ?_
    refine GoL.y rfl (Y.move rfl) ?_
    refine GoL.does rfl (Does.bsl 3 rfl rfl (by kernel_rfl)) ?_
    rintro _ _ ⟨b42, rfl, rfl⟩
    refine GoL.does rfl (Does.app1 (enc := intE) (k := 1) (n : Int) rfl Tryz.underlying23 Tryz.underlying23 Tryz.typeInfo3 rfl rfl rfl (by decide) rfl rfl rfl .auto rfl .auto (by have := hk.wok; omega) rfl) ?_
    rintro _ _ ⟨v43, rfl, rfl⟩
    refine GoL.y rfl (Y.nilCheck rfl) ?_
    refine GoL.y rfl (Y.fieldAddr0 9 36 Tryz.underlying138 rfl Tryz.sizeOf36 rfl) ?_
    refine GoL.y rfl (Y.fieldAddrZ 23 Tryz.underlying36 rfl Tryz.sizeOf23 rfl) ?_
    refine GoL.does rfl (Does.stS Tryz.sizeOf23 rfl rfl rfl) ?_
    rintro _ _ ⟨rfl, rfl⟩
    refine GoL.nil ?_
    refine GoE.then_normal ?_
    refine GoC.seq ?_
    refine GoC.to (A := thrsH qs (d.s.begin d.i.n d.b).2.2.thr) (Bs := [arr q 0 (thrC t1), thrsH (qs.set n none) ((d.s.begin d.i.n d.b).2.2.thr.set n none)]) .auto (thrs_keep hqn ht1) ?_
    refine GoC.fr .auto (thrs_out hp2 ht2) ?_
    refine GoC.draw [arr bd 0 (dngC b p d v43 ve)] [1, 1, 1, 1, 1, 1, 1, 1, 1, 1, 1, 1, 1, 1, 3] rfl (by kernel_rfl) ?_
    refine GoK.s rfl (Y.move rfl) ?_
    refine GoK.s rfl (Y.nilCheck rfl) ?_
    refine GoK.s rfl (Y.fieldAddr0 2 114 Tryz.underlying138 rfl Tryz.sizeOf114 rfl) ?_
    refine GoK.s rfl (Y.load Tryz.isAgg114 rfl (Cell.a (by rfl))) ?_
    refine GoK.s rfl (Y.move rfl) ?_
    refine GoK.s rfl (Y.nilCheck rfl) ?_
    refine GoK.s rfl (Y.fieldAddr0 3 123 Tryz.underlying138 rfl Tryz.sizeOf123 rfl) ?_
    refine GoK.s rfl (Y.fieldAddr 1 3 Tryz.underlying123 rfl Tryz.sizeOf3 rfl) ?_
    refine GoK.s rfl (Y.load Tryz.isAgg3 rfl (Cell.a (by rfl))) ?_
    refine GoK.s rfl (Y.move rfl) ?_
    refine GoK.s rfl (Y.nilCheck rfl) ?_
    refine GoK.s rfl (Y.fieldAddrZ 131 Tryz.underlying133 rfl Tryz.sizeOf131 rfl) ?_
    refine GoK.s rfl (Y.fieldAddr0 2 57 Tryz.underlying131 rfl Tryz.sizeOf57 rfl) ?_
    refine GoK.s rfl (Y.ixArr d.i.a.toNat Tryz.underlying57 Tryz.sizeOf43 rfl rfl (by omega) (by omega)) ?_
    refine GoK.d3 rfl (Does.st Tryz.sizeOf43 rfl rfl rfl (Nat.blt_eq.mpr (by show 2 + d.i.a.toNat * 1 < 18; omega))) ?_
    rintro _ _ ⟨rfl, rfl⟩
    rw [thr_setI _ (by omega) (by omega) hRl]
    refine GoK.to (A := thrsH qs ((d.s.begin d.i.n d.b).2.2.thr.set d.n (some (t.put d.i.a t1.handle)))) (Bs := [arr p 0 (thrC (t.put d.i.a t1.handle)), thrsH (qs.set d.n none) ((d.s.begin d.i.n d.b).2.2.thr.set d.n none)]) .auto (thrs_shut (List.getElem?_eq_some_iff.1 ht2).1 hp2) ?_
    refine GoK.nil ?_
    refine GoE.then_normal ?_
    refine GoC.region ?_
    refine GoL.y rfl (Y.move rfl) ?_
    refine GoL.y rfl (Y.move rfl) ?_
    refine GoL.y rfl (Y.nilCheck rfl) ?_
    refine GoL.y rfl (Y.fieldAddr0 3 123 Tryz.underlying138 rfl Tryz.sizeOf123 rfl) ?_
    refine GoL.y rfl (Y.fieldAddr 4 43 Tryz.underlying123 rfl Tryz.sizeOf43 rfl) ?_
    refine GoL.y rfl (Y.load Tryz.isAgg43 rfl (Cell.a (by rfl))) ?_
    refine GoL.y rfl (Y.move rfl) ?_
    refine GoL.y rfl (Y.move rfl) ?_
    refine GoL.does rfl (Does.callE rfl Tryz.call89 rfl (dng_pass (d := ({ d with s := (d.s.begin d.i.n d.b).2.2, out := { d.out with woken := d.out.woken ++ [(n : Int)] } } : Dng).setT (t.put d.i.a t1.handle)) (ps := qs) (p := p) (t := t.put d.i.a t1.handle) hp2 (setT_same ht2) (by show (d.s.begin d.i.n d.b).2.2.recs.length ≤ _; rw [begin_ok hfr]; exact (Nat.le_trans hk.recs (by decide))) (by rw [h22]; decide) (by rw [put_len]; exact hRl)) .auto) ?_
    rintro _ _ ⟨⟨⟩, -, rfl, rfl⟩
    refine GoL.nil ?_
    rw [show d.spawn = (({ d with s := (d.s.begin d.i.n d.b).2.2, out := { d.out with woken := d.out.woken ++ [(n : Int)] } } : Dng).setT (t.put d.i.a t1.handle)).pass d.i.n t1.handle (d.s.begin d.i.n d.b).2.1 from by unfold Dng.spawn; simp only; rw [if_pos h22, if_pos h22, hb1, Int.toNat_natCast, spc_t ht1, show ({ d with s := (d.s.begin d.i.n d.b).2.2, out := { d.out with woken := d.out.woken ++ [(n : Int)] } } : Dng).t = t from spc_t ht2]]
    refine GoE.end0 rfl fun w s => ⟨qs, ?_, trivial, finE .auto s⟩
    rfl
  · have hfr : slotFree? d.s.table 0 = none := by
      cases hh : slotFree? d.s.table 0 with
      | none => rfl
      | some n => exact absurd (by rw [begin_ok hh]) h22
    have hb : (d.s.begin d.i.n d.b) = (0, 2, d.s) := begin_no hfr
    obtain rfl : qs = ps := by rw [hqs]; unfold psBegin; rw [hfr]
    rw [hb]
    have hp2 := hp
    have ht2 := ht
    refine GoC.to (A := spcX b qs d.s) (Bs := [spcX b qs d.s]) .auto (fun h a => by simpa only [seps, sep_emp] using a) ?_
    refine GoC.o10 (C := spcX b qs d.s) .auto rfl ?_
    rintro fv sv pv bt vm bg vt bk bw vr -
    refine GoC.fr .auto (thrs_out hp2 ht2) ?_
    refine GoC.skip ?_
    refine GoE.then_normal ?_
    refine GoC.seq ?_
    refine GoC.draw [arr bd 0 (dngC b p d vw ve)] [1, 1, 1, 1, 1, 1, 1, 1, 1, 1, 1, 1, 1, 1, 3] rfl (by kernel_rfl) ?_
    refine GoK.s rfl (Y.move rfl) ?_
    refine GoK.s rfl (Y.nilCheck rfl) ?_
    refine GoK.s rfl (Y.fieldAddr0 2 114 Tryz.underlying138 rfl Tryz.sizeOf114 rfl) ?_
    refine GoK.s rfl (Y.load Tryz.isAgg114 rfl (Cell.a (by rfl))) ?_
    refine GoK.s rfl (Y.move rfl) ?_
    refine GoK.s rfl (Y.nilCheck rfl) ?_
    refine GoK.s rfl (Y.fieldAddr0 3 123 Tryz.underlying138 rfl Tryz.sizeOf123 rfl) ?_
    refine GoK.s rfl (Y.fieldAddr 1 3 Tryz.underlying123 rfl Tryz.sizeOf3 rfl) ?_
    refine GoK.s rfl (Y.load Tryz.isAgg3 rfl (Cell.a (by rfl))) ?_
    refine GoK.s rfl (Y.move rfl) ?_
    refine GoK.s rfl (Y.nilCheck rfl) ?_
    refine GoK.s rfl (Y.fieldAddrZ 131 Tryz.underlying133 rfl Tryz.sizeOf131 rfl) ?_
    refine GoK.s rfl (Y.fieldAddr0 2 57 Tryz.underlying131 rfl Tryz.sizeOf57 rfl) ?_
    refine GoK.s rfl (Y.ixArr d.i.a.toNat Tryz.underlying57 Tryz.sizeOf43 rfl rfl (by omega) (by omega)) ?_
    refine GoK.d3 rfl (Does.st Tryz.sizeOf43 rfl rfl rfl (Nat.blt_eq.mpr (by show 2 + d.i.a.toNat * 1 < 18; omega))) ?_
    rintro _ _ ⟨rfl, rfl⟩
    rw [thr_setI _ (by omega) (by omega) hRl]
    refine GoK.to (A := thrsH qs (d.s.thr.set d.n (some (t.put d.i.a 0)))) (Bs := [arr p 0 (thrC (t.put d.i.a 0)), thrsH (qs.set d.n none) (d.s.thr.set d.n none)]) .auto (thrs_shut (List.getElem?_eq_some_iff.1 ht2).1 hp2) ?_
    refine GoK.nil ?_
    refine GoE.then_normal ?_
    refine GoC.region ?_
    refine GoL.y rfl (Y.move rfl) ?_
    refine GoL.y rfl (Y.move rfl) ?_
    refine GoL.y rfl (Y.nilCheck rfl) ?_
    refine GoL.y rfl (Y.fieldAddr0 3 123 Tryz.underlying138 rfl Tryz.sizeOf123 rfl) ?_
    refine GoL.y rfl (Y.fieldAddr 4 43 Tryz.underlying123 rfl Tryz.sizeOf43 rfl) ?_
    refine GoL.y rfl (Y.load Tryz.isAgg43 rfl (Cell.a (by rfl))) ?_
    refine GoL.y rfl (Y.move rfl) ?_
    refine GoL.y rfl (Y.move rfl) ?_
    refine GoL.does rfl (Does.callE rfl Tryz.call89 rfl (dng_pass (d := d.setT (t.put d.i.a 0)) (ps := qs) (p := p) (t := t.put d.i.a 0) (e := 2) hp2 (setT_same ht2) (Nat.le_trans hk.recs (by decide)) (by decide) (by rw [put_len]; exact hRl)) .auto) ?_
    rintro _ _ ⟨⟨⟩, -, rfl, rfl⟩
    refine GoL.nil ?_
    rw [show d.spawn = (d.setT (t.put d.i.a 0)).pass d.i.n 0 2 from by unfold Dng.spawn; rw [hb]; simp only; rw [if_neg (by decide), if_neg (by decide), dng_t ht]]
    refine GoE.end0 rfl fun w s => ⟨qs, ?_, trivial, finE .auto s⟩
    rfl

set_option maxRecDepth 20000 in
theorem dng_kernel {W : World} {bd b p : Nat} {ps : List (Option Nat)} {d : Dng} {t : Thr} (hp : ps[d.n]? = some (some p)) (ht : d.s.thr[d.n]? = some (some t)) (hk : CallOk ps d t) : Fn Tryz.prog W 97 [ptr bd] [dngX bd b p ps d] Unit (fun _ => .tuple #[]) (fun _ => True) (fun _ => [dngX bd b p ps (d.kernel)]) := by
  refine Fn.intro (N := 42) Tryz.func97 rfl Tryz.ntmps97 rfl fun F => ?_
  show GoC _ _ _ _ _ _ [dngX bd b p ps d, F]
  refine GoC.o2 (C := dngX bd b p ps (d)) .auto rfl ?_
  rintro vw ve -
  have ha0 : 0 ≤ d.a := by
    unfold Dng.a; rw [dng_t ht]; exact (hk.R.r _).1
  have hb0 : 0 ≤ d.b := by
    unfold Dng.b; rw [dng_t ht]; exact (hk.R.r _).1
  refine GoC.seq ?_
  refine GoC.region ?_
  refine GoL.y rfl (Y.move rfl) ?_
  refine GoL.y rfl (Y.nilCheck rfl) ?_
  refine GoL.y rfl (Y.fieldAddr0 3 123 Tryz.underlying138 rfl Tryz.sizeOf123 rfl) ?_
  refine GoL.y rfl (Y.fieldAddrZ 3 Tryz.underlying123 rfl Tryz.sizeOf3 rfl) ?_
  refine GoL.y rfl (Y.load Tryz.isAgg3 rfl (Cell.a (by rfl))) ?_
  refine GoL.nil ?_
  refine GoE.then_normal ?_
  refine GoC.block ?_
  refine GoC.seq ?_
  refine GoC.region ?_
  refine GoL.y rfl (Y.eql rfl rfl) ?_
  refine GoL.y rfl (Y.assign rfl) ?_
  refine GoL.nil ?_
  refine GoE.then_normal ?_
  refine GoC.condD rfl (fun h11 => ?_) (fun h11 => ?_)
  · refine GoC.o10 (C := spcX b ps (d).s) .auto rfl ?_
    rintro fv sv pv bt vm bg vt bk bw vr -
    refine GoC.fr .auto (thrs_out hp ht) ?_
    refine GoC.draw [arr bd 0 (dngC b p d vw ve)] [0, 1, 2, 0, 0, 0, 0, 0, 3] rfl (by kernel_rfl) ?_
    refine GoK.k rfl Kept.auto (Y.move rfl) ?_
    refine GoK.s rfl (Y.move rfl) ?_
    refine GoK.d2 rfl Kept.auto (Does.callE rfl Tryz.call119 rfl (dng_bP ht hk.I.b) .auto) (by rintro _ _ ⟨⟨⟩, -, rfl, rfl⟩; exact Kept.auto) ?_
    rintro _ _ ⟨⟨⟩, -, rfl, rfl⟩
    refine GoK.k rfl Kept.auto (Y.move rfl) ?_
    refine GoK.k rfl Kept.auto (Y.nilCheck rfl) ?_
    refine GoK.k rfl Kept.auto (Y.fieldAddr0 3 123 Tryz.underlying138 rfl Tryz.sizeOf123 rfl) ?_
    refine GoK.k rfl Kept.auto (Y.fieldAddr 1 3 Tryz.underlying123 rfl Tryz.sizeOf3 rfl) ?_
    refine GoK.k rfl Kept.auto (Y.load Tryz.isAgg3 rfl (Cell.a (by rfl))) ?_
    refine GoK.to (A := thrsH ps d.s.thr) (Bs := [arr p 0 (thrC t), thrsH (ps.set d.n none) (d.s.thr.set d.n none)]) .auto (thrs_keep hp ht) ?_
    refine GoK.d3 rfl (Does.callE rfl Tryz.call132 rfl (dng_ask hp ht hk hb0) .auto) ?_
    rintro _ _ ⟨⟨⟩, -, rfl, rfl⟩
    refine GoK.nil ?_
    refine GoE.block_normal ?_
    rw [show d.kernel = d.ask d.b 0 d.i.a from by unfold Dng.kernel; repeat (first | rw [if_neg (by omega)] | rw [if_pos (by omega)])]
    refine GoE.end0 rfl fun w s => ⟨(), ?_, trivial, finE .auto s⟩
    rfl
  · refine GoC.seq ?_
    refine GoC.region ?_
    refine GoL.y rfl (Y.eql rfl rfl) ?_
    refine GoL.y rfl (Y.assign rfl) ?_
    refine GoL.nil ?_
    refine GoE.then_normal ?_
    refine GoC.condD rfl (fun h22 => ?_) (fun h22 => ?_)
    · refine GoC.region ?_
      refine GoL.y rfl (Y.move rfl) ?_
      refine GoL.y rfl (Y.move rfl) ?_
      refine GoL.does rfl (Does.callE rfl Tryz.call92 rfl (dng_a hp ht hk.I.a) .auto) ?_
      rintro _ _ ⟨⟨⟩, -, rfl, rfl⟩
      refine GoL.y rfl (Y.move rfl) ?_
      refine GoL.does rfl (Does.callE rfl Tryz.call119 rfl (dng_b hp ht hk.I.b) .auto) ?_
      rintro _ _ ⟨⟨⟩, -, rfl, rfl⟩
      refine GoL.does rfl (Does.callE rfl Tryz.call132 rfl (dng_ask hp ht hk ha0) .auto) ?_
      rintro _ _ ⟨⟨⟩, -, rfl, rfl⟩
      refine GoL.nil ?_
      refine GoE.block_normal ?_
      rw [show d.kernel = d.ask d.a d.b (-1) from by unfold Dng.kernel; repeat (first | rw [if_neg (by omega)] | rw [if_pos (by omega)])]
      refine GoE.end0 rfl fun w s => ⟨(), ?_, trivial, finE .auto s⟩
      rfl
    · refine GoC.seq ?_
      refine GoC.region ?_
      refine GoL.y rfl (Y.eql rfl rfl) ?_
      refine GoL.y rfl (Y.assign rfl) ?_
      refine GoL.nil ?_
      refine GoE.then_normal ?_
      refine GoC.condD rfl (fun h30 => ?_) (fun h30 => ?_)
      · refine GoC.region ?_
        refine GoL.y rfl (Y.move rfl) ?_
        refine GoL.does rfl (Does.callE rfl Tryz.call133 rfl (dng_put hp ht hk (.inl h30)) .auto) ?_
        rintro _ _ ⟨⟨⟩, -, rfl, rfl⟩
        refine GoL.nil ?_
        refine GoE.block_normal ?_
        rw [show d.kernel = d.put from by unfold Dng.kernel; repeat (first | rw [if_neg (by omega)] | rw [if_pos (by omega)])]
        refine GoE.end0 rfl fun w s => ⟨(), ?_, trivial, finE .auto s⟩
        rfl
      · refine GoC.seq ?_
        refine GoC.region ?_
        refine GoL.y rfl (Y.eql rfl rfl) ?_
        refine GoL.y rfl (Y.assign rfl) ?_
        refine GoL.nil ?_
        refine GoE.then_normal ?_
        refine GoC.condD rfl (fun h34 => ?_) (fun h34 => ?_)
        · refine GoC.region ?_
          refine GoL.y rfl (Y.move rfl) ?_
          refine GoL.does rfl (Does.callE rfl Tryz.call134 rfl (dng_get hp ht hk (.inr h34)) .auto) ?_
          rintro _ _ ⟨⟨⟩, -, rfl, rfl⟩
          refine GoL.nil ?_
          refine GoE.block_normal ?_
          rw [show d.kernel = d.get from by unfold Dng.kernel; repeat (first | rw [if_neg (by omega)] | rw [if_pos (by omega)])]
          refine GoE.end0 rfl fun w s => ⟨(), ?_, trivial, finE .auto s⟩
          rfl
        · refine GoC.seq ?_
          refine GoC.region ?_
          refine GoL.y rfl (Y.eql rfl rfl) ?_
          refine GoL.y rfl (Y.assign rfl) ?_
          refine GoL.nil ?_
          refine GoE.then_normal ?_
          refine GoC.condD rfl (fun h38 => ?_) (fun h38 => ?_)
          · refine GoC.region ?_
            refine GoL.y rfl (Y.move rfl) ?_
            refine GoL.does rfl (Does.callE rfl Tryz.call135 rfl (dng_sleep hp ht hk) .auto) ?_
            rintro _ _ ⟨⟨⟩, -, rfl, rfl⟩
            refine GoL.nil ?_
            refine GoE.block_normal ?_
            rw [show d.kernel = d.sleep from by unfold Dng.kernel; repeat (first | rw [if_neg (by omega)] | rw [if_pos (by omega)])]
            refine GoE.end0 rfl fun w s => ⟨(), ?_, trivial, finE .auto s⟩
            rfl
          · refine GoC.region ?_
            refine GoL.y rfl (Y.move rfl) ?_
            refine GoL.y rfl (Y.move rfl) ?_
            refine GoL.does rfl (Does.callE rfl Tryz.call92 rfl (dng_a hp ht hk.I.a) .auto) ?_
            rintro _ _ ⟨⟨⟩, -, rfl, rfl⟩
            refine GoL.does rfl (Does.callE rfl Tryz.call89 rfl (dng_pass hp ht (Nat.le_trans hk.recs (by decide)) (by decide) hk.R.l) .auto) ?_
            rintro _ _ ⟨⟨⟩, -, rfl, rfl⟩
            refine GoL.nil ?_
            refine GoE.block_normal ?_
            rw [show d.kernel = d.pass d.a 0 0 from by unfold Dng.kernel; repeat (first | rw [if_neg (by omega)] | rw [if_pos (by omega)])]
            refine GoE.end0 rfl fun w s => ⟨(), ?_, trivial, finE .auto s⟩
            rfl

end Go.SLYtpcjdohmjmeehaaGreat
namespace Go.SLYtpcjdohmjmeehaaGreat
open Go Go.RowKit

theorem whyAll_app (s : Spc) (a b : List Int) : whyAll s (a ++ b) = whyAll (whyAll s a) b := by
  induction a generalizing s with
  | nil => rfl
  | cons x l ih => exact ih _
theorem whyAll_gates (s : Spc) (a : List Int) : (whyAll s a).gates = s.gates := by
  induction a generalizing s with
  | nil => rfl
  | cons x l ih => exact (ih _).trans rfl
theorem live_why {ps : List (Option Nat)} {s : Spc} (m : Nat) (a : List Int) (h : LiveAt ps s m) : LiveAt ps (whyAll s a) m := by
  induction a generalizing s with
  | nil => exact h
  | cons x l ih =>
    refine ih ?_
    by_cases hx : ∃ t, s.thr[x.toNat]? = some (some t)
    · obtain ⟨t, ht⟩ := hx
      rw [show s.t x.toNat = t from spc_t ht]
      obtain ⟨hm, q, u, hq, hu, hR⟩ := h
      rcases Decidable.em (x.toNat = m) with e | hne
      · subst e
        rw [ht] at hu; cases hu
        exact ⟨hm, q, _, hq, setT_same ht, ⟨hR.l, hR.r, hR.i, hR.v, hR.h⟩⟩
      · exact ⟨hm, q, u, hq, setT_thr hu hne, hR⟩
    · obtain ⟨hm, q, u, hq, hu, hR⟩ := h
      exact ⟨hm, q, u, hq, setT_thr hu (fun e => hx ⟨u, by rw [e]; exact hu⟩), hR⟩
theorem ThrR.wakes {t : Thr} (h : ThrR t) {y : Int} (hy : 0 ≤ y ∧ y ≤ 18446744073709551615) : ThrR (t.wakes y) := by
  have h1 : ThrR (if t.into = -1 then t else t.put t.into y) := by split; exact h; exact h.put hy
  have h2 := h1.put (i := 7) (x := 0) (by decide)
  exact ⟨h2.l, h2.r, by show (-1 : Int) ≤ -1 ∧ (-1 : Int) < 8; decide, h2.v, h2.h⟩
theorem goesAll_snoc (d : Dng) (a : List Int) (n : Int) : d.goesAll (a ++ [n]) = (d.goesAll a).goes n.toNat 0 := by
  induction a generalizing d with
  | nil => rfl
  | cons x l ih => exact ih _
theorem goesAll_len (d : Dng) (a : List Int) : (d.goesAll a).ends.length = d.ends.length + a.length ∧ (d.goesAll a).out.woken.length = d.out.woken.length + a.length := by
  induction a generalizing d with
  | nil => exact ⟨rfl, rfl⟩
  | cons x l ih =>
    have := ih (d.goes x.toNat 0)
    simp only [Dng.goes, List.length_append, List.length_cons, List.length_nil] at this
    show (Dng.goesAll (d.goes x.toNat 0) l).ends.length = _ ∧ (Dng.goesAll (d.goes x.toNat 0) l).out.woken.length = _
    rw [List.length_cons]
    exact ⟨by have := this.1; simp only [Dng.goes] at this ⊢; omega, by have := this.2; simp only [Dng.goes] at this ⊢; omega⟩
theorem live_goes {ps : List (Option Nat)} {d : Dng} {m n : Nat} (h : LiveAt ps d.s m) (hn : LiveAt ps d.s n) : LiveAt ps (d.goes n 0).s m := by
  obtain ⟨hn16, q, u, hq, hu, hR⟩ := hn
  have := h.setT (n := n) (hR.wakes (y := 0) (by decide))
  unfold Dng.goes Spc.wake
  simp only
  rw [spc_t hu]; exact this
theorem live_goesAll {ps : List (Option Nat)} (m : Nat) (a : List Int) : ∀ (d : Dng), LiveAt ps d.s m → (∀ w ∈ a, LiveAt ps d.s w.toNat) → LiveAt ps (d.goesAll a).s m := by
  induction a with
  | nil => intro d h _; exact h
  | cons x l ih =>
    intro d h ha
    have hx := ha x List.mem_cons_self
    exact ih _ (live_goes h hx) (fun w hw => live_goes (ha w (List.mem_cons_of_mem _ hw)) hx)
def waitsTo (d : Dng) (k : Nat) : List Int := (d.s.gates.mtx.take k).flatMap fun m => m.wait.map (·.who)
theorem waitsTo_next {d : Dng} {k : Nat} {x : Mtx} (h : d.s.gates.mtx[k]? = some x) : waitsTo d (k + 1) = waitsTo d k ++ x.wait.map (·.who) := by
  unfold waitsTo
  rw [take_snoc h, List.flatMap_append]; simp
theorem sig_mem : ∀ (n : Nat) (c : Int) (r : List Wtr) (ms : List Mtx) (out : List Int), n ≤ r.length → ∀ w ∈ (sigLoop n c r ms out).2.2, w ∈ out ∨ ∃ y ∈ r, y.who = w
  | 0, _, _, _, _, _, _, h => .inl h
  | n + 1, c, r, ms, out, hn, w, h => by
    unfold sigLoop at h
    simp only at h
    obtain ⟨h1, h2, h3⟩ := take_mem (l := r) (c := c) (by omega)
    rcases sig_mem n c _ _ _ (by omega) w h with h | ⟨y, hy, e⟩
    · split at h
      · rcases List.mem_append.1 h with h | h
        · exact .inl h
        · rw [List.mem_singleton] at h; exact .inr ⟨_, h1, h.symm⟩
      · exact .inl h
    · exact .inr ⟨y, h3 y hy, e⟩
theorem sig_len : ∀ (n : Nat) (c : Int) (r : List Wtr) (ms : List Mtx) (out : List Int), (sigLoop n c r ms out).2.2.length ≤ out.length + n
  | 0, _, _, _, _ => by simp [sigLoop]
  | n + 1, c, r, ms, out => by
    unfold sigLoop
    simp only
    refine Nat.le_trans (sig_len n c _ _ _) ?_
    split
    · rw [List.length_append]; simp; omega
    · omega
theorem signal_has {g : Gates} {c ch : Int} {all : Bool} : ∀ w ∈ (g.signal c ch all).1, g.has w := fun w h => by
  unfold Gates.signal at h
  split at h
  · cases h
  · rename_i r e
    rcases sig_mem _ _ _ _ _ (by split <;> omega) w h with h | ⟨y, hy, e2⟩
    · cases h
    · exact .inr (.inl ⟨r, List.mem_of_getElem? (geti_of e).2.2, y, hy, e2⟩)
theorem signal_len {g : Gates} {c ch : Int} {all : Bool} (hg : ∀ r ∈ g.cnd, r.length ≤ 400000) : (g.signal c ch all).1.length ≤ 400000 := by
  unfold Gates.signal
  split
  · simp
  · rename_i r e
    have := hg r (List.mem_of_getElem? (geti_of e).2.2)
    refine Nat.le_trans (sig_len _ _ _ _ _) ?_
    simp only [List.length_nil]
    split <;> omega
theorem sig_mlen : ∀ (n : Nat) (c : Int) (r : List Wtr) (ms : List Mtx) (out : List Int), (sigLoop n c r ms out).2.1.length = ms.length
  | 0, _, _, _, _ => rfl
  | n + 1, c, r, ms, out => by unfold sigLoop; simp only; rw [sig_mlen n, List.length_set]
theorem signal_mlen {g : Gates} {c ch : Int} {all : Bool} : (g.signal c ch all).2.2.mtx.length = g.mtx.length := by
  unfold Gates.signal
  split
  · rfl
  · exact sig_mlen _ _ _ _ _
theorem sig_mwait : ∀ (n : Nat) (c : Int) (r : List Wtr) (ms : List Mtx) (out : List Int) (N : Nat), n ≤ r.length → (∀ x ∈ ms, x.wait.length ≤ N) → ∀ x ∈ (sigLoop n c r ms out).2.1, x.wait.length ≤ N + n ∧ ∀ y ∈ x.wait, (∃ x' ∈ ms, y ∈ x'.wait) ∨ ∃ z ∈ r, z.who = y.who
  | 0, _, _, _, _, _, _, hN, x, h => ⟨hN x h, fun y hy => .inl ⟨x, h, hy⟩⟩
  | n + 1, c, r, ms, out, N, hn, hN, x, h => by
    unfold sigLoop at h
    simp only at h
    obtain ⟨h1, h2, h3⟩ := take_mem (l := r) (c := c) (by omega)
    have hl : ∀ x ∈ ms.set (takeW r c).1.mutex.toNat ((ms.getD (takeW r c).1.mutex.toNat ⟨[], false, 0⟩).lock (takeW r c).1.who).2, x.wait.length ≤ N + 1 ∧ ∀ y ∈ x.wait, (∃ x' ∈ ms, y ∈ x'.wait) ∨ y.who = (takeW r c).1.who := by
      intro x hx
      rcases List.mem_or_eq_of_mem_set hx with hx | rfl
      · exact ⟨by have := hN x hx; omega, fun y hy => .inl ⟨x, hx, hy⟩⟩
      · have hg : ∀ (z : Mtx), (z ∈ ms ∨ z = ⟨[], false, 0⟩) → (z.lock (takeW r c).1.who).2.wait.length ≤ N + 1 ∧ ∀ y ∈ (z.lock (takeW r c).1.who).2.wait, (∃ x' ∈ ms, y ∈ x'.wait) ∨ y.who = (takeW r c).1.who := by
          intro z hz
          have hzl : z.wait.length ≤ N := by
            rcases hz with hz | rfl
            · exact hN z hz
            · exact Nat.zero_le _
          unfold Mtx.lock
          split
          · refine ⟨by rw [List.length_append]; simp; omega, fun y hy => ?_⟩
            rcases List.mem_append.1 hy with hy | hy
            · rcases hz with hz | rfl
              · exact .inl ⟨z, hz, hy⟩
              · cases hy
            · rw [List.mem_singleton] at hy; exact .inr (by rw [hy])
          · refine ⟨by show z.wait.length ≤ _; omega, fun y hy => ?_⟩
            rcases hz with hz | rfl
            · exact .inl ⟨z, hz, hy⟩
            · cases hy
        refine hg _ ?_
        rw [List.getD_eq_getElem?_getD]
        cases e : ms[(takeW r c).1.mutex.toNat]? with
        | none => exact .inr rfl
        | some z => exact .inl (List.mem_of_getElem? e)
    obtain ⟨g1, g2⟩ := sig_mwait n c _ _ _ (N + 1) (by omega) (fun x hx => (hl x hx).1) x h
    refine ⟨by omega, fun y hy => ?_⟩
    rcases g2 y hy with ⟨x', hx', hy'⟩ | ⟨z, hz, e⟩
    · rcases (hl x' hx').2 y hy' with hh | hh
      · exact .inl hh
      · exact .inr ⟨_, h1, hh.symm⟩
    · exact .inr ⟨z, h3 z hz, e⟩
theorem signal_mtx {g : Gates} {c ch : Int} {all : Bool} (h1 : ∀ x ∈ g.mtx, x.wait.length ≤ 400000) (h2 : ∀ r ∈ g.cnd, r.length ≤ 400000) : ∀ x ∈ (g.signal c ch all).2.2.mtx, x.wait.length ≤ 1000000 ∧ ∀ y ∈ x.wait, g.has y.who := by
  intro x hx
  unfold Gates.signal at hx
  split at hx
  · exact ⟨Nat.le_trans (h1 x hx) (by decide), fun y hy => .inl ⟨x, hx, y, hy, rfl⟩⟩
  · rename_i r e
    have hr := List.mem_of_getElem? (geti_of e).2.2
    have hrl := h2 r hr
    obtain ⟨a, b⟩ := sig_mwait _ _ _ _ _ 400000 (by split <;> omega) h1 x hx
    refine ⟨by have : (if all = true then r.length else min r.length 1) ≤ r.length := by split <;> omega
               omega, fun y hy => ?_⟩
    rcases b y hy with ⟨x', hx', hy'⟩ | ⟨z, hz, e2⟩
    · exact .inl ⟨x', hx', y, hy', rfl⟩
    · exact .inr (.inl ⟨r, hr, z, hz, e2⟩)
end Go.SLYtpcjdohmjmeehaaGreat
