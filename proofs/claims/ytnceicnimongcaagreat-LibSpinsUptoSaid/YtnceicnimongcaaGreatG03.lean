/- Walks of functions, and what they compute. Conditions: none, this text proves no statement. -/
import Derived.Test.YtnceicnimongcaaGreatG02
import Derived.Recover
import Derived.OrdersHeld
import Derived.Laws.Externs
import Derived.Laws.NewFold
namespace Go.SLYtnceicnimongcaaGreat
open Go Go.RowKit

theorem allH_void {α : Type} {f : α → HProp} {n : Nat} {x : α} (h : ∀ h, emp h → f x h) : ∀ h, emp h → allH f (List.replicate n x) h := by
  induction n with
  | zero => intro h e; exact e
  | succ n ih =>
    intro g e
    rw [List.replicate_succ, allH_cons]
    have : sep emp emp g := by rw [emp_sep]; exact e
    exact sep_mono h ih g this
theorem Ent.allV {α : Type} {H R As : List HProp} {f : α → HProp} {n : Nat} {x : α} (h : ∀ h, emp h → f x h) (t : Ent H As R) : Ent H (allH f (List.replicate n x) :: As) R := .conv (A := seps []) (allH_void h) (.grp .nil t)
theorem sl_void {α : Type} {enc : α → List Value} {k : Nat} {a : Option Addr} : ∀ h, emp h → sl enc k (.slice a 0 0) ([] : List α) h := fun _ e => .inl ⟨⟨_, rfl⟩, rfl, e⟩

def Same (ps : List (Option Nat)) (ts : List (Option Thr)) : Prop := ps.length = ts.length ∧ (∀ (n : Nat) (t : Thr), ts[n]? = some (some t) → ∃ p, ps[n]? = some (some p)) ∧ ∀ n : Nat, ts[n]? = some none → ps[n]? = some none
theorem thrs_same {ps : List (Option Nat)} {ts : List (Option Thr)} : ∀ h, thrsH ps ts h → Same ps ts := fun h a =>
  ⟨thrs_len a, fun _n _t e => let ⟨p, hp, _⟩ := thrs_get e h a; ⟨p, hp⟩, fun _n e => thrs_none e h a⟩
theorem thrs_cell {ps : List (Option Nat)} {ts : List (Option Thr)} {n p : Nat} {t : Thr} (hp : ps[n]? = some (some p)) (ht : ts[n]? = some (some t)) : ∀ h, thrsH ps ts h → ∃ J, sep (arr p 0 (thrC t)) J h := fun h a => by
  obtain ⟨q, hq, a'⟩ := thrs_get ht h a
  rw [hp] at hq
  cases hq
  exact ⟨_, a'⟩
def ptrs (ps : List (Option Nat)) : List Value :=
  [ptrO (ps.getD 0 none), ptrO (ps.getD 1 none), ptrO (ps.getD 2 none), ptrO (ps.getD 3 none), ptrO (ps.getD 4 none), ptrO (ps.getD 5 none), ptrO (ps.getD 6 none), ptrO (ps.getD 7 none),
    ptrO (ps.getD 8 none), ptrO (ps.getD 9 none), ptrO (ps.getD 10 none), ptrO (ps.getD 11 none), ptrO (ps.getD 12 none), ptrO (ps.getD 13 none), ptrO (ps.getD 14 none), ptrO (ps.getD 15 none)]
theorem ptrs_get (ps : List (Option Nat)) : ∀ {n : Nat} (_ : n < 16), (ptrs ps)[n]? = some (ptrO (ps.getD n none))
  | 0, _ => rfl
  | 1, _ => rfl
  | 2, _ => rfl
  | 3, _ => rfl
  | 4, _ => rfl
  | 5, _ => rfl
  | 6, _ => rfl
  | 7, _ => rfl
  | 8, _ => rfl
  | 9, _ => rfl
  | 10, _ => rfl
  | 11, _ => rfl
  | 12, _ => rfl
  | 13, _ => rfl
  | 14, _ => rfl
  | 15, _ => rfl
  | n + 16, h => absurd h (by omega)
section
variable {fv sv pv : Value} {p : Prg} {bt : Nat} {ps : List (Option Nat)} {vm : Value} {bg : Nat} {vt : Value} {bd bw : Nat} {vr : Value}
theorem spcC_get : ∀ {n : Nat} (_ : n < 16), (spcC fv sv pv p bt ps vm bg vt bd bw vr)[9 + n]? = some (ptrO (ps.getD n none))
  | 0, _ => rfl
  | 1, _ => rfl
  | 2, _ => rfl
  | 3, _ => rfl
  | 4, _ => rfl
  | 5, _ => rfl
  | 6, _ => rfl
  | 7, _ => rfl
  | 8, _ => rfl
  | 9, _ => rfl
  | 10, _ => rfl
  | 11, _ => rfl
  | 12, _ => rfl
  | 13, _ => rfl
  | 14, _ => rfl
  | 15, _ => rfl
  | n + 16, h => absurd h (by omega)
theorem spcC_set' {a0 a1 a2 a3 a4 a5 a6 a7 a8 a9 a10 a11 a12 a13 a14 a15 : Option Nat} (q : Option Nat) : ∀ {n : Nat} (_ : n < 16), (spcC fv sv pv p bt [a0, a1, a2, a3, a4, a5, a6, a7, a8, a9, a10, a11, a12, a13, a14, a15] vm bg vt bd bw vr).set (9 + n) (ptrO q) = spcC fv sv pv p bt ([a0, a1, a2, a3, a4, a5, a6, a7, a8, a9, a10, a11, a12, a13, a14, a15].set n q) vm bg vt bd bw vr
  | 0, _ => rfl
  | 1, _ => rfl
  | 2, _ => rfl
  | 3, _ => rfl
  | 4, _ => rfl
  | 5, _ => rfl
  | 6, _ => rfl
  | 7, _ => rfl
  | 8, _ => rfl
  | 9, _ => rfl
  | 10, _ => rfl
  | 11, _ => rfl
  | 12, _ => rfl
  | 13, _ => rfl
  | 14, _ => rfl
  | 15, _ => rfl
  | n + 16, h => absurd h (by omega)
theorem spcC_set {n : Nat} (h : n < 16) (hl : ps.length = 16) (q : Option Nat) : (spcC fv sv pv p bt ps vm bg vt bd bw vr).set (9 + n) (ptrO q) = spcC fv sv pv p bt (ps.set n q) vm bg vt bd bw vr := by
  match ps, hl with
  | [a0, a1, a2, a3, a4, a5, a6, a7, a8, a9, a10, a11, a12, a13, a14, a15], _ => exact spcC_set' q h
end
/-! slots -/
def slotTake (l : List (Bool × Int)) : Int × Int × Int × List (Bool × Int) :=
  match slotFree? l 0 with
  | none => (0, 0, 2, l)
  | some n => ((n : Int), slotH ((l.getD n (false, 0)).2 + 1) n, 0, l.set n (true, (l.getD n (false, 0)).2 + 1))
theorem slot_skip {l : List (Bool × Int)} {k : Nat} {o : Bool × Int} (h : l[k]? = some o) (hu : o.1 = true) : slotFree? (l.drop k) k = slotFree? (l.drop (k + 1)) (k + 1) := by rw [drop_cons h, slotFree?, if_pos hu]
theorem slot_hit {l : List (Bool × Int)} {k : Nat} {o : Bool × Int} (h : l[k]? = some o) (hu : o.1 = false) : slotFree? (l.drop k) k = some k := by rw [drop_cons h, slotFree?, if_neg (by rw [hu]; simp)]
theorem slot_end {l : List (Bool × Int)} {k : Nat} (h : l.length ≤ k) : slotFree? (l.drop k) k = none := by rw [List.drop_of_length_le h]; rfl
def TakeOk (l : List (Bool × Int)) : Prop := l.length ≤ 1024 ∧ ∀ o ∈ l, 0 ≤ o.2 ∧ o.2 < 1099511627776
def psBegin (l : List (Bool × Int)) (ps : List (Option Nat)) (p : Nat) : List (Option Nat) := match slotFree? l 0 with | none => ps | some n => ps.set n (some p)
theorem ready_none {l : List (Option Thr)} {k : Nat} (h : l[k]? = some none) : readyFrom (l.drop k) k = readyFrom (l.drop (k + 1)) (k + 1) := by rw [drop_cons h, readyFrom]
theorem ready_yes {l : List (Option Thr)} {k : Nat} {t : Thr} (h : l[k]? = some (some t)) (hw : t.why = 0) : readyFrom (l.drop k) k = (k : Int) :: readyFrom (l.drop (k + 1)) (k + 1) := by rw [drop_cons h, readyFrom, if_pos hw]
theorem ready_no {l : List (Option Thr)} {k : Nat} {t : Thr} (h : l[k]? = some (some t)) (hw : ¬ t.why = 0) : readyFrom (l.drop k) k = readyFrom (l.drop (k + 1)) (k + 1) := by rw [drop_cons h, readyFrom, if_neg hw]
theorem ready_end {l : List (Option Thr)} {k : Nat} (h : l.length ≤ k) : readyFrom (l.drop k) k = [] := by rw [List.drop_of_length_le h]; rfl
theorem slotTake_ok {l : List (Bool × Int)} (h : (slotTake l).2.2.1 = 0) : ∃ n, slotFree? l 0 = some n ∧ slotTake l = ((n : Int), slotH ((l.getD n (false, 0)).2 + 1) n, 0, l.set n (true, (l.getD n (false, 0)).2 + 1)) := by
  unfold slotTake at *
  cases e : slotFree? l 0 with
  | none => rw [e] at h; cases h
  | some n => exact ⟨n, rfl, rfl⟩
theorem slotTake_no {l : List (Bool × Int)} (h : ¬ (slotTake l).2.2.1 = 0) : slotFree? l 0 = none ∧ slotTake l = (0, 0, 2, l) := by
  unfold slotTake at *
  cases e : slotFree? l 0 with
  | none => exact ⟨rfl, rfl⟩
  | some n => rw [e] at h; exact absurd rfl h
theorem begin_ok {s : Spc} {f arg : Int} {n : Nat} (h : slotFree? s.table 0 = some n) : s.begin f arg = ((n : Int), 0, { s with table := s.table.set n (true, (s.table.getD n (false, 0)).2 + 1), thr := s.thr.set n (some (thr0 f arg (slotH ((s.table.getD n (false, 0)).2 + 1) n))) }) := by
  unfold Spc.begin; rw [h]
theorem begin_no {s : Spc} {f arg : Int} (h : slotFree? s.table 0 = none) : s.begin f arg = (0, 2, s) := by unfold Spc.begin; rw [h]
theorem thrs_new {ps : List (Option Nat)} {ts : List (Option Thr)} {n p : Nat} {t : Thr} (h : ts[n]? = some none) : ∀ g, seps [arr p 0 (thrC t), thrsH ps ts] g → thrsH (ps.set n (some p)) (ts.set n (some t)) g := fun g a => thrs_put h g (by simpa only [seps, sep_emp] using a)
def whyAt (ts : List (Option Thr)) (k : Nat) : Int := match ts[k]? with | some (some t) => t.why | _ => 0
theorem why_at {ts : List (Option Thr)} {k : Nat} {t : Thr} (h : ts[k]? = some (some t)) : t.why = whyAt ts k := by unfold whyAt; rw [h]
theorem same_some {ps : List (Option Nat)} {ts : List (Option Thr)} (hs : Same ps ts) {k : Nat} (hk : k < ts.length) {g : Nat → Addr} (h : ((ps.getD k none).map g).isNone = false) : ∃ p t, ps[k]? = some (some p) ∧ ts[k]? = some (some t) := by
  obtain ⟨x, hx⟩ := at_some hk
  cases x with
  | none => have := hs.2.2 k hx; rw [List.getD_eq_getElem?_getD, this] at h; cases h
  | some t => obtain ⟨p, hp⟩ := hs.2.1 k t hx; exact ⟨p, t, hp, hx⟩
theorem getD_of {α : Type} {l : List α} {k : Nat} {x d : α} (h : l[k]? = some x) : l.getD k d = x := by rw [List.getD_eq_getElem?_getD, h]; rfl
theorem rdy_yes {ps : List (Option Nat)} {ts : List (Option Thr)} (hs : Same ps ts) {k : Nat} (hk : k < ts.length) {g : Nat → Addr} (h : ((ps.getD k none).map g).isNone = false ∧ whyAt ts k = 0) : readyFrom (ts.drop k) k = (k : Int) :: readyFrom (ts.drop (k + 1)) (k + 1) := by
  obtain ⟨p, t, hp, ht⟩ := same_some hs hk h.1
  exact ready_yes ht ((why_at ht).trans h.2)
theorem rdy_no {ps : List (Option Nat)} {ts : List (Option Thr)} (hs : Same ps ts) {k : Nat} (hk : k < ts.length) {g : Nat → Addr} (h : ((ps.getD k none).map g).isNone = true ∨ ¬ whyAt ts k = 0) : readyFrom (ts.drop k) k = readyFrom (ts.drop (k + 1)) (k + 1) := by
  obtain ⟨x, hx⟩ := at_some hk
  cases x with
  | none => exact ready_none hx
  | some t =>
    obtain ⟨p, hp⟩ := hs.2.1 k t hx
    rcases h with h | h
    · rw [getD_of hp] at h; cases h
    · exact ready_no hx (fun e => h (by rw [← why_at hx]; exact e))
theorem ready_len : ∀ (l : List (Option Thr)) (k : Nat), (readyFrom l k).length ≤ l.length
  | [], _ => Nat.le_refl _
  | none :: l, k => Nat.le_succ_of_le (ready_len l (k + 1))
  | some t :: l, k => by
    rw [readyFrom]
    split
    · simpa using ready_len l (k + 1)
    · exact Nat.le_succ_of_le (ready_len l (k + 1))
theorem gates_sems {l : List Int} {k : Nat} {n : Int} (h : (l.take 4)[k]? = some n) : ((l.take 4).take (k + 1)).map (fun n => ((Value.slice none 0 0 : Value), (⟨[], clamp n 1048576⟩ : Smp))) = ((l.take 4).take k).map (fun n => ((Value.slice none 0 0 : Value), (⟨[], clamp n 1048576⟩ : Smp))) ++ [(Value.slice none 0 0, ⟨[], clamp n 1048576⟩)] := by
  rw [take_snoc h, List.map_append]; rfl
theorem allH_map_void {α β : Type} {f : β → HProp} {g : α → β} {l : List α} (h : ∀ x h, emp h → f (g x) h) : ∀ h, emp h → allH f (l.map g) h := by
  induction l with
  | nil => intro h e; exact e
  | cons x l ih =>
    intro k e
    rw [List.map_cons, allH_cons]
    have : sep emp emp k := by rw [emp_sep]; exact e
    exact sep_mono (h x) ih k this
theorem Ent.allM {α β : Type} {H R As : List HProp} {f : β → HProp} {g : α → β} {l : List α} (h : ∀ x h, emp h → f (g x) h) (t : Ent H As R) : Ent H (allH f (l.map g) :: As) R := .conv (A := seps []) (allH_map_void h) (.grp .nil t)
@[irreducible] def optH (f : Nat → HProp) (o : Option Nat) : HProp := match o with
  | none => emp
  | some b => f b
theorem Ent.opt0 {H R As : List HProp} {f : Nat → HProp} (t : Ent H As R) : Ent H (optH f none :: As) R := .conv (A := seps []) (fun _ e => by unfold optH; exact e) (.grp .nil t)
theorem Ent.opt1 {H R As : List HProp} {f : Nat → HProp} {b : Nat} (t : Ent H (f b :: As) R) : Ent H (optH f (some b) :: As) R := .conv (A := f b) (fun _ e => by unfold optH; exact e) t
theorem opt_some {f : Nat → HProp} {b : Nat} : ∀ h, optH f (some b) h → seps [f b] h := fun h a => by unfold optH at a; simpa only [seps, sep_emp] using a
theorem Ent.thr0 {H R As : List HProp} (t : Ent H As R) : Ent H (thrsH (List.replicate 16 none) (List.replicate 16 none) :: As) R := .conv (A := seps []) (fun _ e => e) (.grp .nil t)
theorem check_caps {p : Prg} (h : checkI p = 0) : capsI p = true := by
  unfold checkI at h
  by_cases hc : capsI p = true
  · exact hc
  · rw [if_neg hc] at h; cases h
theorem prg_one {W : World} {H : List HProp} {A : HProp} {v : PrgV} (hp : PrgRd W [A] v) (ha : At H A) : ∀ w, Sat W w (seps H) → ∀ y ∈ v.fs, ∀ c ∈ fstE y, c.oneCell' = true := fun w s y hy c hc => by
  simp only [fstE, List.mem_cons, List.not_mem_nil, or_false] at hc
  subst hc
  exact ((hp.ins y hy).at ha).one w s
def spc0 (p : Prg) : Spc := ⟨p, List.replicate 16 (false, 0), List.replicate 16 none, List.replicate p.words.toNat 0, Gates.new p.mutexes p.conds p.sems, p.pipes.map Tub.new, Dsk.new p.blocks, Whl.new, []⟩
theorem spc0_take (p : Prg) : TakeOk (spc0 p).table := ⟨by show (List.replicate 16 (false, (0 : Int))).length ≤ 1024; simp, fun o ho => by rw [List.eq_of_mem_replicate ho]; simp⟩
theorem spc0_free (p : Prg) : ∀ n, slotFree? (spc0 p).table 0 = some n → (spc0 p).thr[n]? = some none := fun n h => by
  have : n = 0 := by simpa [spc0, slotFree?] using h.symm
  subst this; rfl
theorem new_eq (p : Prg) : Spc.new p = ((spc0 p).begin 0 0).2.2 := rfl
theorem fs_step {α : Type} {cl fs : List α} {k : Nat} {x y : α} (hl : cl.length = k) (hx : fs[k]? = some x) : (cl ++ fs.drop k).set k y = (cl ++ [y]) ++ fs.drop (k + 1) := by
  subst hl
  rw [drop_cons hx, List.set_append_right _ _ (Nat.le_refl _)]
  simp
theorem fs_get {α : Type} {cl fs : List α} {k : Nat} {x : α} (hl : cl.length = k) (hx : fs[k]? = some x) : (cl ++ fs.drop k)[k]? = some x := by
  subst hl
  rw [drop_cons hx, List.getElem?_append_right (Nat.le_refl _)]
  simp
theorem Rd.isSl {W : World} {H : List HProp} {α : Type} {enc : α → List Value} {k : Nat} {v : Value} {xs : List α} (h : Rd W H enc k v xs) : ∀ w, Sat W w (seps H) → isSl v = true := fun w s => by
  obtain ⟨⟨a, cap, hv, _⟩, _⟩ := h w s
  rw [hv]; rfl
theorem keep_yes {l : List Ev} {k : Nat} {e : Ev} (h : l[k]? = some e) (hb : evRuns e = true ∨ 0 < e.mode) : evKeep (l.take (k + 1)) = evKeep (l.take k) ++ [e] := by
  rw [take_snoc h]; unfold evKeep; rw [List.filter_append]
  congr 1
  rw [List.filter_cons, if_pos (by simpa using hb)]; rfl
theorem keep_no {l : List Ev} {k : Nat} {e : Ev} (h : l[k]? = some e) (hb : evRuns e = false ∧ ¬ 0 < e.mode) : evKeep (l.take (k + 1)) = evKeep (l.take k) := by
  rw [take_snoc h]; unfold evKeep; rw [List.filter_append]
  have : (evRuns e || decide (0 < e.mode)) = false := by rw [hb.1]; simpa using hb.2
  simp [this]
theorem keep_len (l : List Ev) : (evKeep l).length ≤ l.length := List.length_filter_le _ _
theorem keep_len' (l : List Ev) (k : Nat) : (evKeep (l.take k)).length ≤ k := Nat.le_trans (keep_len _) (by rw [List.length_take]; omega)
def runsT (v : Vsl) : Int := if v.runs = true then v.thread else 0
def evT (e : Ev) : Int := if evRuns e = true then e.thread else 0
theorem strip_len (v : Vsl) : v.strip.length ≤ v.evs.length + 1 := by
  unfold Vsl.strip
  have := keep_len v.evs
  rw [List.length_append]
  split
  · simp; omega
  · split <;> simp <;> omega
theorem unb_snoc {l : List Int} {k : Nat} {n : Int} (h : l[k]? = some n) : unblocked (l.take (k + 1)) = unblocked (l.take k) ++ [⟨3, n, 0⟩] := by unfold unblocked; rw [take_snoc h, List.map_append]; rfl
/-! a library -/
def libIn (l : Lib) (p : Int) : Bool := decide (0 ≤ p) && decide (p < (l.vs.length : Int))
def modeAt (vs : List Vsl) (p : Int) : Int := (vs.getD p.toNat Vsl.z).mode
theorem lib_has (l : Lib) (p : Int) : l.has p = (libIn l p && decide (modeAt l.vs p ≠ 0)) := by
  unfold Lib.has libIn modeAt geti
  by_cases h : p < 0
  · simp [h]; omega
  · rw [if_neg h]
    by_cases h2 : p.toNat < l.vs.length
    · have e : l.vs[p.toNat]? = some l.vs[p.toNat] := by simp [h2]
      have d1 : decide (0 ≤ p) = true := decide_eq_true (by omega)
      have d2 : decide (p < (l.vs.length : Int)) = true := decide_eq_true (by omega)
      rw [e, getD_of e, d1, d2]; simp
    · have e : l.vs[p.toNat]? = none := by simp; omega
      have d2 : decide (p < (l.vs.length : Int)) = false := decide_eq_false (by omega)
      rw [e, d2]; simp
theorem map_len {α β : Type} {f : α → β} {xs : List α} {ys : List β} (h : xs.map f = ys) : xs.length = ys.length := by rw [← h, List.length_map]
theorem map_get {α β : Type} {f : α → β} {xs : List α} {ys : List β} (h : xs.map f = ys) {i : Nat} {x : α} (hx : xs[i]? = some x) : ys[i]? = some (f x) := by rw [← h, List.getElem?_map, hx]; rfl
theorem mode_at {vs : List Vsl} {i : Nat} {v : Vsl} (h : vs[i]? = some v) : v.mode = modeAt vs (i : Int) := by unfold modeAt; rw [Int.toNat_natCast, getD_of h]
theorem procs_yes {l : Lib} {k : Nat} (hk : k < l.vs.length) (h : l.has (k : Int) = true) : procsFrom (l.vs.drop k) k = (k : Int) :: procsFrom (l.vs.drop (k + 1)) (k + 1) := by
  obtain ⟨v, hv⟩ := at_some hk
  rw [lib_has, Bool.and_eq_true, decide_eq_true_eq, ← mode_at hv] at h
  rw [drop_cons hv, procsFrom, if_neg h.2]
theorem procs_no {l : Lib} {k : Nat} (hk : k < l.vs.length) (h : l.has (k : Int) = false) : procsFrom (l.vs.drop k) k = procsFrom (l.vs.drop (k + 1)) (k + 1) := by
  obtain ⟨v, hv⟩ := at_some hk
  have e : libIn l (k : Int) = true := by unfold libIn; simp [hk]
  rw [lib_has, e, Bool.true_and, decide_eq_false_iff_not, ← mode_at hv] at h
  rw [drop_cons hv, procsFrom, if_pos (Decidable.of_not_not h)]
theorem procs_end {vs : List Vsl} {k : Nat} (h : vs.length ≤ k) : procsFrom (vs.drop k) k = [] := by rw [List.drop_of_length_le h]; rfl
theorem procs_mem : ∀ (vs : List Vsl) (k : Nat) (p : Int), p ∈ procsFrom vs k → ∃ i v, p = ((k + i : Nat) : Int) ∧ vs[i]? = some v ∧ v.mode ≠ 0
  | [], k, p, h => by cases h
  | v :: vs, k, p, h => by
    rw [procsFrom] at h
    split at h
    · obtain ⟨i, u, e, hu, hm⟩ := procs_mem vs (k + 1) p h
      exact ⟨i + 1, u, by rw [e]; congr 1; omega, by simpa using hu, hm⟩
    · rename_i hm
      rcases List.mem_cons.1 h with h | h
      · exact ⟨0, v, h, rfl, hm⟩
      · obtain ⟨i, u, e, hu, hm⟩ := procs_mem vs (k + 1) p h
        exact ⟨i + 1, u, by rw [e]; congr 1; omega, by simpa using hu, hm⟩
theorem procs_head {l : Lib} {p : Int} {r : List Int} (h : l.procs = p :: r) : ∃ (i : Nat) (v : Vsl), p = (i : Int) ∧ l.vs[i]? = some v ∧ v.mode ≠ 0 := by
  obtain ⟨i, v, e, hv, hm⟩ := procs_mem l.vs 0 p (by show p ∈ l.procs; rw [h]; exact List.mem_cons_self ..)
  exact ⟨i, v, by rw [e]; congr 1; omega, hv, hm⟩
end Go.SLYtnceicnimongcaaGreat
namespace Go.SLYtnceicnimongcaaGreat
open Go Go.RowKit

theorem At.auto {H : List HProp} {A : HProp} (t : At H A := by repeat (first | exact At.here | refine At.there ?_)) : At H A := t
theorem Take.auto {H R : List HProp} {A : HProp} (t : Take H A R := by repeat (first | exact Take.here | apply Take.there)) : Take H A R := t
theorem Repl.auto {H H' : List HProp} {A B : HProp} (t : Repl H A B H' := by repeat (first | exact Repl.here | apply Repl.there)) : Repl H A B H' := t
theorem Top.auto {ks : List Nat} {L L' : List (Nat × Option Value)} (t : Top ks L L' := by repeat (first | exact Top.base | refine Top.cons rfl ?_)) : Top ks L L' := t
theorem Kept.auto {W : World} {H K : List HProp} (t : Kept H K := by repeat (first | exact Kept.nil | exact Take.here | apply Take.there | apply Kept.take)) : ∀ w, Sat W w (seps H) → Sat W w (seps K) := Kept.ok t
theorem Ent.auto {H As R : List HProp} (t : Ent H As R := by repeat (first | exact Ent.nil | (apply Ent.cons; · repeat (first | exact Take.here | apply Take.there)) | apply Ent.opt0 | apply Ent.opt1 | apply Ent.void | apply Ent.emp0 | apply Ent.two | (apply Ent.allV; · exact sl_void) | (apply Ent.allM; · exact fun _ => sl_void) | apply Ent.f1 rfl | apply Ent.f2 rfl | apply Ent.f3 rfl | apply Ent.f4 rfl | apply Ent.f10 rfl | apply Ent.grp | assumption | exact trivial | rfl | omega)) : Ent H As R := t
end Go.SLYtnceicnimongcaaGreat
namespace Go.SLYtnceicnimongcaaGreat
open Go Go.RowKit

theorem all_out {α : Type} {f : α → HProp} {xs : List α} {i : Nat} {x : α} (h : xs[i]? = some x) : ∀ g, allH f xs g → seps [f x, allH f (xs.eraseIdx i)] g := fun g a => by
  rw [allH_get f h] at a; simpa only [seps, sep_emp] using a
theorem all_in {α : Type} {f : α → HProp} {xs : List α} {i : Nat} {x : α} (y : α) (h : xs[i]? = some x) : ∀ g, seps [f y, allH f (xs.eraseIdx i)] g → allH f (xs.set i y) g := fun g a => by
  rw [allH_set f y (List.getElem?_eq_some_iff.1 h).1]; simpa only [seps, sep_emp] using a
theorem all_back {α : Type} {f : α → HProp} {xs : List α} {i : Nat} {x : α} (h : xs[i]? = some x) : ∀ g, seps [f x, allH f (xs.eraseIdx i)] g → allH f xs g := fun g a => by
  rw [allH_get f h]; simpa only [seps, sep_emp] using a
theorem map_back {α β : Type} {f : α → β} {xs : List α} {ys : List β} (h : xs.map f = ys) {i : Nat} {y : β} (hy : ys[i]? = some y) : ∃ x, xs[i]? = some x ∧ f x = y := by
  rw [← h, List.getElem?_map] at hy
  cases e : xs[i]? with
  | none => rw [e] at hy; cases hy
  | some x => rw [e] at hy; exact ⟨x, rfl, by simpa using hy⟩
theorem map_set {α β : Type} {f : α → β} {xs : List α} {ys : List β} (h : xs.map f = ys) (i : Nat) (y : α) : (xs.set i y).map f = ys.set i (f y) := by rw [List.map_set, h]

theorem vsl_one {u : Value} {x : Vsl} (h : isSl u = true) : (vslE (u, x)).all (·.oneCell') = true := by
  have := isSl_one h
  show (true && (true && (u.oneCell' && true))) = true
  rw [this]; rfl
theorem has_nat {l : Lib} {p : Int} (h : libIn l p = true) : ∃ (i : Nat) (v : Vsl), p = (i : Int) ∧ l.vs[i]? = some v := by
  unfold libIn at h
  simp only [Bool.and_eq_true, decide_eq_true_eq] at h
  obtain ⟨v, hv⟩ := at_some (show p.toNat < l.vs.length by omega)
  exact ⟨p.toNat, v, by omega, hv⟩
theorem has_in {l : Lib} {p : Int} (h : l.has p = true) : libIn l p = true := by
  rw [lib_has, Bool.and_eq_true] at h; exact h.1
theorem grant_no {l : Lib} {p : Int} (h : libIn l p = false ∨ l.has p = true) : l.grant p = (false, l) := by
  unfold Lib.grant
  rcases h with h | h
  · have : geti l.vs p = none := by
      unfold libIn at h
      unfold geti
      split
      · rfl
      · simp only [Bool.and_eq_false_iff, decide_eq_false_iff_not] at h
        simp; omega
    rw [this]
  · obtain ⟨i, v, rfl, hv⟩ := has_nat (has_in h)
    have e : geti l.vs (i : Int) = some v := by unfold geti; rw [if_neg (by omega), Int.toNat_natCast, hv]
    rw [lib_has, Bool.and_eq_true, decide_eq_true_eq, ← mode_at hv] at h
    rw [e]; simp only; rw [if_neg h.2]
theorem grant_yes {l : Lib} {p : Int} (h1 : libIn l p = true) (h : l.has p = false) : ∃ (i : Nat) (v : Vsl), p = (i : Int) ∧ l.vs[i]? = some v ∧ l.grant p = (true, { l with vs := l.vs.set i (Vsl.new (⟨1, -1, 0⟩ :: l.waiting)), waiting := [] }) := by
  obtain ⟨i, v, rfl, hv⟩ := has_nat h1
  refine ⟨i, v, rfl, hv, ?_⟩
  have e : geti l.vs (i : Int) = some v := by unfold geti; rw [if_neg (by omega), Int.toNat_natCast, hv]
  rw [lib_has, h1, Bool.true_and, decide_eq_false_iff_not, ← mode_at hv, Decidable.not_not] at h
  unfold Lib.grant; rw [e]; simp only; rw [if_pos h]; rfl
theorem tell_nil (l : Lib) : l.tell [] = l := by unfold Lib.tell; rw [if_pos rfl]
theorem tell_wait {l : Lib} {ys : List Ev} (h : ys ≠ []) (hp : l.procs = []) : l.tell ys = { l with waiting := l.waiting ++ ys } := by unfold Lib.tell; rw [if_neg h, hp]
theorem tell_some {l : Lib} {ys : List Ev} (h : ys ≠ []) {i : Nat} {v : Vsl} {r : List Int} (hp : l.procs = (i : Int) :: r) (hv : l.vs[i]? = some v) : l.tell ys = { l with vs := l.vs.set i (v.told ys) } := by
  unfold Lib.tell; rw [if_neg h, hp]; simp only [Int.toNat_natCast]; rw [getD_of hv]
theorem revoke_no {l : Lib} {p : Int} (h : l.has p = false) : l.revoke p = (false, l) := by unfold Lib.revoke; rw [if_neg (by rw [h]; simp)]
theorem revoke_yes {l : Lib} {i : Nat} {v : Vsl} (h : l.has (i : Int) = true) (hv : l.vs[i]? = some v) : l.revoke (i : Int) = (true, ({ l with vs := l.vs.set i Vsl.z } : Lib).tell v.strip) := by
  unfold Lib.revoke; rw [if_pos h]; simp only [Int.toNat_natCast]; rw [getD_of hv]
/-! processors -/
def krnX (b : Nat) (bl : List Nat) (k : Krn) : HProp := exP3 (fun _ _ (xs : List (Nat × Lib)) => xs.map (·.1) = bl ∧ xs.map (·.2) = k.libs) fun vo vl xs => [arr b 0 [vo, vl], sl intE 1 vo k.owner, sl ptrE 1 vl xs, allH (fun x => libH x.1 x.2) xs]
def krnH (b : Nat) (k : Krn) : HProp := exP1 (fun _ => True) fun bl => [krnX b bl k]
def evSum (l : Lib) : Nat := l.waiting.length + (l.vs.map (fun v => v.evs.length)).sum
structure LOk (m : Nat) (l : Lib) : Prop where
  ev : evSum l ≤ m
  vl : l.vs.length ≤ 64
  th : l.spc.thr.length = 16
structure KOk (m : Nat) (k : Krn) : Prop where
  own : ∀ v ∈ k.owner, v = -1 ∨ (0 ≤ v ∧ v < (k.libs.length : Int))
  ol : k.owner.length ≤ 64
  ll : k.libs.length ≤ 8
  lib : ∀ l ∈ k.libs, LOk m l
def isThere (k : Krn) (p : Int) : Bool := decide (0 ≤ p) && decide (p < (k.owner.length : Int))
def ownAt (o : List Int) (p : Int) : Int := o.getD p.toNat 0
theorem geti_nat {α : Type} (l : List α) (i : Nat) : geti l (i : Int) = l[i]? := by unfold geti; rw [if_neg (by omega), Int.toNat_natCast]
def mineE (k : Krn) (p : Int) : Int := match geti k.owner p with | none => 1 | some o => if o = -1 then 11 else 0
def mineB (bl : List Nat) (k : Krn) (p : Int) : Option Nat := match geti k.owner p with | none => none | some o => if o = -1 then none else bl[o.toNat]?
theorem KOk.nat {m : Nat} {k : Krn} (h : KOk m k) {i : Nat} {o : Int} (ho : k.owner[i]? = some o) (hn : o ≠ -1) : ∃ (n : Nat) (l : Lib), o = (n : Int) ∧ k.libs[n]? = some l := by
  rcases h.own o (List.mem_of_getElem? ho) with e | ⟨h0, h1⟩
  · exact absurd e hn
  · obtain ⟨l, hl⟩ := at_some (show o.toNat < k.libs.length by omega)
    exact ⟨o.toNat, l, by omega, hl⟩
theorem mine_ok {m : Nat} {k : Krn} (hk : KOk m k) {p : Int} (h : mineE k p = 0) : ∃ (i n : Nat) (l : Lib), p = (i : Int) ∧ k.owner[i]? = some (n : Int) ∧ k.libs[n]? = some l ∧ k.take p = (0, ⟨k.owner.set i (-1), k.libs.set n (l.revoke (i : Int)).2⟩) := by
  unfold mineE at h
  cases e : geti k.owner p with
  | none => rw [e] at h; cases h
  | some o =>
    rw [e] at h
    simp only at h
    by_cases eo : o = -1
    · rw [if_pos eo] at h; cases h
    · have hp : 0 ≤ p := by
        unfold geti at e
        split at e
        · cases e
        · omega
      obtain ⟨i, rfl⟩ : ∃ i : Nat, p = (i : Int) := ⟨p.toNat, by omega⟩
      rw [geti_nat] at e
      obtain ⟨n, l, rfl, hl⟩ := hk.nat e eo
      refine ⟨i, n, l, rfl, e, hl, ?_⟩
      unfold Krn.take; rw [geti_nat, e]; simp only; rw [if_neg eo]; simp only [Int.toNat_natCast]; rw [getD_of hl]
theorem mine_bad {k : Krn} {p : Int} (h : ¬ mineE k p = 0) : k.take p = (mineE k p, k) := by
  unfold mineE Krn.take at *
  cases e : geti k.owner p with
  | none => rfl
  | some o =>
    rw [e] at h
    simp only at h ⊢
    by_cases eo : o = -1
    · rw [if_pos eo, if_pos eo]
    · rw [if_neg eo] at h; exact absurd rfl h
theorem give_yes {k : Krn} {i n : Nat} {l : Lib} (ho : k.owner[i]? = some (-1)) (hl : k.libs[n]? = some l) : k.give (i : Int) (n : Int) = (0, ⟨k.owner.set i (n : Int), k.libs.set n (l.grant (i : Int)).2⟩) := by
  unfold Krn.give; rw [geti_nat, geti_nat, ho, hl]; simp only [if_true, Int.toNat_natCast]
theorem nsum_mem {l : List Nat} {n : Nat} (h : n ∈ l) : n ≤ l.sum := by
  induction l with
  | nil => cases h
  | cons x l ih =>
    rw [List.sum_cons]
    rcases List.mem_cons.1 h with h | h
    · omega
    · have := ih h; omega
theorem LOk.w {m : Nat} {l : Lib} (h : LOk m l) : l.waiting.length ≤ m := by have := h.ev; unfold evSum at this; omega
theorem LOk.e {m : Nat} {l : Lib} (h : LOk m l) : ∀ v ∈ l.vs, v.evs.length ≤ m := fun v hv => by
  have := h.ev; unfold evSum at this
  have := nsum_mem (List.mem_map_of_mem (f := fun v : Vsl => v.evs.length) hv)
  omega
end Go.SLYtnceicnimongcaaGreat
namespace Go.SLYtnceicnimongcaaGreat
open Go Go.RowKit

structure DOk (d : Deal) : Prop where
  left : 0 ≤ d.left ∧ d.left ≤ 64
  pl : d.prio.length = d.demand.length
  ol : d.out.length = d.demand.length
  dm : ∀ z ∈ d.demand, z ≤ 1000000
  om : ∀ y ∈ d.out, 0 ≤ y
  dl : d.demand.length ≤ 8
def dr (p : Int) (f : Nat) (d : Deal) : Deal := Deal.rounds p f (d.left.toNat + 1) d
def priosN (f : Nat) : Nat → Deal → Deal
  | 0, d => d
  | p + 1, d => priosN f p (dr (p : Int) f d)
theorem pick_int {t : Int} {n : Nat} (hn : 0 < n) : ((t.tmod n + n).tmod n) = ((pick t n : Nat) : Int) := by
  unfold pick
  have h1 : -(n : Int) < t.tmod n := Int.lt_tmod_of_pos t (show (0 : Int) < n by omega)
  have h2 : 0 ≤ (t.tmod n + n).tmod n := Int.tmod_nonneg _ (by omega)
  omega
theorem pick_lt {t : Int} {n : Nat} (hn : 0 < n) : pick t n < n := by
  have := pick_int (t := t) hn
  have h2 := Int.tmod_lt_of_pos (t.tmod n + n) (show (0 : Int) < n by omega)
  omega
def dl0 (procs : Int) (demand prio : List Int) : Deal := ⟨procs, demand, prio, List.replicate demand.length 0⟩
/-! what New makes -/
theorem begin_thr (s : Spc) (f arg : Int) : (s.begin f arg).2.2.thr.length = s.thr.length := by
  unfold Spc.begin
  split
  · rfl
  · simp
theorem new_thr (p : Prg) : (Spc.new p).thr.length = 16 := by rw [new_eq, begin_thr]; simp [spc0]
end Go.SLYtnceicnimongcaaGreat
namespace Go.SLYtnceicnimongcaaGreat

structure Eff where
  woken : List Int
  stopped : Bool
  ended : Bool
  yielded : Bool
deriving DecidableEq
def Eff.z : Eff := ⟨[], false, false, false⟩

/-! words as numbers with a point -/
def fLt (a b : Int) : Bool := Ieee.double.order a.toNat b.toNat == some .lt
def fEq (a b : Int) : Bool := Ieee.double.order a.toNat b.toNat == some .eq
def fNan (a : Int) : Bool := !fEq a a
def fClean (a : Int) : Int := if fNan a = true then fNone else a
def fOut : Option Nat → Int
  | some r => fClean r
  | none => fNone
def fAdd (a b : Int) : Int := fOut (Ieee.double.add a.toNat b.toNat)
def fSub (a b : Int) : Int := fOut (Ieee.double.sub a.toNat b.toNat)
def fMul (a b : Int) : Int := fOut (Ieee.double.mul a.toNat b.toNat)
def fDiv (a b : Int) : Int := fOut (Ieee.double.div a.toNat b.toNat)
def fToFloat (a : Int) : Int := fClean (Go.FloatKind.f64.nearest (Go.IntKind.i64.wrap a))
def yesI (b : Bool) : Int := if b = true then 1 else 0
def archPick (neg : Bool) (win : Ordering) (x y : Nat) : Nat :=
  let a := Go.FloatKind.f64.decode x
  let b := Go.FloatKind.f64.decode y
  if a == .infinity neg || b == .infinity neg then Go.FloatKind.f64.encode (.infinity neg)
  else if a.isNaN || b.isNaN then 0x7FF8000000000001
  else if a.isZero && b.isZero then (if a.neg == neg then x else y)
  else if a.order b == some win then x else y
def fMinW (a b : Int) : Int := if (fNan a || fNan b) = true then fNone else fClean (archPick true .lt a.toNat b.toNat : Nat)
def fMaxW (a b : Int) : Int := if (fNan a || fNan b) = true then fNone else fClean (archPick false .gt a.toNat b.toNat : Nat)
def fFar : Nat := 4890909195324358656
def fMFar : Nat := 14114281232179134464
def fToInt (a : Int) : Int :=
  if fNan a = true then 0 else
  if (Ieee.double.order a.toNat fFar == some .gt || Ieee.double.order a.toNat fFar == some .eq) = true then 9223372036854775807 else
  if (Ieee.double.order a.toNat fMFar == some .lt) = true then 9223372036854775808 else w64 (((Go.FloatKind.f64.decode a.toNat).toInt .zero).getD 0)

def arithI (op a b : Int) : Int :=
  if op = 2 then a else if op = 3 then w64 (a + b) else if op = 4 then w64 (a - b) else if op = 5 then w64 (a * b) else if op = 6 then yesI (decide (a < b)) else
  if op = 7 then fAdd a b else if op = 8 then fSub a b else if op = 9 then fMul a b else if op = 10 then fDiv a b else
  if op = 11 then fMinW a b else if op = 12 then fMaxW a b else if op = 13 then yesI (fLt a b) else
  if op = 14 then fToInt a else if op = 15 then fToFloat a else 0

/-! plain instructions -/
structure Frm where
  fn : Int
  pc : Int
  regs : List Int
def Frm.z : Frm := ⟨0, 0, [0, 0, 0, 0, 0, 0, 0, 0]⟩
def Frm.reg (f : Frm) (a : Int) : Int := f.regs.getD a.toNat 0
def Frm.put (f : Frm) (a v : Int) : Frm := { f with regs := f.regs.set a.toNat v }
def shortB (op : Int) : Bool := decide (op = 2) || decide (op = 14) || decide (op = 15)
def doI (f : Frm) (m : List Int) (i : Ins) : Option (Frm × List Int) :=
  if i.op = 16 then some ({ f with pc := i.n }, m) else
  if i.op = 17 then some ({ f with pc := if f.reg i.a = 0 then i.n else f.pc + 1 }, m) else
  if i.op = 1 then some ({ f.put i.a i.n with pc := f.pc + 1 }, m) else
  if i.op = 18 then (if f.reg i.b < m.length then some ({ f.put i.a (m.getD (f.reg i.b).toNat 0) with pc := f.pc + 1 }, m) else none) else
  if i.op = 19 then (if f.reg i.a < m.length then some ({ f with pc := f.pc + 1 }, m.set (f.reg i.a).toNat (f.reg i.b)) else none) else
  some ({ f.put i.a (arithI i.op (f.reg i.b) (if shortB i.op = true then 0 else f.reg i.c)) with pc := f.pc + 1 }, m)

/-! threads -/
def thrZ : Thr := ⟨0, 0, [0, 0, 0, 0, 0, 0, 0, 0], 0, 0, 0, false, -1, 0, -1⟩
def Thr.frm (t : Thr) : Frm := ⟨t.fn, t.pc, t.regs⟩
def Thr.setF (t : Thr) (f : Frm) : Thr := { t with fn := f.fn, pc := f.pc, regs := f.regs }
def Thr.reg (t : Thr) (a : Int) : Int := t.regs.getD a.toNat 0
def Thr.put (t : Thr) (a : Int) (v : Int) : Thr := { t with regs := t.regs.set a.toNat v }
def Spc.t (s : Spc) (n : Nat) : Thr := (s.thr.getD n none).getD thrZ
def Spc.setT (s : Spc) (n : Nat) (t : Thr) : Spc := { s with thr := s.thr.set n (some t) }
def Spc.at (s : Spc) (n : Int) : Option Thr := (geti s.thr n).getD none
def Spc.free (s : Spc) (n : Nat) : Spc := { s with table := slotFreed s.table (s.t n).handle, thr := s.thr.set n none }
def Spc.tell (s : Spc) (r : Rec) : Spc := { s with recs := s.recs ++ [r] }
def nextI (p : Prg) (f : Frm) : Option Ins := if f.fn < 0 ∨ f.pc < 0 then none else (p.funcs.getD f.fn.toNat [])[f.pc.toNat]?
def Thr.wakes (t : Thr) (y : Int) : Thr := { (if t.into = -1 then t else t.put t.into y).put 7 0 with why := 0, into := -1 }
def Thr.woke (t : Thr) (y : Int) : Rec := ⟨t.handle, t.op, 0, if t.into = -1 then 0 else y, 0, true⟩
def Spc.wake (s : Spc) (n : Nat) (y : Int) : Spc := s.setT n ((s.t n).wakes y)

/-! an instruction that a thread does -/
structure Dng where
  s : Spc
  n : Nat
  i : Ins
  choice : Int
  out : Eff
  ends : List Rec
def Dng.t (d : Dng) : Thr := d.s.t d.n
def Dng.setT (d : Dng) (t : Thr) : Dng := { d with s := d.s.setT d.n t }
def Dng.a (d : Dng) : Int := d.t.reg d.i.a
def Dng.b (d : Dng) : Int := d.t.reg d.i.b
def Dng.tell (d : Dng) (x y e : Int) (fin : Bool) : Dng := { d with s := d.s.tell ⟨d.t.handle, d.i.op, x, y, e, fin⟩ }
def Dng.pass (d : Dng) (x y e : Int) : Dng := (d.tell x y e true).setT (d.t.put 7 e)
def Dng.block (d : Dng) (why into x y : Int) : Dng := { (d.tell x y 0 false).setT { d.t with why := why, op := d.i.op, into := into } with out := { d.out with stopped := true } }
def Dng.goes (d : Dng) (n : Nat) (y : Int) : Dng := { d with s := d.s.wake n y, ends := d.ends ++ [(d.s.t n).woke y], out := { d.out with woken := d.out.woken ++ [(n : Int)] } }
def Dng.free (d : Dng) (n : Nat) : Dng := { d with s := d.s.free n }
def Dng.ended (d : Dng) : Dng := { d with out := { d.out with ended := true } }
def Dng.fin (d : Dng) (v : Int) : Dng :=
  if d.t.detached = true then d.ended.free d.n else
  if d.t.joiner = -1 then d.ended.setT { d.t with why := 9, value := v } else (d.ended.goes d.t.joiner.toNat v).free d.n
def Dng.finish (d : Dng) : Eff × Spc := (d.out, { d.s with recs := d.s.recs ++ d.ends })
def Dng.withG (d : Dng) (g : Gates) : Dng := { d with s := { d.s with gates := g } }
def Dng.withU (d : Dng) (k : Nat) (u : Tub) : Dng := { d with s := { d.s with tubes := d.s.tubes.set k u } }
def Dng.withD (d : Dng) (u : Dsk) : Dng := { d with s := { d.s with disk := u } }
def Dng.withW (d : Dng) (u : Whl) : Dng := { d with s := { d.s with wheel := u } }

def Dng.plain (d : Dng) : Dng :=
  match doI d.t.frm d.s.mem d.i with
  | some (f, m) =>
    let d1 := if d.i.op = 18 then d.tell d.b (d.s.mem.getD d.b.toNat 0) 0 true else if d.i.op = 19 then d.tell d.a d.b 0 true else d
    { d1 with s := { d1.s.setT d.n (d.t.setF f) with mem := m } }
  | none => (if d.i.op = 18 then d.tell d.b 0 6 true else d.tell d.a d.b 6 true).fin 18446744073709551615

def Dng.spawn (d : Dng) : Dng :=
  let r := d.s.begin d.i.n d.b
  let h := if r.2.1 = 0 then (r.2.2.t r.1.toNat).handle else 0
  let d1 : Dng := { d with s := r.2.2, out := if r.2.1 = 0 then { d.out with woken := d.out.woken ++ [r.1] } else d.out }
  (d1.setT (d1.t.put d.i.a h)).pass d.i.n h r.2.1
def Dng.other (d : Dng) (h : Int) : Nat × Int :=
  match slotFind d.s.table h with
  | none => (0, 3)
  | some n => if n = d.n ∨ (d.s.t n).detached = true then (0, 3) else if (d.s.t n).joiner = -1 then (n, 0) else (0, 4)
def Dng.join (d : Dng) : Dng :=
  let x := d.b
  if (d.other x).2 ≠ 0 then d.pass x 0 (d.other x).2 else
  let n := (d.other x).1
  if (d.s.t n).why = 9 then ((d.setT (d.t.put d.i.a (d.s.t n).value)).free n).pass x (d.s.t n).value 0 else
  ({ d with s := d.s.setT n { d.s.t n with joiner := d.n } } : Dng).block 4 d.i.a x 0
def Dng.detach (d : Dng) : Dng :=
  let x := d.a
  if (d.other x).2 ≠ 0 then d.pass x 0 (d.other x).2 else
  let n := (d.other x).1
  (if (d.s.t n).why = 9 then d.free n else ({ d with s := d.s.setT n { d.s.t n with detached := true } } : Dng)).pass x 0 0
def Dng.goesAll (d : Dng) : List Int → Dng
  | [] => d
  | n :: l => (d.goes n.toNat 0).goesAll l
def whyAll (s : Spc) : List Int → Spc
  | [] => s
  | n :: l => whyAll (s.setT n.toNat { s.t n.toNat with why := 1 }) l
def Dng.waits (d : Dng) : List Int := ((d.s.gates.mtx.take d.s.prg.mutexes.toNat).flatMap fun m => m.wait.map (·.who))
def Dng.moved (d : Dng) (l : List Int) : Dng := ({ d with s := whyAll d.s d.waits } : Dng).goesAll l
def Dng.given (d : Dng) (n : Int) (ok : Bool) : Dng := if ok = true then d.goes n.toNat 0 else d
def Dng.mutex (d : Dng) : Dng :=
  let m := d.i.n
  if d.i.op = 25 then
    let r := d.s.gates.lock d.n m
    if r.2.1 = 0 ∧ r.1 = false then (d.withG r.2.2).block 1 (-1) m 0 else (d.withG r.2.2).pass m 0 r.2.1
  else if d.i.op = 26 then
    let r := d.s.gates.unlock d.n m d.choice
    ((d.withG r.2.2.2).pass m 0 r.2.2.1).given r.1 r.2.1
  else
    let r := d.s.gates.wait d.n m d.i.c d.choice
    if r.2.2.1 ≠ 0 then (d.withG r.2.2.2).pass m (w64 d.i.c) r.2.2.1 else ((d.withG r.2.2.2).block 2 (-1) m (w64 d.i.c)).given r.1 r.2.1
def Dng.sem (d : Dng) : Dng :=
  if d.i.op = 31 then
    let r := d.s.gates.up d.i.n d.choice
    ((d.withG r.2.2.2).pass d.i.n 0 r.2.2.1).given r.1 r.2.1
  else
    let r := d.s.gates.down d.n d.i.n
    if r.2.1 = 0 ∧ r.1 = false then (d.withG r.2.2).block 3 (-1) d.i.n 0 else (d.withG r.2.2).pass d.i.n 0 r.2.1
def Dng.ask (d : Dng) (block y into : Int) : Dng :=
  if block < 64 then
    let r := d.s.disk.ask ⟨d.n, block, decide (d.i.op = 34), y⟩
    if r.1 ≠ 0 then (d.withD r.2).pass block y r.1 else (d.withD r.2).block 5 into block y
  else d.pass block y 1
def tubZ : Tub := ⟨0, [], [], []⟩
def Dng.tube (d : Dng) : Tub := d.s.tubes.getD d.i.n.toNat tubZ
def Dng.put (d : Dng) : Dng :=
  let x := d.a
  let r := d.tube.put d.n x
  let d1 := d.withU d.i.n.toNat r.2.2.2
  if r.1 = false then d1.block 7 (-1) d.i.n x else
  if r.2.2.1 = true then (d1.pass d.i.n x 0).goes r.2.1.toNat x else d1.pass d.i.n x 0
def Dng.get (d : Dng) : Dng :=
  let r := d.tube.get d.n
  let d1 := d.withU d.i.n.toNat r.2.2.2.2
  if r.2.1 = false then d1.block 6 d.i.a d.i.n 0 else
  let d2 := (d1.setT (d1.t.put d.i.a r.1)).pass d.i.n r.1 0
  if r.2.2.2.1 = true then d2.goes r.2.2.1.toNat 0 else d2
def Dng.sleep (d : Dng) : Dng :=
  let x := d.a
  if x = 0 then d.pass x 0 0 else if 1099511627776 < x then d.pass x 0 1 else (d.withW (d.s.wheel.sleep d.n x).2).block 8 (-1) x 0
def Dng.kernel (d : Dng) : Dng :=
  if d.i.op = 33 then d.ask d.b 0 d.i.a else
  if d.i.op = 34 then d.ask d.a d.b (-1) else
  if d.i.op = 35 then d.put else
  if d.i.op = 36 then d.get else
  if d.i.op = 37 then d.sleep else d.pass d.a 0 0
def Dng.call (d : Dng) : Dng :=
  if d.i.op = 20 then d.spawn else
  if d.i.op = 32 then (d.setT (d.t.put d.i.a d.t.handle)).pass 0 d.t.handle 0 else
  if d.i.op = 24 then { d.pass 0 0 0 with out := { d.out with yielded := true } } else
  if d.i.op = 21 then d.join else
  if d.i.op = 22 then d.detach else
  if d.i.op = 23 then (d.tell d.a 0 0 true).fin d.a else
  if d.i.op = 25 ∨ d.i.op = 26 ∨ d.i.op = 27 then d.mutex else
  if d.i.op = 28 ∨ d.i.op = 29 then
    let r := d.s.gates.signal d.i.n d.choice (decide (d.i.op = 29))
    ((d.withG r.2.2).pass d.i.n 0 r.2.1).moved r.1
  else
  if d.i.op = 30 ∨ d.i.op = 31 then d.sem else d.kernel

/-! a space's steps -/
def Spc.doing (s : Spc) (n : Nat) (i : Ins) (choice : Int) : Dng := ⟨s, n, i, choice, Eff.z, []⟩
def Spc.run (s : Spc) (n choice : Int) : Eff × Int × Spc :=
  match s.at n with
  | none => (Eff.z, 1, s)
  | some t =>
    if t.why ≠ 0 then (Eff.z, 4, s) else
    match nextI s.prg t.frm with
    | none => let r := (((s.doing n.toNat ⟨23, 0, 0, 0, 0⟩ choice).tell 0 0 0 true).fin 0).finish; (r.1, 0, r.2)
    | some i =>
      let d := s.doing n.toNat i choice
      let r := (if cls i.op = 1 then d.plain else (d.setT { t with pc := t.pc + 1 }).call).finish
      (r.1, 0, r.2)
def Spc.done (s : Spc) (k : Int) : Eff × Int × Spc :=
  let r := s.disk.done k
  if r.2.2.1 = false then (Eff.z, 3, s) else
  let s1 : Spc := { s with disk := r.2.2.2 }
  (⟨[r.1.who], false, false, false⟩, 0, (s1.wake r.1.who.toNat r.2.1).tell ((s1.t r.1.who.toNat).woke r.2.1))
def wakeAll (s : Spc) : List Int → Spc
  | [] => s
  | n :: l => wakeAll ((s.wake n.toNat 0).tell ((s.t n.toNat).woke 0)) l
def Spc.tick (s : Spc) : Eff × Spc := (⟨s.wheel.due, false, false, false⟩, wakeAll { s with wheel := s.wheel.tick.2 } s.wheel.due)
def Spc.class (s : Spc) (n : Int) : Int :=
  match s.at n with
  | none => 0
  | some t => if t.why ≠ 0 then 0 else match nextI s.prg t.frm with | none => 2 | some i => cls i.op
end Go.SLYtnceicnimongcaaGreat
namespace Go.SLYtnceicnimongcaaGreat
open Go Go.RowKit

def FnB (P : Program) (W : World) (f : FuncId) (args : List Value) (pre : List HProp) (X : Type) (en : X → Ending) (fact : X → Prop) (post : X → List HProp) : Prop :=
  ∀ (F : HProp) (w : World), Sat W w (sep (seps pre) F) → Calls P f args.toArray w (fun e w' => ∃ x, e = en x ∧ fact x ∧ Sat W w' (sep (seps (post x)) F))
section
variable {P : Program} {W : World} {N : Nat} {Q : Exit → Act → World → Prop} {L : List (Nat × Option Value)} {H K R : List HProp} {O : Array Oper} {T : TypeId} {rest : List Oper}
theorem Fn.b {f : FuncId} {args : List Value} {pre : List HProp} {X : Type} {val : X → Value} {fact : X → Prop} {post : X → List HProp} (h : Fn P W f args pre X val fact post) : FnB P W f args pre X (fun x => .returned (val x)) fact post := h
theorem FnB.intro {f : FuncId} {fn : Func} {c : Code} {args : List Value} {pre : List HProp} {X : Type} {en : X → Ending} {fact : X → Prop} {post : X → List HProp} (hf : P.funcs[f]? = some fn) (hb : fn.body = some c) (hn : fn.ntmps = N) (ha : Nat.ble args.length N = true)
    (h : ∀ F, GoC P W N (bodyPost P fn (fun e w' => ∃ x, e = en x ∧ fact x ∧ Sat W w' (sep (seps (post x)) F))) c (enum 0 args) (pre ++ [F])) : FnB P W f args pre X en fact post := fun F w hs => by
  have hle : args.length ≤ N := Nat.ble_eq.mp ha
  refine calls_of_wp hf hb (h F _ w ⟨?_, fun k v hv => ?_, rfl⟩ ?_)
  · simp [hn]; omega
  · obtain ⟨_, h2⟩ := look_enum args 0 k v hv
    have hk : k < args.length := by
      have := (List.getElem?_eq_some_iff.1 h2).1; simpa using this
    show (args.toArray ++ Array.replicate (fn.ntmps - args.toArray.size) undef)[k]? = some v
    rw [Array.getElem?_append_left (by simpa using hk)]
    simpa using h2
  · rw [seps_append]; simp only [seps]; rw [sep_emp]; exact hs
theorem GoL.callB {f : FuncId} {xs : Array Operand} {ts : Array TypeId} {pos : String} {after : Array Edge} {d : Nat} {args : List Value} {pre : List HProp} {X : Type} {en : X → Ending} {fact : X → Prop} {post : X → List HProp} (hN : Nat.blt d N = true)
    (hc : ∀ args w, (callFunc f args).run P w = .ok (.enter f args) w) (hx : evs L xs.toList = some args) (hfn : FnB P W f args pre X en fact post) (ht : Ent H pre R) (hno : ∀ x, en x ≠ .outgrown)
    (h1 : ∀ x v, en x = .returned v → fact x → GoL P W N O Q rest ((d, some v) :: L) (post x ++ R)) (h2 : ∀ x c, en x = .panicked c → fact x → GoE W N Q (.panic c) L (post x ++ R)) :
    GoL P W N O Q (⟨some d, .call ⟨.value (.func f), xs, ts⟩, T, pos, after, none⟩ :: rest) L H := fun a w ha hs => wpList_plain rfl fun Kp hK => by
  have e : xs.map a.eval = args.toArray := by
    rw [← ha.evals hx, ← List.map_toArray]
  have hs := ht.sat hs
  rw [seps_append] at hs
  unfold Oper.wp
  have hr : (execOp a.eval ⟨some d, .call ⟨.value (.func f), xs, ts⟩, T, pos, after, none⟩).run P w = .ok (.enter f args.toArray) w := by
    simp [execOp, resolve, Act.eval, Deferred.ofValue, invoke, e, hc]
  rw [hr]
  simp only [Oper.upon]
  refine (hfn _ w hs).mono fun en' w' ⟨x, he, hf, hs'⟩ => ?_
  rw [← seps_append] at hs'
  subst he
  cases e2 : en x with
  | returned v => exact hK _ _ (h1 x v e2 hf _ _ (ha.put (Nat.blt_eq.mp hN) _) hs')
  | panicked c => exact h2 x c e2 hf _ _ ha hs'
  | outgrown => exact absurd e2 (hno x)
theorem GoE.panics {fn : Func} {R : Ending → World → Prop} {c : List PanicEntry} (h : ∀ w, Sat W w (seps H) → R (.panicked c) w) : GoE W N (bodyPost P fn R) (.panic c) L H := fun a w ha hs => by
  unfold bodyPost
  exact ⟨ha.defers, h w hs⟩
theorem Y.mkIface {t : TypeId} {u : TypeDesc} {x : Operand} {v : Value} (hu : P.underlying t = some u) (hn : (match u with | .interface _ => true | _ => false) = false) (hx : ev L x = some v) : Y P W N (.makeInterface t x) T L H (.iface t v) := fun dst pos after guard a w ha hs => by
  simp only [execOp, ha.eval hx]
  refine value_run ?_
  cases u <;> first | (simp at hn; done) | simp [Instr.makeInterface, run_underlying hu]
theorem GoL.panic {t : TypeId} {x : Operand} {v : Value} {pos : String} {after : Array Edge} {d : Option Nat} (hx : ev L x = some (.iface t v)) (h : GoE W N Q (.panic [{ v := .iface t v, recovered := false }]) L H) :
    GoL P W N O Q (⟨d, .panic x, T, pos, after, none⟩ :: rest) L H := fun a w ha hs => wpList_plain rfl fun Kp hK => by
  unfold Oper.wp
  have hr : (execOp a.eval ⟨d, .panic x, T, pos, after, none⟩).run P w = .halt (.panic (.iface t v)) w := by
    simp only [execOp, ha.eval hx]; rfl
  rw [hr]
  exact h a w ha hs
end
end Go.SLYtnceicnimongcaaGreat
namespace Go.SLYtnceicnimongcaaGreat
open Go Go.RowKit

/-! a part apart, and how it is laid back -/
def wands {X : Type} (B C : X → HProp) : HProp := fun h => ∀ x h', disj h' h → B x h' → C x (join h' h)
theorem wands_use {X : Type} {B C : X → HProp} (x : X) : ∀ h, seps [B x, wands B C] h → C x h := fun h a => by
  simp only [seps, sep_emp] at a
  obtain ⟨h1, h2, b, c, d, rfl⟩ := a
  exact c x h1 d b
theorem wands_mk {X : Type} {B C : X → HProp} {R : HProp} (f : ∀ x h, sep (B x) R h → C x h) : ∀ h, R h → wands B C h := fun h r x h' d b => f x _ ⟨h', h, b, r, d, rfl⟩
theorem sep2 {A B : HProp} {h : Heap} : seps [A, B] h ↔ sep A B h := by simp only [seps, sep_emp]

section
variable {α : Type} {enc : α → List Value} {k : Nat} {v : Value} {xs : List α}
theorem focusH {i : Nat} {x : α} (hx : xs[i]? = some x) : ∀ h, sl enc k v xs h → sep (arr (blk v) (ofs v + i * k) (enc x)) (hole enc k v xs i) h := fun h s => by
  have hi := (List.getElem?_eq_some_iff.1 hx).1
  rcases s with ⟨_, rfl, _⟩ | ⟨b, cap, sp, rfl, hle, hk, hsp, s⟩
  · simp at hx
  · have hl : (rows enc (xs.take i)).length = i * k := by
      rw [rows_length fun y hy => hk y (List.mem_of_mem_take hy), List.length_take, Nat.min_eq_left (Nat.le_of_lt hi)]
    have hxk := hk x (List.mem_of_getElem? hx)
    have e : rows enc xs ++ sp = rows enc (xs.take i) ++ (enc x ++ (rows enc (xs.drop (i + 1)) ++ sp)) := by
      conv => lhs; rw [split_at hx]
      rw [rows_append, rows_cons]; simp
    rw [e, arr_append, arr_append, hl, hxk, sep_left_comm] at s
    simp only [blk, ofs]
    refine sep_mono (fun _ h => h) (fun h hh => ⟨b, cap, sp, rfl, hle, hk, hsp, ?_⟩) h s
    rw [show (i + 1) * k = 0 + i * k + k from by rw [Nat.succ_mul]; omega]; exact hh
theorem unfocusH {i : Nat} {x' : α} (hi : i < xs.length) (hx' : (enc x').length = k) : ∀ h, sep (arr (blk v) (ofs v + i * k) (enc x')) (hole enc k v xs i) h → sl enc k v (xs.set i x') h := fun h s => by
  obtain ⟨x, hx⟩ : ∃ x, xs[i]? = some x := ⟨xs[i], by simp [hi]⟩
  obtain ⟨h3, h4, a3, ⟨b, cap, sp, hv, hle, hk, hsp, a4⟩, d', e'⟩ := s
  subst hv
  have s' : sep (arr b (0 + i * k) (enc x')) (sep (arr b 0 (rows enc (xs.take i))) (arr b ((i + 1) * k) (rows enc (xs.drop (i + 1)) ++ sp))) h := ⟨h3, h4, a3, a4, d', e'⟩
  have hl : (rows enc (xs.take i)).length = i * k := by
    rw [rows_length fun y hy => hk y (List.mem_of_mem_take hy), List.length_take, Nat.min_eq_left (Nat.le_of_lt hi)]
  have e2 : rows enc (xs.set i x') ++ sp = rows enc (xs.take i) ++ (enc x' ++ (rows enc (xs.drop (i + 1)) ++ sp)) := by
    rw [set_at hx, rows_append, rows_cons]; simp
  have hk' : ∀ y ∈ xs.set i x', (enc y).length = k := fun y hy => by
    rcases List.mem_or_eq_of_mem_set hy with h | h
    · exact hk y h
    · subst h; exact hx'
  right
  refine ⟨b, cap, sp, by simp, by simpa using hle, hk', by simpa using hsp, ?_⟩
  rw [e2, arr_append, arr_append, hl, hx', sep_left_comm]
  rwa [show (i + 1) * k = 0 + i * k + k from by rw [Nat.succ_mul]; omega] at s'
theorem sl_shape (h0 : xs ≠ []) : ∀ h, sl enc k v xs h → ∃ b cap, v = .slice (some ⟨b, 0, none⟩) xs.length cap ∧ xs.length ≤ cap := fun h s => by
  rcases s with ⟨_, hx0, _⟩ | ⟨b, cap, _, hv, hle, _⟩
  · exact absurd hx0 h0
  · exact ⟨b, cap, hv, hle⟩
end
theorem erase_td {α : Type} (xs : List α) (i : Nat) : xs.take i ++ xs.drop (i + 1) = xs.eraseIdx i := (List.eraseIdx_eq_take_drop_succ ..).symm
theorem arr_cut1 {b o : Nat} {u : Value} {cs : List Value} : ∀ h, arr b o (u :: cs) h → seps [arr b o [u], arr b (o + 1) cs] h := fun h a => by
  rw [show u :: cs = [u] ++ cs from rfl, arr_append] at a
  exact sep2.2 a
theorem arr_join1 {b o : Nat} {u : Value} {cs : List Value} : ∀ h, seps [arr b o [u], arr b (o + 1) cs] h → arr b o (u :: cs) h := fun h a => by
  rw [show u :: cs = [u] ++ cs from rfl, arr_append]
  exact sep2.1 a

/-! gates -/
def mtxAt (b o : Nat) (m : Mtx) : HProp := exP1 (fun _ : Value => True) fun u => [arr b o [u, .bool m.held, .int .i64 m.owner], sl wtrE 2 u m.wait]
def smpAt (b o : Nat) (m : Smp) : HProp := exP1 (fun _ : Value => True) fun u => [arr b o [u, .int .i64 m.count], sl wtrE 2 u m.wait]
theorem mtx_open {v : Value} {l : List Mtx} {i : Nat} {m : Mtx} (hm : l[i]? = some m) : ∀ h, mtxsH v l h → seps [mtxAt (blk v) (ofs v + i * 3) m, wands (mtxAt (blk v) (ofs v + i * 3)) (fun m' => mtxsH v (l.set i m'))] h := fun h ⟨xs, hxs, a⟩ => by
  obtain ⟨x, hx⟩ := at_some (show i < xs.length by rw [← List.length_map (f := (·.2)), hxs]; exact (List.getElem?_eq_some_iff.1 hm).1)
  have hxm : x.2 = m := by have := map_get hxs hx; rw [hm] at this; exact (Option.some.inj this).symm
  rw [sep2] at a ⊢
  have a2 : sep (sep (arr (blk v) (ofs v + i * 3) (mtxE x)) (hole mtxE 3 v xs i)) (sep (sl wtrE 2 x.1 x.2.wait) (allH (fun x : Value × Mtx => sl wtrE 2 x.1 x.2.wait) (xs.eraseIdx i))) h := sep_mono (focusH hx) (fun g b => by rw [allH_get _ hx] at b; exact b) h a
  rw [sep_assoc, sep_left_comm (hole mtxE 3 v xs i), ← sep_assoc] at a2
  refine sep_mono ?_ ?_ h a2
  · intro g b; exact ⟨x.1, trivial, by rw [sep2, ← hxm]; exact b⟩
  · refine wands_mk fun m' g b => ?_
    obtain ⟨h1, h2, ⟨u, -, b1⟩, b2, d, rfl⟩ := b
    refine ⟨xs.set i (u, m'), by show (xs.set i (u, m')).map (·.2) = _; rw [List.map_set, show xs.map (·.2) = l from hxs], ?_⟩
    rw [sep2] at b1 ⊢
    have b3 : sep (sep (arr (blk v) (ofs v + i * 3) (mtxE (u, m'))) (sl wtrE 2 u m'.wait)) (sep (hole mtxE 3 v xs i) (allH (fun x : Value × Mtx => sl wtrE 2 x.1 x.2.wait) (xs.eraseIdx i))) (join h1 h2) := ⟨h1, h2, b1, b2, d, rfl⟩
    rw [sep_assoc, sep_left_comm (sl wtrE 2 u m'.wait), ← sep_assoc] at b3
    refine sep_mono (unfocusH (List.getElem?_eq_some_iff.1 hx).1 rfl) (fun g c => ?_) _ b3
    rw [allH_set _ _ (List.getElem?_eq_some_iff.1 hx).1]; exact c
theorem smp_open {v : Value} {l : List Smp} {i : Nat} {m : Smp} (hm : l[i]? = some m) : ∀ h, smpsH v l h → seps [smpAt (blk v) (ofs v + i * 2) m, wands (smpAt (blk v) (ofs v + i * 2)) (fun m' => smpsH v (l.set i m'))] h := fun h ⟨xs, hxs, a⟩ => by
  obtain ⟨x, hx⟩ := at_some (show i < xs.length by rw [← List.length_map (f := (·.2)), hxs]; exact (List.getElem?_eq_some_iff.1 hm).1)
  have hxm : x.2 = m := by have := map_get hxs hx; rw [hm] at this; exact (Option.some.inj this).symm
  rw [sep2] at a ⊢
  have a2 : sep (sep (arr (blk v) (ofs v + i * 2) (smpE x)) (hole smpE 2 v xs i)) (sep (sl wtrE 2 x.1 x.2.wait) (allH (fun x : Value × Smp => sl wtrE 2 x.1 x.2.wait) (xs.eraseIdx i))) h := sep_mono (focusH hx) (fun g b => by rw [allH_get _ hx] at b; exact b) h a
  rw [sep_assoc, sep_left_comm (hole smpE 2 v xs i), ← sep_assoc] at a2
  refine sep_mono ?_ ?_ h a2
  · intro g b; exact ⟨x.1, trivial, by rw [sep2, ← hxm]; exact b⟩
  · refine wands_mk fun m' g b => ?_
    obtain ⟨h1, h2, ⟨u, -, b1⟩, b2, d, rfl⟩ := b
    refine ⟨xs.set i (u, m'), by show (xs.set i (u, m')).map (·.2) = _; rw [List.map_set, show xs.map (·.2) = l from hxs], ?_⟩
    rw [sep2] at b1 ⊢
    have b3 : sep (sep (arr (blk v) (ofs v + i * 2) (smpE (u, m'))) (sl wtrE 2 u m'.wait)) (sep (hole smpE 2 v xs i) (allH (fun x : Value × Smp => sl wtrE 2 x.1 x.2.wait) (xs.eraseIdx i))) (join h1 h2) := ⟨h1, h2, b1, b2, d, rfl⟩
    rw [sep_assoc, sep_left_comm (sl wtrE 2 u m'.wait), ← sep_assoc] at b3
    refine sep_mono (unfocusH (List.getElem?_eq_some_iff.1 hx).1 rfl) (fun g c => ?_) _ b3
    rw [allH_set _ _ (List.getElem?_eq_some_iff.1 hx).1]; exact c
theorem cnd_open {v : Value} {l : List (List Wtr)} {i : Nat} {m : List Wtr} (hm : l[i]? = some m) : ∀ h, cndsH v l h → seps [rowH (blk v) (ofs v + i * 1) m, wands (rowH (blk v) (ofs v + i * 1)) (fun m' => cndsH v (l.set i m'))] h := fun h ⟨xs, hxs, a⟩ => by
  obtain ⟨x, hx⟩ := at_some (show i < xs.length by rw [← List.length_map (f := (·.2)), hxs]; exact (List.getElem?_eq_some_iff.1 hm).1)
  have hxm : x.2 = m := by have := map_get hxs hx; rw [hm] at this; exact (Option.some.inj this).symm
  rw [sep2] at a ⊢
  have a2 : sep (sep (arr (blk v) (ofs v + i * 1) (fstE x)) (hole fstE 1 v xs i)) (sep (sl wtrE 2 x.1 x.2) (allH (fun x : Value × List Wtr => sl wtrE 2 x.1 x.2) (xs.eraseIdx i))) h := sep_mono (focusH hx) (fun g b => by rw [allH_get _ hx] at b; exact b) h a
  rw [sep_assoc, sep_left_comm (hole fstE 1 v xs i), ← sep_assoc] at a2
  refine sep_mono ?_ ?_ h a2
  · intro g b; exact ⟨x.1, trivial, by rw [sep2, ← hxm]; exact b⟩
  · refine wands_mk fun m' g b => ?_
    obtain ⟨h1, h2, ⟨u, -, b1⟩, b2, d, rfl⟩ := b
    refine ⟨xs.set i (u, m'), by show (xs.set i (u, m')).map (·.2) = _; rw [List.map_set, show xs.map (·.2) = l from hxs], ?_⟩
    rw [sep2] at b1 ⊢
    have b3 : sep (sep (arr (blk v) (ofs v + i * 1) (fstE (u, m'))) (sl wtrE 2 u m')) (sep (hole fstE 1 v xs i) (allH (fun x : Value × List Wtr => sl wtrE 2 x.1 x.2) (xs.eraseIdx i))) (join h1 h2) := ⟨h1, h2, b1, b2, d, rfl⟩
    rw [sep_assoc, sep_left_comm (sl wtrE 2 u m'), ← sep_assoc] at b3
    refine sep_mono (unfocusH (List.getElem?_eq_some_iff.1 hx).1 rfl) (fun g c => ?_) _ b3
    rw [allH_set _ _ (List.getElem?_eq_some_iff.1 hx).1]; exact c
theorem row_mtx {b o : Nat} {m : Mtx} : ∀ h, seps [rowH b o m.wait, arr b (o + 1) [.bool m.held, .int .i64 m.owner]] h → mtxAt b o m h := fun h a => by
  rw [sep2] at a
  obtain ⟨h1, h2, ⟨u, -, b1⟩, b2, d, rfl⟩ := a
  refine ⟨u, trivial, ?_⟩
  rw [sep2] at b1 ⊢
  have b3 : sep (sep (arr b o [u]) (sl wtrE 2 u m.wait)) (arr b (o + 1) [.bool m.held, .int .i64 m.owner]) (join h1 h2) := ⟨h1, h2, b1, b2, d, rfl⟩
  rw [sep_assoc, sep_comm (sl wtrE 2 u m.wait), ← sep_assoc] at b3
  exact sep_mono (fun g c => arr_join1 g (sep2.2 c)) (fun _ c => c) _ b3
theorem row_smp {b o : Nat} {m : Smp} : ∀ h, seps [rowH b o m.wait, arr b (o + 1) [.int .i64 m.count]] h → smpAt b o m h := fun h a => by
  rw [sep2] at a
  obtain ⟨h1, h2, ⟨u, -, b1⟩, b2, d, rfl⟩ := a
  refine ⟨u, trivial, ?_⟩
  rw [sep2] at b1 ⊢
  have b3 : sep (sep (arr b o [u]) (sl wtrE 2 u m.wait)) (arr b (o + 1) [.int .i64 m.count]) (join h1 h2) := ⟨h1, h2, b1, b2, d, rfl⟩
  rw [sep_assoc, sep_comm (sl wtrE 2 u m.wait), ← sep_assoc] at b3
  exact sep_mono (fun g c => arr_join1 g (sep2.2 c)) (fun _ c => c) _ b3

def elP (v : Value) (n k : Nat) (i : Int) : Value := .pointer (if 0 ≤ i ∧ i < (n : Int) then some ⟨blk v, ofs v + i.toNat * k, none⟩ else none)

/-! searches -/
def idxP {α : Type} (p : α → Bool) : List α → Nat → Int
  | [], _ => -1
  | x :: l, k => if p x = true then (k : Int) else idxP p l (k + 1)
theorem idxP_hit {α : Type} {p : α → Bool} {l : List α} {k : Nat} {x : α} (h : l[k]? = some x) (hp : p x = true) : idxP p (l.drop k) k = (k : Int) := by rw [drop_cons h, idxP, if_pos hp]
theorem idxP_miss {α : Type} {p : α → Bool} {l : List α} {k : Nat} {x : α} (h : l[k]? = some x) (hp : p x = false) : idxP p (l.drop k) k = idxP p (l.drop (k + 1)) (k + 1) := by rw [drop_cons h, idxP, if_neg (by rw [hp]; simp)]
theorem idxP_end {α : Type} {p : α → Bool} {l : List α} {k : Nat} (h : l.length ≤ k) : idxP p (l.drop k) k = -1 := by rw [List.drop_of_length_le h]; rfl
theorem idxP_any {α : Type} {p : α → Bool} : ∀ (l : List α) (k : Nat), decide (0 ≤ idxP p l k) = l.any p
  | [], _ => rfl
  | x :: l, k => by
    rw [idxP, List.any_cons]
    cases h : p x with
    | true => rw [if_pos rfl]; simp
    | false => rw [if_neg (by simp), idxP_any l (k + 1), Bool.false_or]
theorem any_fst {α β : Type} {p : β → Bool} {xs : List (α × β)} {l : List β} (h : xs.map (·.2) = l) : (xs.any fun x => p x.2) = l.any p := by rw [← h, List.any_map]; rfl
end Go.SLYtnceicnimongcaaGreat
namespace Go.SLYtnceicnimongcaaGreat
open Go Go.RowKit

theorem getD_some {α : Type} {l : List α} {d : α} {n : Nat} (h : n < l.length) : l[n]? = some (l.getD n d) := by
  rw [List.getD_eq_getElem?_getD, List.getElem?_eq_getElem h]; rfl
section
variable {P : Program} {W : World} {N : Nat} {L : List (Nat × Option Value)} {H : List HProp} {T : TypeId}
theorem Y.val {op : Op} {u v : Value} (h : Y P W N op T L H u) (e : u = v) : Y P W N op T L H v := e ▸ h
end
/-! slots -/
def hN (h : Int) : Nat := (h % 65536 - 1).toNat
def slotAt (l : List (Bool × Int)) (n : Nat) : Bool × Int := l.getD n (false, 0)
theorem find_zero {l : List (Bool × Int)} {h : Int} (e : h % 65536 = 0) : slotFind l h = none := by unfold slotFind; rw [if_pos e]
theorem find_eq {l : List (Bool × Int)} {h : Int} (e : ¬ h % 65536 = 0) : slotFind l h = if (decide ((l.length : Int) ≤ (hN h : Int)) || !(slotAt l (hN h)).1 || decide (slotH (slotAt l (hN h)).2 (hN h) ≠ h)) = true then none else some (hN h) := by
  unfold slotFind
  rw [if_neg e]
  have hb : 0 ≤ h % 65536 - 1 := by omega
  have hc : (hN h : Int) = h % 65536 - 1 := by unfold hN; omega
  rw [hc]
  by_cases hl : (l.length : Int) ≤ h % 65536 - 1
  · rw [show l[(h % 65536 - 1).toNat]? = none from by rw [List.getElem?_eq_none]; omega]
    simp [hl]
  · rw [getD_some (d := (false, 0)) (show (h % 65536 - 1).toNat < l.length by omega)]
    unfold slotAt hN
    simp only [hl, decide_false, Bool.false_or]
    generalize l.getD (h % 65536 - 1).toNat (false, 0) = o
    obtain ⟨u, t⟩ := o
    cases u <;> simp <;> rfl
theorem find_lt {l : List (Bool × Int)} {h : Int} {n : Nat} (e : slotFind l h = some n) : n < l.length ∧ n = hN h ∧ (slotAt l n).1 = true ∧ slotH (slotAt l n).2 n = h := by
  by_cases e0 : h % 65536 = 0
  · rw [find_zero e0] at e; cases e
  · rw [find_eq e0] at e
    split at e
    · cases e
    · rename_i hc
      cases e
      simp only [Bool.not_eq_true, Bool.or_eq_false_iff, decide_eq_false_iff_not, Bool.not_eq_false', ne_eq, Decidable.not_not] at hc
      exact ⟨by omega, rfl, hc.1.2, hc.2⟩
theorem hN_cast {h : Int} (e : ¬ h % 65536 = 0) : h % 65536 - 1 = (hN h : Int) := by unfold hN; omega
def findV (o : Option Nat) : Value := .tuple #[.int .i64 ((o.getD 0 : Nat) : Int), .bool o.isSome]
theorem tmod_pos {h : Int} (a : 0 ≤ h) : h.tmod 65536 = h % 65536 := Int.tmod_eq_emod_of_nonneg a
theorem freed_none {l : List (Bool × Int)} {h : Int} (e : slotFind l h = none) : slotFreed l h = l := by unfold slotFreed; rw [e]
theorem freed_some {l : List (Bool × Int)} {h : Int} {n : Nat} (e : slotFind l h = some n) : slotFreed l h = l.set n (false, (slotAt l n).2) := by unfold slotFreed; rw [e]; rfl

theorem pick_bd {t : Int} {n : Nat} (hn : 0 < n) (hb : n ≤ 1000000000) : -9223372036854775808 ≤ t.tmod n + n ∧ t.tmod n + n ≤ 9223372036854775807 := by
  have h1 := Int.lt_tmod_of_pos t (show (0 : Int) < n by omega)
  have h2 := Int.tmod_lt_of_pos t (show (0 : Int) < n by omega)
  omega

/-! gates -/
def rowC (l : List Wtr) : Prop := l.length ≤ 1000000
structure GatesLen (g : Gates) : Prop where
  m : g.mtx.length ≤ 1000000
  c : g.cnd.length ≤ 1000000
  s : g.sem.length ≤ 1000000
  mw : ∀ x ∈ g.mtx, x.wait.length ≤ 1000000
  cw : ∀ x ∈ g.cnd, x.length ≤ 1000000
  sw : ∀ x ∈ g.sem, x.wait.length ≤ 1000000
section
variable {W : World}
theorem rd_one {α β : Type} {enc : α → List Value} {k : Nat} {f : β → Value} {g : β → List α} {xs : List β} {x : β} (hx : x ∈ xs) {H : List HProp} (t : At H (allH (fun x => sl enc k (f x) (g x)) xs)) : Rd W H enc k (f x) (g x) := by
  obtain ⟨i, hi⟩ := List.getElem?_of_mem hx
  exact Rd.sub t fun h a => ⟨_, by rw [allH_get _ hi] at a; exact a⟩
end
theorem waits_eq {g : Gates} {xm : List (Value × Mtx)} {xc : List (Value × List Wtr)} {xs : List (Value × Smp)} {who : Int} (h1 : xm.map (·.2) = g.mtx) (h2 : xc.map (·.2) = g.cnd) (h3 : xs.map (·.2) = g.sem) :
    ((xm.any fun x => hasW x.2.wait who) || (xc.any fun x => hasW x.2 who) || (xs.any fun x => hasW x.2.wait who)) = g.waits who := by
  unfold Gates.waits
  rw [any_fst (p := fun m : Mtx => hasW m.wait who) h1, any_fst (p := fun m : List Wtr => hasW m who) h2, any_fst (p := fun m : Smp => hasW m.wait who) h3]
theorem take_no {l : List Wtr} {c : Int} (h : l.length = 0) : takeW l c = (⟨0, 0⟩, false, l) := by unfold takeW; rw [if_pos h]
theorem take_ok {l : List Wtr} {c : Int} (h : ¬ l.length = 0) : takeW l c = (l.getD (pick c l.length) ⟨0, 0⟩, true, l.eraseIdx (pick c l.length)) := by unfold takeW; rw [if_neg h]
theorem geti_none {α : Type} {l : List α} {i : Int} (h : ¬ (0 ≤ i ∧ i < (l.length : Int))) : geti l i = none := by
  unfold geti
  split
  · rfl
  · rw [List.getElem?_eq_none]; omega
theorem geti_some {α : Type} {l : List α} {i : Int} (h : 0 ≤ i ∧ i < (l.length : Int)) : ∃ x, l[i.toNat]? = some x ∧ geti l i = some x := by
  obtain ⟨x, hx⟩ := at_some (show i.toNat < l.length by omega)
  exact ⟨x, hx, by unfold geti; rw [if_neg (by omega), hx]⟩
theorem geti_of {α : Type} {l : List α} {i : Int} {x : α} (h : geti l i = some x) : 0 ≤ i ∧ i < (l.length : Int) ∧ l[i.toNat]? = some x := by
  unfold geti at h
  split at h
  · cases h
  · have := (List.getElem?_eq_some_iff.1 h).1
    exact ⟨by omega, by omega, h⟩
theorem elP_nil {v : Value} {n k : Nat} {i : Int} (h : ¬ (0 ≤ i ∧ i < (n : Int))) : elP v n k i = .pointer none := by unfold elP; rw [if_neg h]
theorem elP_some {v : Value} {n k : Nat} {i : Int} (h : 0 ≤ i ∧ i < (n : Int)) : elP v n k i = .pointer (some ⟨blk v, ofs v + i.toNat * k, none⟩) := by unfold elP; rw [if_pos h]
def mtxZ : Mtx := ⟨[], false, 0⟩
theorem lock_no {m : Mtx} {who : Int} (h : m.held = true) : m.lock who = (false, { m with wait := m.wait ++ [⟨who, 0⟩] }) := by unfold Mtx.lock; rw [if_pos h]
theorem lock_ok {m : Mtx} {who : Int} (h : m.held = false) : m.lock who = (true, { m with held := true, owner := who }) := by unfold Mtx.lock; rw [if_neg (by rw [h]; simp)]
def Gates.rowOf (g : Gates) (kind n : Int) : List Wtr :=
  if kind = 1 then ((geti g.mtx n).getD mtxZ).wait else if kind = 2 then (geti g.cnd n).getD [] else if kind = 3 then ((geti g.sem n).getD ⟨[], 0⟩).wait else []
end Go.SLYtnceicnimongcaaGreat
namespace Go.SLYtnceicnimongcaaGreat
open Go Go.RowKit

structure EnvD (N : Nat) (L : List (Nat × Option Value)) (D : List Deferred) (a : Act) : Prop where
  size : a.tmps.size = N
  get : ∀ k v, look L k = some v → a.tmps[k]? = some v
  defers : a.defers = D
theorem EnvD.env {N : Nat} {L : List (Nat × Option Value)} {D : List Deferred} {a : Act} (h : EnvD N L D a) : Env N L (withD a []) := ⟨h.size, h.get, rfl⟩
theorem eval_withD (a : Act) (ds : List Deferred) : (withD a ds).eval = a.eval := by funext x; cases x <;> rfl
theorem EnvD.put {N : Nat} {L : List (Nat × Option Value)} {D : List Deferred} {a : Act} (h : EnvD N L D a) {d : Nat} (hd : d < N) (v : Value) : EnvD N ((d, some v) :: L) D (a.put (some d) v) :=
  ⟨(h.env.put hd v).size, (h.env.put hd v).get, h.defers⟩

section
variable {P : Program} {W : World} {N : Nat} {Q : Exit → Act → World → Prop} {L : List (Nat × Option Value)} {H K R : List HProp} {O : Array Oper} {T : TypeId} {rest : List Oper} {D : List Deferred} {ks : List Nat}
theorem wp_strip {o : Oper} {a : Act} {w : World} {Kp Kp' : Act → World → Prop} {Q' : Exit → Act → World → Prop} (h : ∀ ds u w', Kp ((withD a ds).put o.dst u) w' → Kp' ((withD a (ds ++ a.defers)).put o.dst u) w') (hh : o.wp P (withD a []) w Kp QF) : o.wp P a w Kp' Q' := by
  unfold Oper.wp at *
  rw [eval_withD] at hh
  generalize (execOp a.eval o).run P w = r at *
  have h0 := h []
  rw [List.nil_append, show withD a a.defers = a from rfl] at h0
  cases r with
  | ok n w' =>
    cases n <;> simp only [Oper.upon] at hh ⊢
    case value v => exact h0 _ _ hh
    case skip => exact h0 _ _ hh
    case enter f args =>
      refine Calls.mono hh (fun e w'' he => ?_)
      cases e with
      | returned v => exact h0 _ _ he
      | panicked c => exact he.elim
      | outgrown => obtain ⟨_, _, hf⟩ := he; exact hf.elim
    case row r' args => exact Rows.mono hh (fun v w'' he => h0 _ _ he)
    case defer d => exact h [d] undef w' hh
  | halt x w' => cases x <;> simp only [Oper.upon] at hh ⊢ <;> exact hh.elim
theorem Does.d {o : Oper} {k : List (Nat × Option Value) → List HProp → Prop} {a : Act} {w : World} {Kp : Act → World → Prop} {Q' : Exit → Act → World → Prop} (hd : Does P W N o L H k) (ha : EnvD N L D a) (hs : Sat W w (seps H)) (h : ∀ L' H', k L' H' → ∀ a' w', EnvD N L' D a' → Sat W w' (seps H') → Kp a' w') : o.wp P a w Kp Q' := by
  refine wp_strip (Kp := fun a' w' => ∃ L' H', k L' H' ∧ Env N L' a' ∧ Sat W w' (seps H')) (fun ds u w' ⟨L', H', hk, he, hs'⟩ => ?_) (hd _ w ha.env hs _ fun L' H' hk a' w' ha' hs' => ⟨L', H', hk, ha', hs'⟩)
  have e : ((withD a ds).put o.dst u).defers = ds := by cases o.dst <;> rfl
  rw [he.defers] at e
  subst e
  refine h L' H' hk _ w' ⟨?_, fun k v hv => ?_, ?_⟩ hs'
  · have := he.size; cases ho : o.dst <;> rw [ho] at this <;> exact this
  · have := he.get k v hv; cases ho : o.dst <;> rw [ho] at this <;> exact this
  · rw [List.nil_append]; cases o.dst <;> exact ha.defers
theorem Y.d {op : Op} {v : Value} (hy : Y P W N op T L H v) (dst : Option Tmp) (pos : String) (after : Array Edge) (guard : Option (Nat × Bool)) {a : Act} {w : World} (ha : EnvD N L D a) (hs : Sat W w (seps H)) : (execOp a.eval ⟨dst, op, T, pos, after, guard⟩).run P w = .ok (.value v) w := by
  have := hy dst pos after guard _ w ha.env hs
  rwa [eval_withD] at this

def GoED (W : World) (N : Nat) (D : List Deferred) (Q : Exit → Act → World → Prop) (e : Exit) (L : List (Nat × Option Value)) (H : List HProp) : Prop := ∀ a w, EnvD N L D a → Sat W w (seps H) → Q e a w
def GoCD (P : Program) (W : World) (N : Nat) (D : List Deferred) (Q : Exit → Act → World → Prop) (c : Code) (L : List (Nat × Option Value)) (H : List HProp) : Prop := ∀ a w, EnvD N L D a → Sat W w (seps H) → c.wp P Q a w
def GoLD (P : Program) (W : World) (N : Nat) (D : List Deferred) (O : Array Oper) (Q : Exit → Act → World → Prop) (ops : List Oper) (L : List (Nat × Option Value)) (H : List HProp) : Prop := ∀ a w, EnvD N L D a → Sat W w (seps H) → wpList P O Q ops a w
def GoKD (P : Program) (W : World) (N : Nat) (D : List Deferred) (K : List HProp) (O : Array Oper) (Q : Exit → Act → World → Prop) (ks : List Nat) (ops : List Oper) (L : List (Nat × Option Value)) (H : List HProp) : Prop := ∀ a w, EnvD N L D a → Sat W w (seps H) → wpKL P O (fun w => Sat W w (seps K)) Q ks ops a w
theorem GoL.deferD {x : Operand} {f : FuncId} {us cap : Array Value} {ts : Array TypeId} {pos : String} {after : Array Edge} (hx : ev L x = some (.func (.func f) us cap)) (k : GoLD P W N [⟨.fn (.func f) cap, us⟩] O Q rest L H) : GoL P W N O Q (⟨none, .defer ⟨.value x, #[], ts⟩, T, pos, after, none⟩ :: rest) L H := fun a w ha hs => wpList_plain rfl fun Kp hK => by
  unfold Oper.wp
  have hr : (execOp a.eval ⟨none, .defer ⟨.value x, #[], ts⟩, T, pos, after, none⟩).run P w = .ok (.defer ⟨.fn (.func f) cap, us⟩) w := by
    simp [execOp, resolve, ha.eval hx, Deferred.ofValue]
  rw [hr]
  simp only [Oper.upon]
  exact hK _ _ (k _ w ⟨ha.size, ha.get, by simp [Act.put, ha.defers]⟩ hs)
theorem GoED.then_normal {c : Code} (k : GoCD P W N D Q c L H) : GoED W N D (Exit.then (c.wp P Q) Q) .normal L H := k
theorem GoCD.seq {x y : Code} (k : GoCD P W N D (Exit.then (y.wp P Q) Q) x L H) : GoCD P W N D Q (.seq x y) L H := fun a w ha hs => wp_seq (k a w ha hs)
theorem GoCD.region {id : Nat} {l : List Oper} (k : GoLD P W N D l.toArray Q l L H) : GoCD P W N D Q (.region id l.toArray false) L H := fun a w ha hs => wp_region_lit (k a w ha hs)
theorem GoCD.draw {id : Nat} {l : List Oper} (K : List HProp) (ks : List Nat) (hm : P.follows .mixedOrders = true) (hB : regionB l ks = true) (h : GoKD P W N D K l.toArray Q ks l L H) : GoCD P W N D Q (.region id l.toArray true) L H :=
  fun a _w ha hs => wp_region_k (C := fun w => Sat W w (seps K)) ks hm hB (h a _ ha hs.drew)
theorem GoCD.ret (k : GoED W N D Q .ret L H) : GoCD P W N D Q .ret L H := fun a w ha hs => wp_ret (k a w ha hs)
theorem GoLD.nil (k : GoED W N D Q .normal L H) : GoLD P W N D O Q [] L H := fun a w ha hs => wpList_nil (k a w ha hs)
theorem GoLD.y {op : Op} {pos : String} {after : Array Edge} {d : Nat} {v : Value} (hN : Nat.blt d N = true) (hy : Y P W N op T L H v) (k : GoLD P W N D O Q rest ((d, some v) :: L) H) :
    GoLD P W N D O Q (⟨some d, op, T, pos, after, none⟩ :: rest) L H := fun a w ha hs =>
  wpList_plain rfl fun Kp hK => by
    unfold Oper.wp
    rw [hy.d _ _ _ _ ha hs]
    exact hK _ _ (k _ w (ha.put (Nat.blt_eq.mp hN) v) hs)
theorem GoLD.does {o : Oper} {k : List (Nat × Option Value) → List HProp → Prop} (hg : o.guard = none) (hd : Does P W N o L H k) (h : ∀ L' H', k L' H' → GoLD P W N D O Q rest L' H') : GoLD P W N D O Q (o :: rest) L H := fun _a _w ha hs =>
  wpList_plain hg fun _Kp hK => hd.d ha hs fun L' H' hk a' w' ha' hs' => hK _ _ (h L' H' hk a' w' ha' hs')
theorem GoKD.nil (h : GoED W N D Q .normal L H) : GoKD P W N D K O Q ks [] L H := fun a w ha hs => by cases ks <;> exact h a w ha hs
theorem GoKD.k {op : Op} {pos : String} {after : Array Edge} {d : Nat} {v : Value} (hN : Nat.blt d N = true) (hK : ∀ w, Sat W w (seps H) → Sat W w (seps K)) (hy : Y P W N op T L K v) (h : GoKD P W N D K O Q ks rest ((d, some v) :: L) H) :
    GoKD P W N D K O Q (0 :: ks) (⟨some d, op, T, pos, after, none⟩ :: rest) L H := fun a w ha hs => by
  simp only [wpKL]
  exact ⟨hK w hs, v, .inl ⟨wanted_none rfl, fun w' hs' => hy.d _ _ _ _ ha hs'⟩, h _ w (ha.put (Nat.blt_eq.mp hN) v) hs⟩
theorem GoKD.s {op : Op} {pos : String} {after : Array Edge} {d : Nat} {v : Value} (hN : Nat.blt d N = true) (hy : Y P W N op T L H v) (h : GoKD P W N D K O Q ks rest ((d, some v) :: L) H) :
    GoKD P W N D K O Q (1 :: ks) (⟨some d, op, T, pos, after, none⟩ :: rest) L H := fun a w ha hs => by
  simp only [wpKL]
  exact ⟨v, .inl ⟨wanted_none rfl, fun w' e => by subst e; exact hy.d _ _ _ _ ha hs⟩, h _ w (ha.put (Nat.blt_eq.mp hN) v) hs⟩
theorem GoKD.d2 {o : Oper} {k : List (Nat × Option Value) → List HProp → Prop} (hg : o.guard = none) (hK : ∀ w, Sat W w (seps H) → Sat W w (seps K)) (hd : Does P W N o L H k) (hK' : ∀ L' H', k L' H' → ∀ w, Sat W w (seps H') → Sat W w (seps K)) (h : ∀ L' H', k L' H' → GoKD P W N D K O Q ks rest L' H') :
    GoKD P W N D K O Q (2 :: ks) (o :: rest) L H := fun a w ha hs => by
  simp only [wpKL]
  refine ⟨hK w hs, ?_⟩
  rw [if_pos (wanted_none hg)]
  exact hd.d ha hs fun L' H' hk a' w' ha' hs' => ⟨hK' L' H' hk w' hs', h L' H' hk a' w' ha' hs'⟩
theorem GoKD.d3 {o : Oper} {k : List (Nat × Option Value) → List HProp → Prop} (hg : o.guard = none) (hd : Does P W N o L H k) (h : ∀ L' H', k L' H' → GoKD P W N D K O Q ks rest L' H') :
    GoKD P W N D K O Q (3 :: ks) (o :: rest) L H := fun a w ha hs => by
  simp only [wpKL]
  rw [if_pos (wanted_none hg)]
  exact hd.d ha hs fun L' H' hk a' w' ha' hs' => h L' H' hk a' w' ha' hs'
theorem GoLD.ent {As : List HProp} (t : Ent H As R) (k : GoLD P W N D O Q rest L (As ++ R)) : GoLD P W N D O Q rest L H := fun a w ha hs => k a w ha (t.sat hs)
theorem GoLD.mem {ops : List Oper} {H' : List HProp} (h : ∀ w, Sat W w (seps H) → Sat W w (seps H')) (k : GoLD P W N D O Q ops L H') : GoLD P W N D O Q ops L H := fun a w ha hs => k a w ha (h w hs)
theorem GoLD.know {ops : List Oper} {p : Prop} (h : ∀ w, Sat W w (seps H) → p) (k : p → GoLD P W N D O Q ops L H) : GoLD P W N D O Q ops L H := fun a w ha hs => k (h w hs) a w ha hs

theorem GoLD.callB_ {f : FuncId} {xs : Array Operand} {ts : Array TypeId} {pos : String} {after : Array Edge} {dst : Option Nat} {args : List Value} {pre : List HProp} {X : Type} {en : X → Ending} {fact : X → Prop} {post : X → List HProp} (hdst : ∀ d, dst = some d → Nat.blt d N = true)
    (hc : ∀ args w, (callFunc f args).run P w = .ok (.enter f args) w) (hx : evs L xs.toList = some args) (hfn : FnB P W f args pre X en fact post) (ht : Ent H pre R) (hno : ∀ x, en x ≠ .outgrown)
    (h1 : ∀ x v, en x = .returned v → fact x → GoLD P W N D O Q rest (match dst with | some d => (d, some v) :: L | none => L) (post x ++ R)) (h2 : ∀ x c, en x = .panicked c → fact x → GoED W N D Q (.panic c) L (post x ++ R)) :
    GoLD P W N D O Q (⟨dst, .call ⟨.value (.func f), xs, ts⟩, T, pos, after, none⟩ :: rest) L H := fun a w ha hs => wpList_plain rfl fun Kp hK => by
  have e : xs.map a.eval = args.toArray := by
    rw [← eval_withD a [], ← ha.env.evals hx, ← List.map_toArray]
  have hs := ht.sat hs
  rw [seps_append] at hs
  unfold Oper.wp
  have hr : (execOp a.eval ⟨dst, .call ⟨.value (.func f), xs, ts⟩, T, pos, after, none⟩).run P w = .ok (.enter f args.toArray) w := by
    simp [execOp, resolve, Act.eval, Deferred.ofValue, invoke, e, hc]
  rw [hr]
  simp only [Oper.upon]
  refine (hfn _ w hs).mono fun en' w' ⟨x, he, hf, hs'⟩ => ?_
  rw [← seps_append] at hs'
  subst he
  cases e2 : en x with
  | returned v =>
    have h := h1 x v e2 hf
    cases dst with
    | none => exact hK _ _ (h _ _ ⟨ha.size, ha.get, ha.defers⟩ hs')
    | some d => exact hK _ _ (h _ _ (ha.put (Nat.blt_eq.mp (hdst d rfl)) _) hs')
  | panicked c => exact h2 x c e2 hf _ _ ha hs'
  | outgrown => exact absurd e2 (hno x)

/-! a region in which a call panics: all that is read comes first -/
def GoH (P : Program) (W : World) (N : Nat) (K : List HProp) (O : Array Oper) (Q : Exit → Act → World → Prop) (fuel : Nat) (li : Array Bool) (L : List (Nat × Option Value)) (H : List HProp) : Prop :=
  ∀ a w, Env N L a → Sat W w (seps H) → wpAnyH P .any O Q (fun w => Sat W w (seps K)) fuel li a w
theorem GoC.held {id : Nat} {l : List Oper} (K : List HProp) (hm : P.follows .mixedOrders = true) (h : GoH P W N K l.toArray Q l.toArray.size (Array.replicate l.toArray.size false) L H) : GoC P W N Q (.region id l.toArray true) L H := fun a _w ha hs => wp_region_held hm (h a _ ha hs.drew)
def Blind (Q : Exit → Act → World → Prop) : Prop := ∀ c d v a w, Q (.panic c) (a.put (some d) v) w → Q (.panic c) a w
theorem GoH.take (i : Nat) {op : Op} {pos : String} {after : Array Edge} {d fuel : Nat} {li : Array Bool} {v : Value} (hi : O[i]? = some ⟨some d, op, T, pos, after, none⟩) (hs : Region.noSelect O = true) (hf : Region.free .any O li i = true) (hr : (Region.ready .any O li).contains i = true) (hQ : Blind Q) (hN : Nat.blt d N = true)
    (hK : ∀ w, Sat W w (seps H) → Sat W w (seps K)) (hy : Y P W N op T L K v) (h : GoH P W N K O Q fuel (li.setIfInBounds i true) ((d, some v) :: L) H) : GoH P W N K O Q (fuel + 1) li L H := fun a w ha hs' =>
  wpAnyH_take hi hs hf hr (fun c a w => hQ c d v a w) (.inl ⟨wanted_none rfl, fun w' hw' => hy _ _ _ _ a w' ha hw'⟩) (hK w hs') (h _ w (ha.put (Nat.blt_eq.mp hN) v) hs')
theorem GoH.callP (i : Nat) {f : FuncId} {xs : Array Operand} {ts : Array TypeId} {pos : String} {after : Array Edge} {d fuel : Nat} {li : Array Bool} {args : List Value} {pre : List HProp} {X : Type} {en : X → Ending} {fact : X → Prop} {post : X → List HProp} (hi : O[i]? = some ⟨some d, .call ⟨.value (.func f), xs, ts⟩, T, pos, after, none⟩) (hr : Region.ready .any O li = [i])
    (hc : ∀ args w, (callFunc f args).run P w = .ok (.enter f args) w) (hx : evs L xs.toList = some args) (hfn : FnB P W f args pre X en fact post) (ht : Ent H pre R) (hp : ∀ x, ∃ c, en x = .panicked c)
    (h2 : ∀ x c, en x = .panicked c → fact x → GoE W N Q (.panic c) L (post x ++ R)) : GoH P W N K O Q (fuel + 1) li L H := fun a w ha hs => by
  refine wpAnyH_all hr (by simp) fun j hj => ?_
  obtain rfl : j = i := by simpa using hj
  have e : xs.map a.eval = args.toArray := by
    rw [← ha.evals hx, ← List.map_toArray]
  have hs := ht.sat hs
  rw [seps_append] at hs
  unfold wpOp
  rw [hi]
  simp only
  rw [if_pos (wanted_none rfl)]
  left
  unfold Oper.wp
  have hr : (execOp a.eval ⟨some d, .call ⟨.value (.func f), xs, ts⟩, T, pos, after, none⟩).run P w = .ok (.enter f args.toArray) w := by
    simp [execOp, resolve, Act.eval, Deferred.ofValue, invoke, e, hc]
  rw [hr]
  simp only [Oper.upon]
  refine (hfn _ w hs).mono fun en' w' ⟨x, he, hf, hs'⟩ => ?_
  rw [← seps_append] at hs'
  subst he
  obtain ⟨c, e2⟩ := hp x
  rw [e2]
  exact h2 x c e2 hf _ _ ha hs'

/-! what the model stands in for -/
theorem Y.ext {f : FuncId} {fn : Func} {e : Array Value → Sem Value} {xs : Array Operand} {ts : Array TypeId} {args : List Value} {v : Value} (hf : P.funcs[f]? = some fn) (hname : (fn.name == "runtime.NumGoroutine") = false) (hb : fn.body.isNone = true) (hn : Extern.findNext fn = none) (he : Extern.find fn = some e)
    (hx : evs L xs.toList = some args) (h : ∀ w, (e args.toArray).run P w = .ok v w) : Y P W N (.call ⟨.value (.func f), xs, ts⟩) T L H v := fun dst pos after guard a w ha hs => by
  have e2 : xs.map a.eval = args.toArray := by
    rw [← ha.evals hx, ← List.map_toArray]
  simp [execOp, resolve, Act.eval, Deferred.ofValue, invoke, e2, run_callFunc_extern hf hname hb hn he, h]

/-! numbers with a point -/
def fOrd (m n : Nat) : Option Ordering := Ieee.double.order m n
theorem Y.fLss {xT yT : TypeId} {x y : Operand} {m n : Nat} (hx : ev L x = some (.float .f64 m)) (hy : ev L y = some (.float .f64 n)) : Y P W N (.binOp .lss xT x y yT) T L H (.bool (fOrd m n == some .lt)) := Y.bin hx hy fun _w => rfl
theorem Y.fGeq {xT yT : TypeId} {x y : Operand} {m n : Nat} (hx : ev L x = some (.float .f64 m)) (hy : ev L y = some (.float .f64 n)) : Y P W N (.binOp .geq xT x y yT) T L H (.bool (fOrd m n == some .gt || fOrd m n == some .eq)) := Y.bin hx hy fun _w => rfl
theorem Y.fNeq {xT yT : TypeId} {x y : Operand} {m n : Nat} (hx : ev L x = some (.float .f64 m)) (hy : ev L y = some (.float .f64 n)) (hg : ∀ w, (eqGuard .neq xT x y (.float .f64 m) (.float .f64 n)).run P w = .ok () w) : Y P W N (.binOp .neq xT x y yT) T L H (.bool (fOrd m n != some .eq)) := Y.bin hx hy fun w => by
  rw [Sem.run_bind, hg]; rfl
def fRes (o : Option Nat) (r : Nat) : Prop := match o with | some q => r = q | none => (fOrd r r == some .eq) = false
theorem nan_ord (t : Nat) : (fOrd ((t % 2) * 2 ^ 63 + 0x7ff0000000000000 + 1 + (t / 2) % (2 ^ 52 - 1)) ((t % 2) * 2 ^ 63 + 0x7ff0000000000000 + 1 + (t / 2) % (2 ^ 52 - 1)) == some .eq) = false := by
  have h1 : t % 2 < 2 := Nat.mod_lt _ (by decide)
  have h2 : (t / 2) % (2 ^ 52 - 1) < 2 ^ 52 - 1 := Nat.mod_lt _ (by decide)
  generalize t % 2 = s at *
  generalize (t / 2) % (2 ^ 52 - 1) = q at *
  have hr : (s * 2 ^ 63 + 0x7ff0000000000000 + 1 + q) % Ieee.double.signWeight = 0x7ff0000000000001 + q := by
    have : Ieee.double.signWeight = 2 ^ 63 := by decide
    rw [this]; omega
  have hread : ∃ b f, Ieee.double.read (s * 2 ^ 63 + 0x7ff0000000000000 + 1 + q) = .nan b f := by
    unfold Ieee.Format.read
    simp only [hr]
    have e1 : Ieee.double.binade = 4503599627370496 := by decide
    have e2 : Ieee.double.infRung = 9218868437227405312 := by decide
    rw [e1, e2, if_neg (by omega), if_neg (by omega), if_neg (by omega)]
    exact ⟨_, _, rfl⟩
  obtain ⟨b, f, e⟩ := hread
  unfold fOrd Ieee.Format.order
  rw [e]
  rfl
theorem Does.fBin {op : BinOp} {xT yT : TypeId} {x y : Operand} {pos : String} {after : Array Edge} {guard : Option (Nat × Bool)} {d m n : Nat} (o : Option Nat) (hN : Nat.blt d N = true) (hx : ev L x = some (.float .f64 m)) (hy : ev L y = some (.float .f64 n))
    (h : ∀ w, (do eqGuard op xT x y (.float .f64 m) (.float .f64 n); binOp op xT (.float .f64 m) (.float .f64 n) : Sem Value).run P w = (match o with | some r => pure (.float .f64 r) | none => do pure (.float .f64 (← choose (.nanBits .f64 m n))) : Sem Value).run P w) :
    Does P W N ⟨some d, .binOp op xT x y yT, T, pos, after, guard⟩ L H (fun L1 H1 => ∃ r, fRes o r ∧ L1 = (d, some (.float .f64 r)) :: L ∧ H1 = H) := fun a w ha hs Kp hK => by
  have hrun : ∀ v w', (match o with | some r => pure (.float .f64 r) | none => do pure (.float .f64 (← choose (.nanBits .f64 m n))) : Sem Value).run P w = .ok v w' → (execOp a.eval ⟨some d, .binOp op xT x y yT, T, pos, after, guard⟩).run P w = .ok (.value v) w' := fun v w' hv => by
    simp only [execOp, ha.eval hx, ha.eval hy]
    have h2 := (h w).trans hv
    show ((do eqGuard op xT x y (.float .f64 m) (.float .f64 n); binOp op xT (.float .f64 m) (.float .f64 n) : Sem Value) >>= fun v => pure (Next.value v)).run P w = _
    rw [Sem.run_bind, h2]
    rfl
  unfold Oper.wp
  cases o with
  | some r =>
    rw [hrun (.float .f64 r) w rfl]
    simp only [Oper.upon]
    exact hK _ _ ⟨r, rfl, rfl, rfl⟩ _ _ (ha.put (Nat.blt_eq.mp hN) _) hs
  | none =>
    have hq : (choose (.nanBits .f64 m n)).run P w = .ok ((Question.nanBits .f64 m n).cut (w.tape w.drawn (.nanBits .f64 m n))) w.drew := by
      rw [run_choose_drew]; simp [Question.forced]
    rw [hrun (.float .f64 ((Question.nanBits .f64 m n).cut (w.tape w.drawn (.nanBits .f64 m n)))) w.drew (by simp only [Sem.run_bind, hq, Result.andThen_ok, Sem.run_pure])]
    simp only [Oper.upon]
    refine hK _ _ ⟨_, ?_, rfl, rfl⟩ _ _ (ha.put (Nat.blt_eq.mp hN) _) hs.drew
    show (fOrd _ _ == some .eq) = false
    simp only [Question.cut]
    exact nan_ord _
theorem Y.toFloat {src dst' : TypeId} {x : Operand} {j : IntKind} {n : Int} (h : ∀ w, (convert src dst' (.int j n)).run P w = .ok (.float .f64 (FloatKind.f64.nearest n)) w) (hx : ev L x = some (.int j n)) : Y P W N (.convert src dst' x) T L H (.float .f64 (FloatKind.f64.nearest n)) := fun dst pos after guard a w ha hs => by
  simp only [execOp, ha.eval hx]
  exact value_run (h w)
theorem Y.toIntF {src dst' : TypeId} {x : Operand} {j : IntKind} {n : Nat} {k : Int} (h : ∀ w, (convert src dst' (.float .f64 n)).run P w = .ok (.int j k) w) (hx : ev L x = some (.float .f64 n)) : Y P W N (.convert src dst' x) T L H (.int j k) := fun dst pos after guard a w ha hs => by
  simp only [execOp, ha.eval hx]
  exact value_run (h w)
end
end Go.SLYtnceicnimongcaaGreat
namespace Go.SLYtnceicnimongcaaGreat
open Go Go.RowKit

theorem fNan_nat (n : Nat) : fNan (n : Int) = (fOrd n n != some .eq) := by
  unfold fNan fEq fOrd bne
  rw [Int.toNat_natCast]
theorem clean_nat (n : Nat) : fClean (n : Int) = if (fOrd n n != some .eq) = true then fNone else (n : Int) := by unfold fClean; rw [fNan_nat]
theorem out_res {o : Option Nat} {r : Nat} (h : fRes o r) : fClean (r : Int) = fOut o := by
  cases o with
  | some q => rw [show r = q from h]; rfl
  | none =>
    have h : (fOrd r r == some .eq) = false := h
    rw [clean_nat]
    unfold bne
    rw [h]; rfl
theorem nan_toNat {a : Int} (h : 0 ≤ a) : (fOrd a.toNat a.toNat != some .eq) = fNan a := by
  rw [← fNan_nat, Int.toNat_of_nonneg h]
/-! from a number to a whole one -/
theorem far_read : Ieee.double.read fFar = .number false 4503599627370496 11 := by decide +kernel
theorem mfar_read : Ieee.double.read fMFar = .number true 4503599627370496 11 := by decide +kernel
open Ieee in
theorem cut_zero (s : Bool) (n drop : Nat) : Toward.zero.cut s n drop = n / 2 ^ min drop (n.log2 + 2) := by
  unfold Toward.cut
  simp [Nat.one_shiftLeft]
theorem cut_le {n drop b : Nat} (h : n ≤ b * 2 ^ drop) : n / 2 ^ min drop (n.log2 + 2) ≤ b := by
  rcases Nat.le_total drop (n.log2 + 2) with hd | hd
  · rw [Nat.min_eq_left hd]
    exact Nat.div_le_of_le_mul (by rw [Nat.mul_comm]; exact h)
  · rw [Nat.min_eq_right hd]
    have : n < 2 ^ (n.log2 + 2) := Nat.lt_of_lt_of_le Nat.lt_log2_self (Nat.pow_le_pow_right (by decide) (by omega))
    rw [Nat.div_eq_of_lt this]
    exact Nat.zero_le _
theorem cut_lt {n drop b : Nat} (hb : 0 < b) (h : n < b * 2 ^ drop) : n / 2 ^ min drop (n.log2 + 2) < b := by
  rcases Nat.le_total drop (n.log2 + 2) with hd | hd
  · rw [Nat.min_eq_left hd]
    exact Nat.div_lt_of_lt_mul (by rw [Nat.mul_comm]; exact h)
  · rw [Nat.min_eq_right hd]
    have : n < 2 ^ (n.log2 + 2) := Nat.lt_of_lt_of_le Nat.lt_log2_self (Nat.pow_le_pow_right (by decide) (by omega))
    rw [Nat.div_eq_of_lt this]
    exact hb
open Ieee in
theorem mag_cmp (m : Nat) (i : Int) : let base := min i 11
    (m <<< (i - base).toNat < 4503599627370496 <<< (11 - base).toNat → m <<< i.toNat < 9223372036854775808 * 2 ^ (-i).toNat) ∧ (m <<< (i - base).toNat ≤ 4503599627370496 <<< (11 - base).toNat → m <<< i.toNat ≤ 9223372036854775808 * 2 ^ (-i).toNat) := by
  intro base
  simp only [Nat.shiftLeft_eq]
  have key : ∃ c : Nat, 0 < c ∧ (m * 2 ^ i.toNat) = (m * 2 ^ (i - base).toNat) * c ∧ 9223372036854775808 * 2 ^ (-i).toNat = 4503599627370496 * 2 ^ (11 - base).toNat * c := by
    rcases (show i < 0 ∨ 0 ≤ i by omega) with hi | hi
    · refine ⟨1, by decide, ?_, ?_⟩
      · rw [show base = i from by show min i 11 = i; omega, show i.toNat = 0 from by omega, show (i - i).toNat = 0 from by omega]; simp
      · rw [show base = i from by show min i 11 = i; omega, show (11 - i).toNat = 11 + (-i).toNat from by omega, Nat.pow_add, Nat.mul_one, ← Nat.mul_assoc]
    · refine ⟨2 ^ base.toNat, Nat.pow_pos (by decide), ?_, ?_⟩
      · rw [Nat.mul_assoc, ← Nat.pow_add, show (i - base).toNat + base.toNat = i.toNat from by show (i - min i 11).toNat + (min i 11).toNat = _; omega]
      · rw [Nat.mul_assoc, ← Nat.pow_add, show (11 - base).toNat + base.toNat = 11 from by show (11 - min i 11).toNat + (min i 11).toNat = _; omega, show (-i).toNat = 0 from by omega]
  obtain ⟨c, hc, e1, e2⟩ := key
  rw [e1, e2]
  exact ⟨fun h => Nat.mul_lt_mul_of_pos_right h hc, fun h => Nat.mul_le_mul_right c h⟩
theorem cmpI (x y : Int) : compare x y = if x < y then .lt else if x = y then .eq else .gt := rfl
theorem cmp_gt {x y : Int} (h : y < x) : compare x y = .gt := by rw [cmpI, if_neg (by omega), if_neg (by omega)]
theorem cmp_lt {x y : Int} (h : x < y) : compare x y = .lt := by rw [cmpI, if_pos h]
theorem cmp_eq (x : Int) : compare x x = .eq := by rw [cmpI, if_neg (by omega), if_pos rfl]
theorem sgn_f (m k : Nat) : Ieee.signed false m k = ((m <<< k : Nat) : Int) := rfl
theorem sgn_t (m k : Nat) : Ieee.signed true m k = -((m <<< k : Nat) : Int) := rfl
open Ieee in
theorem toInt_ok2 {n : Nat} (h1 : (fOrd n n != some .eq) = false) (h2 : (fOrd n fFar == some .gt || fOrd n fFar == some .eq) = false) (h3 : (fOrd n fMFar == some .lt) = false) :
    ∃ k, (FloatKind.f64.decode n).toInt .zero = some k ∧ IntKind.i64.min ≤ k ∧ k ≤ IntKind.i64.max := by
  show ∃ k, (double.read n).toInt .zero = some k ∧ _
  unfold fOrd Format.order at h1 h2 h3
  rw [far_read] at h2
  rw [mfar_read] at h3
  have hmin : IntKind.i64.min = -9223372036854775808 := by decide
  have hmax : IntKind.i64.max = 9223372036854775807 := by decide
  rw [hmin, hmax]
  cases hd : double.read n with
  | nan b f => rw [hd] at h1; simp [Datum.order] at h1
  | infinity s =>
    rw [hd] at h2 h3
    cases s <;> simp [Datum.order] at h2 h3
  | number s m i =>
    rw [hd] at h2 h3
    simp only [Datum.order, Bool.or_eq_false_iff] at h2 h3
    refine ⟨signed s (Toward.zero.cut s (m <<< i.toNat) (-i).toNat) 0, rfl, ?_⟩
    rw [cut_zero]
    obtain ⟨c1, c2⟩ := mag_cmp m i
    cases s with
    | false =>
      have hlt : m <<< (i - min i 11).toNat < 4503599627370496 <<< (11 - min i 11).toNat := by
        rcases Nat.lt_trichotomy (m <<< (i - min i 11).toNat) (4503599627370496 <<< (11 - min i 11).toNat) with h | h | h
        · exact h
        · exfalso
          rw [sgn_f, sgn_f, h, cmp_eq] at h2; simp at h2
        · exfalso
          rw [sgn_f, sgn_f, cmp_gt (by omega)] at h2; simp at h2
      have := cut_lt (by decide) (c1 hlt)
      generalize (m <<< i.toNat) / 2 ^ min (-i).toNat ((m <<< i.toNat).log2 + 2) = q at *
      rw [sgn_f, Nat.shiftLeft_zero]
      omega
    | true =>
      have hle : m <<< (i - min i 11).toNat ≤ 4503599627370496 <<< (11 - min i 11).toNat := by
        rcases Nat.lt_or_ge (4503599627370496 <<< (11 - min i 11).toNat) (m <<< (i - min i 11).toNat) with h | h
        · exfalso
          rw [sgn_t, sgn_t, cmp_lt (by omega)] at h3; simp at h3
        · exact h
      have := cut_le (c2 hle)
      generalize (m <<< i.toNat) / 2 ^ min (-i).toNat ((m <<< i.toNat).log2 + 2) = q at *
      rw [sgn_t, Nat.shiftLeft_zero]
      omega
theorem run_toInt {P : Program} {n : Nat} {w : World} {k : Int} (h : (FloatKind.f64.decode n).toInt .zero = some k) (h1 : IntKind.i64.min ≤ k) (h2 : k ≤ IntKind.i64.max) : (Conv.floatToInt .f64 n .i64).run P w = .ok (.int .i64 k) w := by
  unfold Conv.floatToInt
  rw [h]
  simp only
  rw [if_pos ⟨h1, h2⟩]
  rfl
theorem wrap_w64 (k : Int) : IntKind.u64.wrap k = w64 k := by
  unfold w64
  rfl
end Go.SLYtnceicnimongcaaGreat
namespace Go.SLYtnceicnimongcaaGreat
open Go Go.RowKit

def frmE (f : Frm) : List Value := [.int .i64 f.fn, .int .i64 f.pc, .int .u64 (f.regs.getD 0 0), .int .u64 (f.regs.getD 1 0), .int .u64 (f.regs.getD 2 0), .int .u64 (f.regs.getD 3 0), .int .u64 (f.regs.getD 4 0), .int .u64 (f.regs.getD 5 0), .int .u64 (f.regs.getD 6 0), .int .u64 (f.regs.getD 7 0)]
def dwC (f : Frm) (v : Value) : List Value := [.int .i64 f.fn, .int .i64 f.pc, .int .u64 (f.regs.getD 0 0), .int .u64 (f.regs.getD 1 0), .int .u64 (f.regs.getD 2 0), .int .u64 (f.regs.getD 3 0), .int .u64 (f.regs.getD 4 0), .int .u64 (f.regs.getD 5 0), .int .u64 (f.regs.getD 6 0), .int .u64 (f.regs.getD 7 0), v]
def nextR (o : Option Ins) : Value := .tuple #[.agg (insE (o.getD Ins.z)).toArray, .bool o.isSome]
theorem next_no {p : Prg} {f : Frm} {fs : List (Value × List Ins)} {z : Value × List Ins} (hp : fs.map (·.2) = p.funcs)
    (h : (decide (f.fn < 0) || decide ((fs.length : Int) ≤ f.fn) || decide (f.pc < 0) || decide (((fs.getD f.fn.toNat z).2.length : Int) ≤ f.pc)) = true) (_hz : z.2 = []) : nextI p f = none := by
  unfold nextI
  split
  · rfl
  · rename_i hn
    rw [← hp, List.getElem?_eq_none]
    simp only [Bool.or_eq_true, decide_eq_true_eq] at h
    rw [List.getD_eq_getElem?_getD, List.getElem?_map]
    rw [List.getD_eq_getElem?_getD] at h
    cases e : fs[f.fn.toNat]? with
    | none => exact Nat.zero_le _
    | some x =>
      rw [e] at h
      have := (List.getElem?_eq_some_iff.1 e).1
      simp only [Option.getD_some, Option.map_some] at h ⊢
      omega
theorem next_yes {p : Prg} {f : Frm} {fs : List (Value × List Ins)} {x : Value × List Ins} {i : Ins} (hp : fs.map (·.2) = p.funcs) (h1 : ¬ f.fn < 0) (h2 : ¬ f.pc < 0) (hx : fs[f.fn.toNat]? = some x) (hi : x.2[f.pc.toNat]? = some i) : nextI p f = some i := by
  unfold nextI
  rw [if_neg (by omega), ← hp, List.getD_eq_getElem?_getD, List.getElem?_map, hx]
  exact hi

theorem dw_get {f : Frm} {v : Value} : ∀ {n : Nat} (_ : n < 8), (dwC f v)[2 + n]? = some (.int .u64 (f.regs.getD n 0))
  | 0, _ => rfl
  | 1, _ => rfl
  | 2, _ => rfl
  | 3, _ => rfl
  | 4, _ => rfl
  | 5, _ => rfl
  | 6, _ => rfl
  | 7, _ => rfl
  | n + 8, h => absurd h (by omega)
theorem dw_set' {fn pc : Int} {a0 a1 a2 a3 a4 a5 a6 a7 : Int} {v : Value} (x : Int) : ∀ {n : Nat} (_ : n < 8), (dwC ⟨fn, pc, [a0, a1, a2, a3, a4, a5, a6, a7]⟩ v).set (2 + n) (.int .u64 x) = dwC ⟨fn, pc, [a0, a1, a2, a3, a4, a5, a6, a7].set n x⟩ v
  | 0, _ => rfl
  | 1, _ => rfl
  | 2, _ => rfl
  | 3, _ => rfl
  | 4, _ => rfl
  | 5, _ => rfl
  | 6, _ => rfl
  | 7, _ => rfl
  | n + 8, h => absurd h (by omega)
theorem dw_set {f : Frm} {v : Value} {n : Nat} (x : Int) (hn : n < 8) (hl : f.regs.length = 8) : (dwC f v).set (2 + n) (.int .u64 x) = dwC { f with regs := f.regs.set n x } v := by
  obtain ⟨fn, pc, regs⟩ := f
  match regs, hl with
  | [a0, a1, a2, a3, a4, a5, a6, a7], _ => exact dw_set' x hn
def stopC (t : Nat) (e : Int) : List PanicEntry := [{ v := .iface t (.agg #[.int .i64 e]), recovered := false }]
structure InsOk (i : Ins) : Prop where
  a : 0 ≤ i.a ∧ i.a < 8
  b : 0 ≤ i.b ∧ i.b < 8
  c : 0 ≤ i.c ∧ i.c < 8
  n : 0 ≤ i.n ∧ i.n ≤ 18446744073709551615
  j : i.op = 16 ∨ i.op = 17 → i.n ≤ 256
structure FrmOk (f : Frm) : Prop where
  l : f.regs.length = 8
  pc : 0 ≤ f.pc ∧ f.pc ≤ 1000000
  r : ∀ n, 0 ≤ f.regs.getD n 0 ∧ f.regs.getD n 0 ≤ 18446744073709551615
def doEnd (t : Nat) (o : Option (Frm × List Int)) : Ending := match o with | some _ => .returned (.tuple #[]) | none => .panicked (stopC t 6)
def doH (b : Nat) (v : Value) (o : Option (Frm × List Int)) : List HProp := match o with | some z => [arr b 0 (dwC z.1 v), sl wrdE 1 v z.2] | none => []
def plainR (f : Frm) (m : List Int) (i : Ins) : Frm × List Int × Int := match doI f m i with | some (f', m') => (f', m', 0) | none => (Frm.z, [], 6)

section
variable {P : Program} {W : World} {N : Nat} {Q : Exit → Act → World → Prop} {L : List (Nat × Option Value)} {H K R : List HProp} {O : Array Oper} {T : TypeId} {rest : List Oper} {D : List Deferred} {ks : List Nat}
theorem Y.tAssert {x : Operand} {v r : Value} {t u : TypeId} {c : Bool} (hx : ev L x = some v) (h : ∀ w, (Instr.typeAssert v t u c).run P w = .ok r w) : Y P W N (.typeAssert x t u c) T L H r := fun dst pos after guard a w ha hs => by
  simp only [execOp, ha.eval hx]
  exact value_run (h w)
theorem FnB.ok {f : FuncId} {args : List Value} {pre : List HProp} {X : Type} {en : X → Ending} {fact : X → Prop} {post : X → List HProp} (val : X → Value) (h : FnB P W f args pre X en fact post) (he : ∀ x, en x = .returned (val x)) : Fn P W f args pre X val fact post := fun F w hs =>
  (h F w hs).mono fun _ _ ⟨x, e1, e2, e3⟩ => ⟨x, e1.trans (he x), e2, e3⟩
theorem Fn.introD {f : FuncId} {fn : Func} {c : Code} {args : List Value} {pre : List HProp} {X : Type} {val : X → Value} {fact : X → Prop} {post : X → List HProp} (hf : P.funcs[f]? = some fn) (hb : fn.body = some c) (hn : fn.ntmps = N) (ha : Nat.ble args.length N = true)
    (h : ∀ F, GoC P W N (bodyPostD P fn (fun e w' => ∃ x, e = .returned (val x) ∧ fact x ∧ Sat W w' (sep (seps (post x)) F))) c (enum 0 args) (pre ++ [F])) : Fn P W f args pre X val fact post := fun F w hs => by
  have hle : args.length ≤ N := Nat.ble_eq.mp ha
  refine calls_of_wp_defers hf hb (h F _ w ⟨?_, fun k v hv => ?_, rfl⟩ ?_)
  · simp [hn]; omega
  · obtain ⟨_, h2⟩ := look_enum args 0 k v hv
    have hk : k < args.length := by
      have := (List.getElem?_eq_some_iff.1 h2).1; simpa using this
    show (args.toArray ++ Array.replicate (fn.ntmps - args.toArray.size) undef)[k]? = some v
    rw [Array.getElem?_append_left (by simpa using hk)]
    simpa using h2
  · rw [seps_append]; simp only [seps]; rw [sep_emp]; exact hs
theorem Does.copyAll {α : Type} {enc : α → List Value} {k b n c' : Nat} {x y : Operand} {t t2 e ty : TypeId} {u : Value} {xs ys : List α} {pos : String} {after : Array Edge} {guard : Option (Nat × Bool)} {d : Nat} (hN : Nat.blt d N = true) (hu : P.underlying t = some (.slice e)) (hz : ∀ w, (sizeOf e).run P w = .ok k w)
    (hx : ev L x = some (.slice (some ⟨b, 0, none⟩) n c')) (hy : ev L y = some u) (hr : Rd W H enc k u ys) (ht : Take H (sl enc k (.slice (some ⟨b, 0, none⟩) n c') xs) R) (hl : xs.length = n) (hl2 : ys.length = n) (hone : ∀ y ∈ ys, ∀ c ∈ enc y, c.oneCell' = true) :
    Does P W N ⟨some d, .call ⟨.builtin .copy, #[x, y], #[t, t2]⟩, ty, pos, after, guard⟩ L H (fun L1 H1 => L1 = (d, some (.int .i64 (n : Int))) :: L ∧ H1 = sl enc k (.slice (some ⟨b, 0, none⟩) n c') ys :: R) := by
  rcases Nat.eq_zero_or_pos n with h0 | h0
  · subst h0
    obtain rfl := List.eq_nil_of_length_eq_zero hl
    obtain rfl := List.eq_nil_of_length_eq_zero hl2
    intro a w ha hs Kp hK
    have hrd := hr w hs
    have hf := hrd.firstN (P := P) (m := 0) (Nat.zero_le _)
    obtain ⟨⟨ua, ucap, hue, _⟩, _⟩ := hrd
    have hln : (Builtin.lenOf u).run P w = .ok 0 w := by rw [hue]; simp [Builtin.lenOf]
    have hrun : (execOp a.eval ⟨some d, .call ⟨.builtin .copy, #[x, y], #[t, t2]⟩, ty, pos, after, guard⟩).run P w = .ok (.value (.int .i64 ((0 : Nat) : Int))) w := by
      simp [execOp, resolve, invoke, builtin, ha.eval hx, ha.eval hy, Builtin.copy_, run_underlying hu, hz, hln, goInt, hf, rows, storeCells]
    unfold Oper.wp
    rw [hrun]
    simp only [Oper.upon]
    rw [ht.seps] at hs
    exact hK _ _ ⟨rfl, rfl⟩ _ _ (ha.put (Nat.blt_eq.mp hN) _) hs
  · have := Does.copyIn (P := P) (W := W) (N := N) (L := L) (H := H) (R := R) (ty := ty) (pos := pos) (after := after) (guard := guard) (t2 := t2) (d := d) (x := x) (y := y) (t := t) (i := 0) (b := b) (len := n) (cap := c') (c' := c') (xs := xs) (ys := ys) hN hu hz (by simpa using hx) hy hr ht hl (Nat.zero_le _) h0 hone
    have e : min ys.length (n - 0) = n := by omega
    rw [e, List.take_zero, List.nil_append, Nat.zero_add, List.take_of_length_le (by omega), List.drop_of_length_le (by omega), List.append_nil] at this
    exact this
end
end Go.SLYtnceicnimongcaaGreat
namespace Go.SLYtnceicnimongcaaGreat
open Go Go.RowKit

def QC (R : Ending → FrameMode → World → Prop) (u : FrameMode) : Exit → Act → World → Prop
  | .normal, a, w | .ret, a, w => a.defers = [] ∧ R (.returned (.tuple #[])) u w
  | _, _, _ => False
section
variable {P : Program} {W : World} {N : Nat} {Q : Exit → Act → World → Prop} {L : List (Nat × Option Value)} {H K R : List HProp} {O : Array Oper} {T : TypeId} {D : List Deferred}
theorem env_enter {args : List Value} (ha : Nat.ble args.length N = true) : Env N (enum 0 args) { tmps := args.toArray ++ Array.replicate (N - args.toArray.size) undef, defers := [] } := by
  have hle : args.length ≤ N := Nat.ble_eq.mp ha
  refine ⟨by simp; omega, fun k v hv => ?_, rfl⟩
  obtain ⟨_, h2⟩ := look_enum args 0 k v hv
  have hk : k < args.length := by
    have := (List.getElem?_eq_some_iff.1 h2).1; simpa using this
  show (args.toArray ++ Array.replicate (N - args.toArray.size) undef)[k]? = some v
  rw [Array.getElem?_append_left (by simpa using hk)]
  simpa using h2
theorem callsD_recover {f : FuncId} {fn : Func} {rest : Code} {id d : Nat} {pos : String} {after : Array Edge} {args : List Value} {Rc : Ending → FrameMode → World → Prop} {u u2 : FrameMode} {v : Value} {w : World} (hf : P.funcs[f]? = some fn)
    (hb : fn.body = some (.seq (.region id #[⟨some d, .call ⟨.builtin .recover, #[], #[]⟩, T, pos, after, none⟩] false) rest)) (hn : fn.ntmps = N) (ha : Nat.ble args.length N = true) (hd : Nat.blt d N = true) (hr : fn.results = #[])
    (hu : ∀ (c : Frame) (cs : List Frame), c.mode = u → (recoverD (c :: cs) = some (v, { c with mode := u2 } :: cs)) ∨ (recoverD (c :: cs) = none ∧ v = .nilIface ∧ u2 = u))
    (hs : Sat W w (seps H)) (h : GoC P W N (QC Rc u2) rest ((d, some v) :: enum 0 args) H) : CallsD P f args.toArray u w Rc := by
  refine callsD_of_wpS hf hb fun c cs hc => wpS_seq (wpS_region ?_)
  have henv : Env N ((d, some v) :: enum 0 args) (({ tmps := args.toArray ++ Array.replicate (fn.ntmps - args.toArray.size) undef, defers := [] } : Act).put (some d) v) := by
    rw [hn]; exact (env_enter ha).put (Nat.blt_eq.mp hd) v
  have hw := h _ w henv hs
  have hfin : rest.wpS P (bodyPostS P fn c cs Rc) (({ tmps := args.toArray ++ Array.replicate (fn.ntmps - args.toArray.size) undef, defers := [] } : Act).put (some d) v) ({ c with mode := u2 } :: cs) w := by
    refine wpS_of_wp (wp_mono hw fun e a' w' hq => ?_)
    cases e with
    | normal => exact ⟨hq.1, u2, rfl, _, results_none hr _ _ _, hq.2⟩
    | ret => exact ⟨hq.1, u2, rfl, _, results_none hr _ _ _, hq.2⟩
    | exit id => exact hq.elim
    | goto l => exact hq.elim
    | panic c => exact hq.elim
    | outgrown => exact hq.elim
  have hlist : List.range (#[(⟨some d, .call ⟨.builtin .recover, #[], #[]⟩, T, pos, after, none⟩ : Oper)]).size = [0] := rfl
  rw [hlist]
  simp only [wpOpsS, List.getElem?_toArray, List.getElem?_cons_zero]
  rw [if_pos (wanted_none rfl)]
  have hx : (execOp ({ tmps := args.toArray ++ Array.replicate (fn.ntmps - args.toArray.size) undef, defers := [] } : Act).eval ⟨some d, .call ⟨.builtin .recover, #[], #[]⟩, T, pos, after, none⟩).run P w = .ok .recover w := by
    simp [execOp, resolve, invoke, builtin]
  rw [hx]
  simp only
  rcases hu c cs hc with e | ⟨e, rfl, rfl⟩
  · rw [e]; exact hfin
  · rw [e]
    have : ({ c with mode := u2 } : Frame) = c := by subst hc; rfl
    rw [this] at hfin
    exact hfin
theorem run_eq_nilIf {xT : TypeId} {ms : Array (String × TypeId)} (hu : P.underlying xT = some (.interface ms)) (w : World) : (Op.equal xT .nilIface .nilIface).run P w = .ok true w := by
  show (Op.equalIn (9999 + 1) xT _ _).run P w = _
  unfold Op.equalIn
  simp [run_underlying hu]
theorem run_eq_someIf {xT : TypeId} {ms : Array (String × TypeId)} {t : TypeId} {u : Value} (hu : P.underlying xT = some (.interface ms)) (w : World) : (Op.equal xT (.iface t u) .nilIface).run P w = .ok false w := by
  show (Op.equalIn (9999 + 1) xT _ _).run P w = _
  unfold Op.equalIn
  simp [run_underlying hu]
theorem Y.eqIf0 {xT yT : TypeId} {x : Operand} {ms : Array (String × TypeId)} (hu : P.underlying xT = some (.interface ms)) (hx : ev L x = some .nilIface) : Y P W N (.binOp .eql xT x (.const .nilIface) yT) T L H (.bool true) :=
  Y.bin hx rfl fun w => by simp [eqGuard, binOp, run_eq_nilIf hu]
theorem Y.eqIf1 {xT yT : TypeId} {x : Operand} {t : TypeId} {u : Value} {ms : Array (String × TypeId)} (hu : P.underlying xT = some (.interface ms)) (hx : ev L x = some (.iface t u)) : Y P W N (.binOp .eql xT x (.const .nilIface) yT) T L H (.bool false) :=
  Y.bin hx rfl fun w => by simp [eqGuard, binOp, run_eq_someIf hu]
theorem GoE.endC {Rc : Ending → FrameMode → World → Prop} {u : FrameMode} (h : ∀ w, Sat W w (seps H) → Rc (.returned (.tuple #[])) u w) : GoE W N (QC Rc u) .normal L H := fun _a w ha hs => ⟨ha.defers, h w hs⟩
theorem results_3 {fn : Func} {a : Act} {w : World} {t1 t2 t3 T1 T2 T3 b1 b2 b3 : Nat} {cs : List Value} {v2 v3 : Value} (ha : EnvD N L D a) (hs : Sat W w (seps H)) (hr : fn.results = #[.cell t1 T1, .cell t2 T2, .cell t3 T3]) (h1 : look L t1 = some (ptr b1)) (h2 : look L t2 = some (ptr b2)) (h3 : look L t3 = some (ptr b3))
    (g1 : ∀ w, (isAgg T1).run P w = .ok true w) (z1 : ∀ w, (sizeOf T1).run P w = .ok cs.length w) (g2 : ∀ w, (isAgg T2).run P w = .ok false w) (g3 : ∀ w, (isAgg T3).run P w = .ok false w) (c1 : Cells W H b1 0 cs) (c2 : Cell W H b2 0 v2) (c3 : Cell W H b3 0 v3) :
    (results fn a.tmps).run P w = .ok (.tuple #[.agg cs.toArray, v2, v3]) w := by
  have hl := run_loadAgg (P := P) (w := w) g1 z1 fun i v hv => c1 i v hv w hs
  have hl2 : (loadVar T2 ⟨b2, 0, none⟩).run P w = .ok v2 w := by simp [loadVar, g2, c2 w hs]
  have hl3 : (loadVar T3 ⟨b3, 0, none⟩).run P w = .ok v3 w := by simp [loadVar, g3, c3 w hs]
  simp [results, hr, ha.get _ _ h1, ha.get _ _ h2, ha.get _ _ h3, ptr, asAddr, hl, hl2, hl3]
end
end Go.SLYtnceicnimongcaaGreat
namespace Go.SLYtnceicnimongcaaGreat
open Go Go.RowKit

def mtxR (v : Value) (l : List Mtx) (i : Nat) : HProp := wands (mtxAt (blk v) (ofs v + i * 3)) (fun m' => mtxsH v (l.set i m'))
def smpR (v : Value) (l : List Smp) (i : Nat) : HProp := wands (smpAt (blk v) (ofs v + i * 2)) (fun m' => smpsH v (l.set i m'))
def cndR (v : Value) (l : List (List Wtr)) (i : Nat) : HProp := wands (rowH (blk v) (ofs v + i * 1)) (fun m' => cndsH v (l.set i m'))
theorem mtx_out {v : Value} {l : List Mtx} {i : Nat} {m : Mtx} (hm : l[i]? = some m) : ∀ h, mtxsH v l h → seps [mtxAt (blk v) (ofs v + i * 3) m, mtxR v l i] h := mtx_open hm
theorem smp_out {v : Value} {l : List Smp} {i : Nat} {m : Smp} (hm : l[i]? = some m) : ∀ h, smpsH v l h → seps [smpAt (blk v) (ofs v + i * 2) m, smpR v l i] h := smp_open hm
theorem cnd_out {v : Value} {l : List (List Wtr)} {i : Nat} {m : List Wtr} (hm : l[i]? = some m) : ∀ h, cndsH v l h → seps [rowH (blk v) (ofs v + i * 1) m, cndR v l i] h := cnd_open hm
theorem mtx_in {v : Value} {l : List Mtx} {i : Nat} (m' : Mtx) : ∀ h, seps [mtxAt (blk v) (ofs v + i * 3) m', mtxR v l i] h → mtxsH v (l.set i m') h := wands_use m'
theorem smp_in {v : Value} {l : List Smp} {i : Nat} (m' : Smp) : ∀ h, seps [smpAt (blk v) (ofs v + i * 2) m', smpR v l i] h → smpsH v (l.set i m') h := wands_use m'
theorem cnd_in {v : Value} {l : List (List Wtr)} {i : Nat} (m' : List Wtr) : ∀ h, seps [rowH (blk v) (ofs v + i * 1) m', cndR v l i] h → cndsH v (l.set i m') h := wands_use m'
theorem set_same {α : Type} {l : List α} {i : Nat} {x : α} (h : l[i]? = some x) : l.set i x = l := by
  apply List.ext_getElem?
  intro j
  by_cases e : i = j
  · subst e; rw [List.getElem?_set_self (List.getElem?_eq_some_iff.1 h).1, h]
  · rw [List.getElem?_set_ne e]
theorem mtx_back {v : Value} {l : List Mtx} {i : Nat} {m : Mtx} (hm : l[i]? = some m) : ∀ h, seps [mtxAt (blk v) (ofs v + i * 3) m, mtxR v l i] h → mtxsH v l h := fun h a => by have := mtx_in m h a; rwa [set_same hm] at this
theorem smp_back {v : Value} {l : List Smp} {i : Nat} {m : Smp} (hm : l[i]? = some m) : ∀ h, seps [smpAt (blk v) (ofs v + i * 2) m, smpR v l i] h → smpsH v l h := fun h a => by have := smp_in m h a; rwa [set_same hm] at this
theorem isNone_yes {p : Prop} [Decidable p] {α : Type} {a : α} (h : (if p then some a else none).isNone = false) : p := by
  by_cases hp : p
  · exact hp
  · rw [if_neg hp] at h; cases h
theorem isNone_no {p : Prop} [Decidable p] {α : Type} {a : α} (h : (if p then some a else none).isNone = true) : ¬ p := by
  intro hp
  rw [if_pos hp] at h; cases h
theorem isNone_yes2 {p : Prop} [Decidable p] {α : Type} {a : α} (h : (!(if p then some a else none).isNone) = true) : p := isNone_yes (by simpa only [Bool.not_eq_true'] using h)
theorem isNone_no2 {p : Prop} [Decidable p] {α : Type} {a : α} (h : (!(if p then some a else none).isNone) = false) : ¬ p := isNone_no (by simpa only [Bool.not_eq_false'] using h)
section
variable {g : Gates} {who m c choice s : Int} {x : Mtx} {r : List Wtr} {y : Smp}
theorem g_lock_no (h : ¬ (0 ≤ m ∧ m < (g.mtx.length : Int))) : g.lock who m = (false, 1, g) := by unfold Gates.lock; rw [geti_none h]
theorem g_lock_busy (h : geti g.mtx m = some x) (hb : (g.waits who || x.is who) = true) : g.lock who m = (false, 4, g) := by unfold Gates.lock; rw [h]; simp only; rw [if_pos (by simpa using hb)]
theorem g_lock_go (h : geti g.mtx m = some x) (hb : (g.waits who || x.is who) = false) : g.lock who m = ((x.lock who).1, 0, { g with mtx := g.mtx.set m.toNat (x.lock who).2 }) := by unfold Gates.lock; rw [h]; simp only; rw [if_neg (by simpa using hb)]
theorem g_unlock_no (h : ¬ (0 ≤ m ∧ m < (g.mtx.length : Int))) : g.unlock who m choice = (0, false, 1, g) := by unfold Gates.unlock; rw [geti_none h]
theorem g_unlock_own (h : geti g.mtx m = some x) (hb : x.is who = false) : g.unlock who m choice = (0, false, 5, g) := by unfold Gates.unlock; rw [h]; simp only; rw [if_neg (by simpa using hb)]
theorem g_unlock_go (h : geti g.mtx m = some x) (hb : x.is who = true) : g.unlock who m choice = ((x.unlock choice).1, (x.unlock choice).2.1, 0, { g with mtx := g.mtx.set m.toNat (x.unlock choice).2.2 }) := by unfold Gates.unlock; rw [h]; simp only; rw [if_pos hb]
theorem g_wait_no1 (h : ¬ (0 ≤ m ∧ m < (g.mtx.length : Int))) : g.wait who c m choice = (0, false, 1, g) := by unfold Gates.wait; rw [geti_none h]
theorem g_wait_no2 (h : ¬ (0 ≤ c ∧ c < (g.cnd.length : Int))) : g.wait who c m choice = (0, false, 1, g) := by unfold Gates.wait; rw [geti_none h]; cases geti g.mtx m <;> rfl
theorem g_wait_busy (h : geti g.mtx m = some x) (h2 : geti g.cnd c = some r) (hb : g.waits who = true) : g.wait who c m choice = (0, false, 4, g) := by unfold Gates.wait; rw [h, h2]; simp only; rw [if_pos hb]
theorem g_wait_own (h : geti g.mtx m = some x) (h2 : geti g.cnd c = some r) (hb : g.waits who = false) (ho : x.is who = false) : g.wait who c m choice = (0, false, 5, g) := by unfold Gates.wait; rw [h, h2]; simp only; rw [if_neg (by rw [hb]; simp), if_neg (by rw [ho]; simp)]
theorem g_wait_go (h : geti g.mtx m = some x) (h2 : geti g.cnd c = some r) (hb : g.waits who = false) (ho : x.is who = true) : g.wait who c m choice = ((x.unlock choice).1, (x.unlock choice).2.1, 0, { g with mtx := g.mtx.set m.toNat (x.unlock choice).2.2, cnd := g.cnd.set c.toNat (r ++ [⟨who, m⟩]) }) := by unfold Gates.wait; rw [h, h2]; simp only; rw [if_neg (by rw [hb]; simp), if_pos ho]
theorem g_signal_no {all : Bool} (h : ¬ (0 ≤ c ∧ c < (g.cnd.length : Int))) : g.signal c choice all = ([], 1, g) := by unfold Gates.signal; rw [geti_none h]
theorem g_signal_go {all : Bool} {z : List Wtr × List Mtx × List Int} (h2 : geti g.cnd c = some r) (hz : sigLoop (if all = true then r.length else min r.length 1) (if all = true then 0 else choice) r g.mtx [] = z) : g.signal c choice all = (z.2.2, 0, { g with mtx := z.2.1, cnd := g.cnd.set c.toNat z.1 }) := by unfold Gates.signal; rw [h2]; simp only; rw [hz]
theorem g_down_no (h : ¬ (0 ≤ s ∧ s < (g.sem.length : Int))) : g.down who s = (false, 1, g) := by unfold Gates.down; rw [geti_none h]
theorem g_down_busy (h : geti g.sem s = some y) (hb : g.waits who = true) : g.down who s = (false, 4, g) := by unfold Gates.down; rw [h]; simp only; rw [if_pos hb]
theorem g_down_go (h : geti g.sem s = some y) (hb : g.waits who = false) (hc : 0 < y.count) : g.down who s = (true, 0, { g with sem := g.sem.set s.toNat { y with count := y.count - 1 } }) := by unfold Gates.down; rw [h]; simp only; rw [if_neg (by rw [hb]; simp), if_pos hc]
theorem g_down_wait (h : geti g.sem s = some y) (hb : g.waits who = false) (hc : ¬ 0 < y.count) : g.down who s = (false, 0, { g with sem := g.sem.set s.toNat { y with wait := y.wait ++ [⟨who, 0⟩] } }) := by unfold Gates.down; rw [h]; simp only; rw [if_neg (by rw [hb]; simp), if_neg hc]
theorem g_up_no (h : ¬ (0 ≤ s ∧ s < (g.sem.length : Int))) : g.up s choice = (0, false, 1, g) := by unfold Gates.up; rw [geti_none h]
theorem g_up_take (h : geti g.sem s = some y) (hb : (takeW y.wait choice).2.1 = true) : g.up s choice = ((takeW y.wait choice).1.who, true, 0, { g with sem := g.sem.set s.toNat { y with wait := (takeW y.wait choice).2.2 } }) := by unfold Gates.up; rw [h]; simp only; rw [if_pos hb]
theorem g_up_full (h : geti g.sem s = some y) (hb : (takeW y.wait choice).2.1 = false) (hc : 1048576 ≤ y.count) : g.up s choice = (0, false, 2, g) := by unfold Gates.up; rw [h]; simp only; rw [if_neg (by rw [hb]; simp), if_pos hc]
theorem g_up_go (h : geti g.sem s = some y) (hb : (takeW y.wait choice).2.1 = false) (hc : ¬ 1048576 ≤ y.count) : g.up s choice = (0, false, 0, { g with sem := g.sem.set s.toNat { y with count := y.count + 1 } }) := by unfold Gates.up; rw [h]; simp only; rw [if_neg (by rw [hb]; simp), if_neg hc]
end
theorem take_none {l : List Wtr} {c : Int} (h : (takeW l c).2.1 = false) : (takeW l c).2.2 = l := by
  unfold takeW at *
  split
  · rfl
  · rename_i hl; rw [if_neg hl] at h; cases h
def sigL (r : List Wtr) (c : Int) (ms : List Mtx) : Bool × Mtx := (ms.getD (takeW r c).1.mutex.toNat mtxZ).lock (takeW r c).1.who
theorem sig_step {n : Nat} {c : Int} {r : List Wtr} {ms : List Mtx} {out : List Int} :
    sigLoop (n + 1) c r ms out = sigLoop n c (takeW r c).2.2 (ms.set (takeW r c).1.mutex.toNat (sigL r c ms).2) (if (sigL r c ms).1 = true then out ++ [(takeW r c).1.who] else out) := rfl
theorem take_mem {l : List Wtr} {c : Int} (h : l.length ≠ 0) : (takeW l c).1 ∈ l ∧ (takeW l c).2.2.length + 1 = l.length ∧ (∀ w ∈ (takeW l c).2.2, w ∈ l) := by
  rw [take_ok h]
  have hp : pick c l.length < l.length := pick_lt (by omega)
  refine ⟨List.mem_of_getElem? (getD_some hp), ?_, fun w hw => (List.eraseIdx_sublist _ _).mem hw⟩
  have := List.length_eraseIdx_of_lt hp
  show (l.eraseIdx (pick c l.length)).length + 1 = _
  omega
theorem lock_len {m : Mtx} {who : Int} : (m.lock who).2.wait.length ≤ m.wait.length + 1 := by
  unfold Mtx.lock
  split <;> simp
structure SigOk (r0 : List Wtr) (ms0 : List Mtx) (n0 : Nat) (c : Int) (k : Nat) (r : List Wtr) (ms : List Mtx) (out : List Int) : Prop where
  hk : k ≤ n0
  len : r.length + k = r0.length
  mem : ∀ w ∈ r, w ∈ r0
  ml : ms.length = ms0.length
  mw : ∀ m ∈ ms, m.wait.length ≤ 1000000 + k
  ol : out.length ≤ k
  eq : sigLoop n0 c r0 ms0 [] = sigLoop (n0 - k) c r ms out
theorem SigOk.zero {r0 : List Wtr} {ms0 : List Mtx} {n0 : Nat} {c : Int} (h : ∀ m ∈ ms0, m.wait.length ≤ 1000000) : SigOk r0 ms0 n0 c 0 r0 ms0 [] := ⟨Nat.zero_le _, rfl, fun _ h => h, rfl, h, Nat.le_refl _, rfl⟩
theorem SigOk.next {r0 r : List Wtr} {ms0 ms : List Mtx} {n0 k : Nat} {c : Int} {out : List Int} (h : SigOk r0 ms0 n0 c k r ms out) (hk : k < n0) (h0 : n0 ≤ r0.length) :
    SigOk r0 ms0 n0 c (k + 1) (takeW r c).2.2 (ms.set (takeW r c).1.mutex.toNat (sigL r c ms).2) (if (sigL r c ms).1 = true then out ++ [(takeW r c).1.who] else out) := by
  have hl := h.len
  obtain ⟨h1, h2, h3⟩ := take_mem (l := r) (c := c) (by omega)
  refine ⟨by omega, by omega, fun w hw => h.mem w (h3 w hw), by rw [List.length_set]; exact h.ml, fun m hm => ?_, ?_, ?_⟩
  · rcases List.mem_or_eq_of_mem_set hm with e | e
    · have := h.mw m e; omega
    · subst e
      unfold sigL
      have := lock_len (m := ms.getD (takeW r c).1.mutex.toNat mtxZ) (who := (takeW r c).1.who)
      have h5 : (ms.getD (takeW r c).1.mutex.toNat mtxZ).wait.length ≤ 1000000 + k := by
        rw [List.getD_eq_getElem?_getD]
        cases e : ms[(takeW r c).1.mutex.toNat]? with
        | none => exact Nat.zero_le _
        | some m => exact h.mw m (List.mem_of_getElem? e)
      omega
  · have := h.ol
    split <;> simp <;> omega
  · rw [h.eq, show n0 - k = (n0 - (k + 1)) + 1 by omega, sig_step]
theorem SigOk.done {r0 r : List Wtr} {ms0 ms : List Mtx} {n0 k : Nat} {c : Int} {out : List Int} (h : SigOk r0 ms0 n0 c k r ms out) (hk : ¬ k < n0) : sigLoop n0 c r0 ms0 [] = (r, ms, out) := by
  rw [h.eq, show n0 - k = 0 by omega]; rfl
end Go.SLYtnceicnimongcaaGreat
namespace Go.SLYtnceicnimongcaaGreat
open Go Go.RowKit

structure TubLen (t : Tub) : Prop where
  w : t.words.length ≤ 1000000
  p : t.puts.length ≤ 1000000
  g : t.gets.length ≤ 1000000
section
variable {t : Tub} {who x w : Int} {r : List Int} {p : Ptr} {q : List Ptr}
theorem put_waits (h : t.waits who = true) : t.put who x = (false, 0, false, t) := by unfold Tub.put; rw [if_pos h]
theorem put_get (h : t.waits who = false) (hg : t.gets = w :: r) : t.put who x = (true, w, true, { t with gets := r }) := by unfold Tub.put; rw [if_neg (by rw [h]; simp), hg]
theorem put_room (h : t.waits who = false) (hg : t.gets = []) (hr : (t.words.length : Int) < t.room) : t.put who x = (true, 0, false, { t with words := t.words ++ [x] }) := by unfold Tub.put; rw [if_neg (by rw [h]; simp), hg]; simp only; rw [if_pos hr]
theorem put_full (h : t.waits who = false) (hg : t.gets = []) (hr : ¬ (t.words.length : Int) < t.room) : t.put who x = (false, 0, false, { t with puts := t.puts ++ [⟨who, x⟩] }) := by unfold Tub.put; rw [if_neg (by rw [h]; simp), hg]; simp only; rw [if_neg hr]
theorem get_waits (h : t.waits who = true) : t.get who = (0, false, 0, false, t) := by unfold Tub.get; rw [if_pos h]
theorem get_none (h : t.waits who = false) (hg : t.words = []) : t.get who = (0, false, 0, false, { t with gets := t.gets ++ [who] }) := by unfold Tub.get; rw [if_neg (by rw [h]; simp), hg]
theorem get_one (h : t.waits who = false) (hg : t.words = x :: r) (hp : t.puts = []) : t.get who = (x, true, 0, false, { t with words := r }) := by unfold Tub.get; rw [if_neg (by rw [h]; simp), hg, hp]
theorem get_two (h : t.waits who = false) (hg : t.words = x :: r) (hp : t.puts = p :: q) : t.get who = (x, true, p.who, true, { t with words := r ++ [p.x], puts := q }) := by unfold Tub.get; rw [if_neg (by rw [h]; simp), hg, hp]
end
theorem cons_of {α : Type} {l : List α} (h : ¬ l.length = 0) : ∃ x r, l = x :: r := by
  cases l with
  | nil => exact absurd rfl h
  | cons x r => exact ⟨x, r, rfl⟩
theorem nil_of {α : Type} {l : List α} (h : l.length = 0) : l = [] := List.eq_nil_of_length_eq_zero h
section
variable {d : Dsk} {r : Rqs} {k : Int}
theorem ask_arg (h : (decide (r.block < 0) || decide ((d.blocks.length : Int) ≤ r.block)) = true) : d.ask r = (1, d) := by unfold Dsk.ask; rw [if_pos (by simpa using h)]
theorem ask_busy (h : (decide (r.block < 0) || decide ((d.blocks.length : Int) ≤ r.block)) = false) (h2 : d.wait.any (fun x => decide (x.who = r.who)) = true) : d.ask r = (4, d) := by unfold Dsk.ask; rw [if_neg (by simpa using h), if_pos h2]
theorem ask_go (h : (decide (r.block < 0) || decide ((d.blocks.length : Int) ≤ r.block)) = false) (h2 : d.wait.any (fun x => decide (x.who = r.who)) = false) : d.ask r = (0, { d with wait := d.wait ++ [r] }) := by unfold Dsk.ask; rw [if_neg (by simpa using h), if_neg (by rw [h2]; simp)]
def rqsZ : Rqs := ⟨0, 0, false, 0⟩
theorem done_none (h : d.wait.length = 0) : d.done k = (⟨0, 0, false, 0⟩, 0, false, d) := by unfold Dsk.done; rw [if_pos h]
theorem done_write (h : ¬ d.wait.length = 0) (hr : d.wait.getD (pick k d.wait.length) rqsZ = r) (hw : r.write = true) : d.done k = (r, 0, true, { d with wait := d.wait.eraseIdx (pick k d.wait.length), blocks := d.blocks.set r.block.toNat r.x }) := by
  subst hr; unfold rqsZ at *; unfold Dsk.done; rw [if_neg h]; simp only; rw [if_pos hw]
theorem done_read (h : ¬ d.wait.length = 0) (hr : d.wait.getD (pick k d.wait.length) rqsZ = r) (hw : r.write = false) : d.done k = (r, d.blocks.getD r.block.toNat 0, true, { d with wait := d.wait.eraseIdx (pick k d.wait.length) }) := by
  subst hr; unfold rqsZ at *; unfold Dsk.done; rw [if_neg h]; simp only; rw [if_neg (by rw [hw]; simp)]
end
end Go.SLYtnceicnimongcaaGreat
namespace Go.SLYtnceicnimongcaaGreat
open Go Go.RowKit

def dngC (b p : Nat) (d : Dng) (vw ve : Value) : List Value := [ptr b, .int .i64 (d.n : Int), ptr p, .int .i64 d.i.op, .int .i64 d.i.a, .int .i64 d.i.b, .int .i64 d.i.c, .int .u64 d.i.n, .int .i64 d.choice, vw, .bool d.out.stopped, .bool d.out.ended, .bool d.out.yielded, ve]
def dngX (bd b p : Nat) (ps : List (Option Nat)) (d : Dng) : HProp := exP2 (fun _ _ => True) fun vw ve => [arr bd 0 (dngC b p d vw ve), sl intE 1 vw d.out.woken, sl recE 6 ve d.ends, spcX b ps d.s]
def dngY (bd b p : Nat) (d : Dng) : HProp := exP1 (fun _ => True) fun ps => [dngX bd b p ps d]
def effE (v : Value) (e : Eff) : List Value := [v, .bool e.stopped, .bool e.ended, .bool e.yielded]

theorem thrs_out {ps : List (Option Nat)} {ts : List (Option Thr)} {n p : Nat} {t : Thr} (hp : ps[n]? = some (some p)) (ht : ts[n]? = some (some t)) : ∀ h, thrsH ps ts h → seps [arr p 0 (thrC t), thrsH (ps.set n none) (ts.set n none)] h := fun h a => by
  obtain ⟨q, hq, a'⟩ := thrs_get ht h a
  rw [hp] at hq; cases hq
  exact sep2.2 a'
theorem thrs_keep {ps : List (Option Nat)} {ts : List (Option Thr)} {n p : Nat} {t : Thr} (hp : ps[n]? = some (some p)) (ht : ts[n]? = some (some t)) : ∀ h, seps [arr p 0 (thrC t), thrsH (ps.set n none) (ts.set n none)] h → thrsH ps ts h := fun h a => by
  have := thrs_shut (List.getElem?_eq_some_iff.1 ht).1 hp h a
  rwa [set_same ht] at this
theorem thr_get {t : Thr} : ∀ {n : Nat} (_ : n < 8), (thrC t)[2 + n * 1]? = some (.int .u64 (t.regs.getD n 0))
  | 0, _ => rfl
  | 1, _ => rfl
  | 2, _ => rfl
  | 3, _ => rfl
  | 4, _ => rfl
  | 5, _ => rfl
  | 6, _ => rfl
  | 7, _ => rfl
  | n + 8, h => absurd h (by omega)
theorem thr_set' {fn pc handle why value joiner op into : Int} {det : Bool} {a0 a1 a2 a3 a4 a5 a6 a7 : Int} (x : Int) : ∀ {n : Nat} (_ : n < 8), (thrC ⟨fn, pc, [a0, a1, a2, a3, a4, a5, a6, a7], handle, why, value, det, joiner, op, into⟩).set (2 + n * 1) (.int .u64 x) = thrC ⟨fn, pc, [a0, a1, a2, a3, a4, a5, a6, a7].set n x, handle, why, value, det, joiner, op, into⟩
  | 0, _ => rfl
  | 1, _ => rfl
  | 2, _ => rfl
  | 3, _ => rfl
  | 4, _ => rfl
  | 5, _ => rfl
  | 6, _ => rfl
  | 7, _ => rfl
  | n + 8, h => absurd h (by omega)
theorem thr_set {t : Thr} (x : Int) {n : Nat} (hn : n < 8) (hl : t.regs.length = 8) : (thrC t).set (2 + n * 1) (.int .u64 x) = thrC (t.put (n : Int) x) := by
  obtain ⟨fn, pc, regs, handle, why, value, det, joiner, op, into⟩ := t
  match regs, hl with
  | [a0, a1, a2, a3, a4, a5, a6, a7], _ => exact thr_set' x hn
theorem thr_setI {t : Thr} (x : Int) {i : Int} (h0 : 0 ≤ i) (hn : i < 8) (hl : t.regs.length = 8) : (thrC t).set (2 + i.toNat * 1) (.int .u64 x) = thrC (t.put i x) := by
  rw [thr_set x (by omega) hl, show ((i.toNat : Nat) : Int) = i from by omega]
theorem thr_why (t : Thr) (x : Int) : (thrC t).set 11 (.int .i64 x) = thrC { t with why := x } := rfl
theorem thr_value (t : Thr) (x : Int) : (thrC t).set 12 (.int .u64 x) = thrC { t with value := x } := rfl
theorem thr_det (t : Thr) (x : Bool) : (thrC t).set 13 (.bool x) = thrC { t with detached := x } := rfl
theorem thr_joiner (t : Thr) (x : Int) : (thrC t).set 14 (.int .i64 x) = thrC { t with joiner := x } := rfl
theorem thr_op (t : Thr) (x : Int) : (thrC t).set 15 (.int .i64 x) = thrC { t with op := x } := rfl
theorem thr_into (t : Thr) (x : Int) : (thrC t).set 16 (.int .i64 x) = thrC { t with into := x } := rfl
theorem put_len {t : Thr} {i x : Int} : (t.put i x).regs.length = t.regs.length := by unfold Thr.put; simp
section
variable {fv sv pv : Value} {p : Prg} {bt : Nat} {ps : List (Option Nat)} {vm : Value} {bg : Nat} {vt : Value} {bk bw : Nat} {vr u : Value}
theorem spc_recs : (spcC fv sv pv p bt ps vm bg vt bk bw vr).set 30 u = spcC fv sv pv p bt ps vm bg vt bk bw u := rfl
theorem spc_mem : (spcC fv sv pv p bt ps vm bg vt bk bw vr).set 25 u = spcC fv sv pv p bt ps u bg vt bk bw vr := rfl
end
structure ThrR (t : Thr) : Prop where
  l : t.regs.length = 8
  r : ∀ n, 0 ≤ t.regs.getD n 0 ∧ t.regs.getD n 0 ≤ 18446744073709551615
  i : -1 ≤ t.into ∧ t.into < 8
  v : 0 ≤ t.value ∧ t.value ≤ 18446744073709551615
  h : 0 ≤ t.handle ∧ t.handle ≤ 18446744073709551615
theorem spc_t {s : Spc} {n : Nat} {t : Thr} (h : s.thr[n]? = some (some t)) : s.t n = t := by unfold Spc.t; rw [List.getD_eq_getElem?_getD, h]; rfl
theorem dng_t {d : Dng} {t : Thr} (h : d.s.thr[d.n]? = some (some t)) : d.t = t := spc_t h
def atP (ps : List (Option Nat)) (n : Int) : Option Nat := if 0 ≤ n ∧ n < 16 then ps.getD n.toNat none else none
theorem wake_eq {t : Thr} {y : Int} (t1 : Thr) (h : t1 = if t.into = -1 then t else t.put t.into y) : t.wakes y = { t1.put 7 0 with why := 0, into := -1 } := by unfold Thr.wakes; rw [h]
section
variable {P : Program} {W : World} {N : Nat} {T : TypeId} {L : List (Nat × Option Value)} {H : List HProp} {α : Type}
theorem Does.staS {E : TypeId} {x y : Operand} {pos : String} {after : Array Edge} {guard : Option (Nat × Bool)} {b o : Nat} {v : Value} {vs cs : List Value} {H' : List HProp} {enc : α → List Value} {k : Nat} {xs : List α} (hz : ∀ w, (sizeOf E).run P w = .ok (vs.length + 1) w) (hx : ev L x = some (.pointer (some ⟨b, o, none⟩))) (hy : ev L y = some (.agg (v :: vs).toArray)) [hv : ReadsC W H v enc k xs] (hvs : vs.all (·.oneCell') = true)
    [_h0 : HasArr H b o cs] [hr : SetArr H b o cs (v :: vs) H'] (hi : cs.length = vs.length + 1) :
    Does P W N ⟨none, .store E x y, T, pos, after, guard⟩ L H (fun L1 H1 => L1 = L ∧ H1 = H') := fun a w ha hs Kp hK => Does.storeAll hx hy hz (fun c hc => by
      rcases List.mem_cons.1 hc with rfl | hc
      · exact hv.rd.one w hs
      · exact List.all_eq_true.1 hvs c hc) hr.repl hi a w ha hs Kp hK
end
end Go.SLYtnceicnimongcaaGreat
namespace Go.SLYtnceicnimongcaaGreat
open Go Go.RowKit

def LiveAt (ps : List (Option Nat)) (s : Spc) (n : Nat) : Prop := n < 16 ∧ ∃ q t, ps[n]? = some (some q) ∧ s.thr[n]? = some (some t) ∧ ThrR t
theorem dng_ended {b p : Nat} {d : Dng} {vw ve : Value} : (dngC b p d vw ve).set 11 (.bool true) = dngC b p d.ended vw ve := rfl
theorem dng_yld {b p : Nat} {d : Dng} {vw ve : Value} : (dngC b p d vw ve).set 12 (.bool true) = dngC b p { d with out := { d.out with yielded := true } } vw ve := rfl
theorem setT_thr {s : Spc} {n m : Nat} {t t' : Thr} (h : s.thr[m]? = some (some t)) (hne : n ≠ m) : (s.setT n t').thr[m]? = some (some t) := by
  unfold Spc.setT; simp only; rw [List.getElem?_set_ne hne]; exact h
theorem setT_same {s : Spc} {n : Nat} {t t' : Thr} (h : s.thr[n]? = some (some t)) : (s.setT n t').thr[n]? = some (some t') := by
  unfold Spc.setT; simp only; exact List.getElem?_set_self (List.getElem?_eq_some_iff.1 h).1
theorem goes_thr {d : Dng} {n : Nat} {y : Int} {m : Nat} {t : Thr} (h : d.s.thr[m]? = some (some t)) (hne : n ≠ m) : (d.goes n y).s.thr[m]? = some (some t) := setT_thr h hne
theorem fin_det {d : Dng} {t : Thr} {v : Int} (ht : d.s.thr[d.n]? = some (some t)) (h : t.detached = true) : d.fin v = d.ended.free d.n := by
  unfold Dng.fin; rw [dng_t ht, if_pos h]
theorem fin_none {d : Dng} {t : Thr} {v : Int} (ht : d.s.thr[d.n]? = some (some t)) (h : t.detached = false) (hj : t.joiner = -1) : d.fin v = d.ended.setT { t with why := 9, value := v } := by
  unfold Dng.fin; rw [dng_t ht, if_neg (by rw [h]; simp), if_pos hj]
theorem fin_join {d : Dng} {t : Thr} {v : Int} (ht : d.s.thr[d.n]? = some (some t)) (h : t.detached = false) (hj : ¬ t.joiner = -1) : d.fin v = (d.ended.goes t.joiner.toNat v).free d.n := by
  unfold Dng.fin; rw [dng_t ht, if_neg (by rw [h]; simp), if_neg hj]
theorem thr_setF {t : Thr} {f : Frm} : setFrom (thrC t) 0 (frmE f) = thrC (t.setF f) := rfl
theorem plain_some {f : Frm} {m : List Int} {i : Ins} {z : Frm × List Int} (h : doI f m i = some z) : plainR f m i = (z.1, z.2, 0) := by unfold plainR; rw [h]
theorem plain_none {f : Frm} {m : List Int} {i : Ins} (h : doI f m i = none) : plainR f m i = (Frm.z, [], 6) := by unfold plainR; rw [h]
theorem plain_zero {f : Frm} {m : List Int} {i : Ins} (h : (plainR f m i).2.2 = 0) : ∃ z, doI f m i = some z := by
  unfold plainR at h
  cases e : doI f m i with
  | none => rw [e] at h; cases h
  | some z => exact ⟨z, rfl⟩
theorem plain_six {f : Frm} {m : List Int} {i : Ins} (h : ¬ (plainR f m i).2.2 = 0) : doI f m i = none := by
  cases e : doI f m i with
  | none => rfl
  | some z => rw [plain_some e] at h; exact absurd rfl h
theorem doI_none {f : Frm} {m : List Int} {i : Ins} (h : doI f m i = none) : i.op = 18 ∨ i.op = 19 := by
  unfold doI at h
  repeat' split at h
  all_goals first | (cases h; done) | omega
theorem doI_load {f : Frm} {m : List Int} {i : Ins} {z : Frm × List Int} (h : doI f m i = some z) (ho : i.op = 18) : f.reg i.b < m.length := by
  unfold doI at h
  rw [if_neg (by omega), if_neg (by omega), if_neg (by omega), if_pos ho] at h
  split at h
  · assumption
  · cases h
def Dng.told (d : Dng) : Dng := if d.i.op = 18 then d.tell d.b (d.s.mem.getD d.b.toNat 0) 0 true else if d.i.op = 19 then d.tell d.a d.b 0 true else d
theorem dplain_some {d : Dng} {t : Thr} {z : Frm × List Int} (ht : d.s.thr[d.n]? = some (some t)) (h : doI t.frm d.s.mem d.i = some z) : d.plain = { d.told with s := { d.told.s.setT d.n (t.setF z.1) with mem := z.2 } } := by
  unfold Dng.plain; rw [dng_t ht, h]; rfl
theorem dplain_none {d : Dng} {t : Thr} (ht : d.s.thr[d.n]? = some (some t)) (h : doI t.frm d.s.mem d.i = none) : d.plain = (if d.i.op = 18 then d.tell d.b 0 6 true else d.tell d.a d.b 6 true).fin 18446744073709551615 := by
  unfold Dng.plain; rw [dng_t ht, h]
theorem other_no {d : Dng} {h : Int} (e : slotFind d.s.table h = none) : d.other h = (0, 3) := by unfold Dng.other; rw [e]
theorem other_self {d : Dng} {h : Int} {n : Nat} {t : Thr} (e : slotFind d.s.table h = some n) (ht : d.s.thr[n]? = some (some t)) (hn : n = d.n ∨ t.detached = true) : d.other h = (0, 3) := by unfold Dng.other; rw [e]; simp only; rw [spc_t ht, if_pos hn]
theorem other_ok {d : Dng} {h : Int} {n : Nat} {t : Thr} (e : slotFind d.s.table h = some n) (ht : d.s.thr[n]? = some (some t)) (hn : ¬ (n = d.n ∨ t.detached = true)) (hj : t.joiner = -1) : d.other h = (n, 0) := by unfold Dng.other; rw [e]; simp only; rw [spc_t ht, if_neg hn, if_pos hj]
theorem other_join {d : Dng} {h : Int} {n : Nat} {t : Thr} (e : slotFind d.s.table h = some n) (ht : d.s.thr[n]? = some (some t)) (hn : ¬ (n = d.n ∨ t.detached = true)) (hj : ¬ t.joiner = -1) : d.other h = (0, 4) := by unfold Dng.other; rw [e]; simp only; rw [spc_t ht, if_neg hn, if_neg hj]
section
variable {P : Program} {W : World} {N : Nat} {Q : Exit → Act → World → Prop} {O : Array Oper} {L : List (Nat × Option Value)} {H K : List HProp}
theorem GoF.sta2 {ks rest : List Nat} {i : Nat} {E T : TypeId} {x y : Operand} {pos : String} {after : Array Edge} {b o : Nat} {vs cs : List Value} {H' : List HProp} (ho : O[i]? = some ⟨none, .store E x y, T, pos, after, none⟩) (hk : ks.getD i 1 = 2)
    (hz : ∀ w, (sizeOf E).run P w = .ok vs.length w) (hx : ev L x = some (.pointer (some ⟨b, o, none⟩))) (hy : ev L y = some (.agg vs.toArray)) (hv : vs.all (·.oneCell') = true) [_h0 : HasArr H b o cs] [hr : SetArr H b o cs vs H'] (hi : cs.length = vs.length)
    (hK : ∀ w, Sat W w (seps H) → Sat W w (seps K)) (hK' : ∀ w, Sat W w (seps H') → Sat W w (seps K)) (h : GoF P W N K O Q ks rest L H') : GoF P W N K O Q ks (i :: rest) L H :=
  GoF.d (X := Unit) (Lx := fun _ => L) (Hx := fun _ => H') ho rfl (.inl hk) (fun _ => hK) (fun E => (by
    intro a w ha hs Kp hK
    exact Does.storeAll hx hy hz (List.all_eq_true.1 hv) (Repl.app E hr.repl) hi a w ha hs Kp (fun L1 H1 ⟨e1, e2⟩ => hK L1 H1 ⟨(), e1, e2⟩))) (fun _ _ => hK') (fun _ => h)
end
end Go.SLYtnceicnimongcaaGreat
