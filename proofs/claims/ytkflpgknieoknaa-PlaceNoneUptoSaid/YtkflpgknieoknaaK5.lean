/- Small facts for the walks of a space. Conditions: none, this text proves no statement. -/
import Derived.Test.YtkflpgknieoknaaK4
import Derived.Test.YtkflpgknieoknaaSLp
namespace Go.SLYtkflpgknieoknaa
open Go Go.RowKit

theorem Ent.all0 {α : Type} {H R As : List HProp} {f : α → HProp} (t : Ent H As R) : Ent H (allH f [] :: As) R := .conv (A := seps []) (fun _ e => e) (.grp .nil t)
theorem allH_void {α : Type} {f : α → HProp} {n : Nat} {x : α} (h : ∀ h, emp h → f x h) : ∀ h, emp h → allH f (List.replicate n x) h := by
  induction n with
  | zero => intro h e; exact e
  | succ n ih =>
    intro g e
    rw [List.replicate_succ, allH_cons]
    have : sep emp emp g := by rw [emp_sep]; exact e
    exact sep_mono h ih g this
theorem Ent.allV {α : Type} {H R As : List HProp} {f : α → HProp} {n : Nat} {x : α} (h : ∀ h, emp h → f x h) (t : Ent H As R) : Ent H (allH f (List.replicate n x) :: As) R := .conv (A := seps []) (allH_void h) (.grp .nil t)
theorem sl_void {α : Type} {enc : α → List Value} {k : Nat} {a : Option Addr} : ∀ h, emp h → sl enc k (.slice a 0 0) ([] : List α) h := fun _ e => .inl ⟨⟨_, rfl⟩, rfl, e⟩

def Same (ps : List (Option Nat)) (ts : List (Option Thr)) : Prop := ps.length = ts.length ∧ (∀ (n : Nat) (t : Thr), ts[n]? = some (some t) → ∃ p, ps[n]? = some (some p)) ∧ ∀ n : Nat, ts[n]? = some none → ps[n]? = some none
/-- What threads' slots and their blocks have in common. -/
theorem thrs_same {ps : List (Option Nat)} {ts : List (Option Thr)} : ∀ h, thrsH ps ts h → Same ps ts := fun h a =>
  ⟨thrs_len a, fun n t e => let ⟨p, hp, _⟩ := thrs_get e h a; ⟨p, hp⟩, fun n e => thrs_none e h a⟩
theorem thrs_cell {ps : List (Option Nat)} {ts : List (Option Thr)} {n p : Nat} {t : Thr} (hp : ps[n]? = some (some p)) (ht : ts[n]? = some (some t)) : ∀ h, thrsH ps ts h → ∃ J, sep (arr p 0 (thrC t)) J h := fun h a => by
  obtain ⟨q, hq, a'⟩ := thrs_get ht h a
  rw [hp] at hq
  cases hq
  exact ⟨_, a'⟩
def ptrs (ps : List (Option Nat)) : List Value :=
  [ptrO (ps.getD 0 none), ptrO (ps.getD 1 none), ptrO (ps.getD 2 none), ptrO (ps.getD 3 none), ptrO (ps.getD 4 none), ptrO (ps.getD 5 none), ptrO (ps.getD 6 none), ptrO (ps.getD 7 none),
    ptrO (ps.getD 8 none), ptrO (ps.getD 9 none), ptrO (ps.getD 10 none), ptrO (ps.getD 11 none), ptrO (ps.getD 12 none), ptrO (ps.getD 13 none), ptrO (ps.getD 14 none), ptrO (ps.getD 15 none)]
theorem ptrs_get (ps : List (Option Nat)) : ∀ {n : Nat} (_ : n < 16), (ptrs ps)[n]? = some (ptrO (ps.getD n none))
  | 0, _ => rfl
  | 1, _ => rfl
  | 2, _ => rfl
  | 3, _ => rfl
  | 4, _ => rfl
  | 5, _ => rfl
  | 6, _ => rfl
  | 7, _ => rfl
  | 8, _ => rfl
  | 9, _ => rfl
  | 10, _ => rfl
  | 11, _ => rfl
  | 12, _ => rfl
  | 13, _ => rfl
  | 14, _ => rfl
  | 15, _ => rfl
  | n + 16, h => absurd h (by omega)
section
variable {fv sv pv : Value} {p : Prg} {bt : Nat} {ps : List (Option Nat)} {vm : Value} {bg : Nat} {vt : Value} {bd bw : Nat} {vr : Value}
theorem spcC_get : ∀ {n : Nat} (_ : n < 16), (spcC fv sv pv p bt ps vm bg vt bd bw vr)[9 + n]? = some (ptrO (ps.getD n none))
  | 0, _ => rfl
  | 1, _ => rfl
  | 2, _ => rfl
  | 3, _ => rfl
  | 4, _ => rfl
  | 5, _ => rfl
  | 6, _ => rfl
  | 7, _ => rfl
  | 8, _ => rfl
  | 9, _ => rfl
  | 10, _ => rfl
  | 11, _ => rfl
  | 12, _ => rfl
  | 13, _ => rfl
  | 14, _ => rfl
  | 15, _ => rfl
  | n + 16, h => absurd h (by omega)
theorem spcC_set' {a0 a1 a2 a3 a4 a5 a6 a7 a8 a9 a10 a11 a12 a13 a14 a15 : Option Nat} (q : Option Nat) : ∀ {n : Nat} (_ : n < 16), (spcC fv sv pv p bt [a0, a1, a2, a3, a4, a5, a6, a7, a8, a9, a10, a11, a12, a13, a14, a15] vm bg vt bd bw vr).set (9 + n) (ptrO q) = spcC fv sv pv p bt ([a0, a1, a2, a3, a4, a5, a6, a7, a8, a9, a10, a11, a12, a13, a14, a15].set n q) vm bg vt bd bw vr
  | 0, _ => rfl
  | 1, _ => rfl
  | 2, _ => rfl
  | 3, _ => rfl
  | 4, _ => rfl
  | 5, _ => rfl
  | 6, _ => rfl
  | 7, _ => rfl
  | 8, _ => rfl
  | 9, _ => rfl
  | 10, _ => rfl
  | 11, _ => rfl
  | 12, _ => rfl
  | 13, _ => rfl
  | 14, _ => rfl
  | 15, _ => rfl
  | n + 16, h => absurd h (by omega)
theorem spcC_set {n : Nat} (h : n < 16) (hl : ps.length = 16) (q : Option Nat) : (spcC fv sv pv p bt ps vm bg vt bd bw vr).set (9 + n) (ptrO q) = spcC fv sv pv p bt (ps.set n q) vm bg vt bd bw vr := by
  match ps, hl with
  | [a0, a1, a2, a3, a4, a5, a6, a7, a8, a9, a10, a11, a12, a13, a14, a15], _ => exact spcC_set' q h
end
/-! slots -/
def slotTake (l : List (Bool × Int)) : Int × Int × Int × List (Bool × Int) :=
  match slotFree? l 0 with
  | none => (0, 0, 2, l)
  | some n => ((n : Int), slotH ((l.getD n (false, 0)).2 + 1) n, 0, l.set n (true, (l.getD n (false, 0)).2 + 1))
theorem slot_skip {l : List (Bool × Int)} {k : Nat} {o : Bool × Int} (h : l[k]? = some o) (hu : o.1 = true) : slotFree? (l.drop k) k = slotFree? (l.drop (k + 1)) (k + 1) := by rw [drop_cons h, slotFree?, if_pos hu]
theorem slot_hit {l : List (Bool × Int)} {k : Nat} {o : Bool × Int} (h : l[k]? = some o) (hu : o.1 = false) : slotFree? (l.drop k) k = some k := by rw [drop_cons h, slotFree?, if_neg (by rw [hu]; simp)]
theorem slot_end {l : List (Bool × Int)} {k : Nat} (h : l.length ≤ k) : slotFree? (l.drop k) k = none := by rw [List.drop_of_length_le h]; rfl
def TakeOk (l : List (Bool × Int)) : Prop := l.length ≤ 1024 ∧ ∀ o ∈ l, 0 ≤ o.2 ∧ o.2 < 1099511627776
def psBegin (l : List (Bool × Int)) (ps : List (Option Nat)) (p : Nat) : List (Option Nat) := match slotFree? l 0 with | none => ps | some n => ps.set n (some p)
theorem ready_none {l : List (Option Thr)} {k : Nat} (h : l[k]? = some none) : readyFrom (l.drop k) k = readyFrom (l.drop (k + 1)) (k + 1) := by rw [drop_cons h, readyFrom]
theorem ready_yes {l : List (Option Thr)} {k : Nat} {t : Thr} (h : l[k]? = some (some t)) (hw : t.why = 0) : readyFrom (l.drop k) k = (k : Int) :: readyFrom (l.drop (k + 1)) (k + 1) := by rw [drop_cons h, readyFrom, if_pos hw]
theorem ready_no {l : List (Option Thr)} {k : Nat} {t : Thr} (h : l[k]? = some (some t)) (hw : ¬ t.why = 0) : readyFrom (l.drop k) k = readyFrom (l.drop (k + 1)) (k + 1) := by rw [drop_cons h, readyFrom, if_neg hw]
theorem ready_end {l : List (Option Thr)} {k : Nat} (h : l.length ≤ k) : readyFrom (l.drop k) k = [] := by rw [List.drop_of_length_le h]; rfl
theorem slotTake_ok {l : List (Bool × Int)} (h : (slotTake l).2.2.1 = 0) : ∃ n, slotFree? l 0 = some n ∧ slotTake l = ((n : Int), slotH ((l.getD n (false, 0)).2 + 1) n, 0, l.set n (true, (l.getD n (false, 0)).2 + 1)) := by
  unfold slotTake at *
  cases e : slotFree? l 0 with
  | none => rw [e] at h; cases h
  | some n => exact ⟨n, rfl, rfl⟩
theorem slotTake_no {l : List (Bool × Int)} (h : ¬ (slotTake l).2.2.1 = 0) : slotFree? l 0 = none ∧ slotTake l = (0, 0, 2, l) := by
  unfold slotTake at *
  cases e : slotFree? l 0 with
  | none => exact ⟨rfl, rfl⟩
  | some n => rw [e] at h; exact absurd rfl h
theorem begin_ok {s : Spc} {f arg : Int} {n : Nat} (h : slotFree? s.table 0 = some n) : s.begin f arg = ((n : Int), 0, { s with table := s.table.set n (true, (s.table.getD n (false, 0)).2 + 1), thr := s.thr.set n (some (thr0 f arg (slotH ((s.table.getD n (false, 0)).2 + 1) n))) }) := by
  unfold Spc.begin; rw [h]
theorem begin_no {s : Spc} {f arg : Int} (h : slotFree? s.table 0 = none) : s.begin f arg = (0, 2, s) := by unfold Spc.begin; rw [h]
theorem thrs_new {ps : List (Option Nat)} {ts : List (Option Thr)} {n p : Nat} {t : Thr} (h : ts[n]? = some none) : ∀ g, seps [arr p 0 (thrC t), thrsH ps ts] g → thrsH (ps.set n (some p)) (ts.set n (some t)) g := fun g a => thrs_put h g (by simpa only [seps, sep_emp] using a)
def whyAt (ts : List (Option Thr)) (k : Nat) : Int := match ts[k]? with | some (some t) => t.why | _ => 0
theorem why_at {ts : List (Option Thr)} {k : Nat} {t : Thr} (h : ts[k]? = some (some t)) : t.why = whyAt ts k := by unfold whyAt; rw [h]
theorem same_some {ps : List (Option Nat)} {ts : List (Option Thr)} (hs : Same ps ts) {k : Nat} (hk : k < ts.length) {g : Nat → Addr} (h : ((ps.getD k none).map g).isNone = false) : ∃ p t, ps[k]? = some (some p) ∧ ts[k]? = some (some t) := by
  obtain ⟨x, hx⟩ := at_some hk
  cases x with
  | none => have := hs.2.2 k hx; rw [List.getD_eq_getElem?_getD, this] at h; cases h
  | some t => obtain ⟨p, hp⟩ := hs.2.1 k t hx; exact ⟨p, t, hp, hx⟩
theorem getD_of {α : Type} {l : List α} {k : Nat} {x d : α} (h : l[k]? = some x) : l.getD k d = x := by rw [List.getD_eq_getElem?_getD, h]; rfl
theorem rdy_yes {ps : List (Option Nat)} {ts : List (Option Thr)} (hs : Same ps ts) {k : Nat} (hk : k < ts.length) {g : Nat → Addr} (h : ((ps.getD k none).map g).isNone = false ∧ whyAt ts k = 0) : readyFrom (ts.drop k) k = (k : Int) :: readyFrom (ts.drop (k + 1)) (k + 1) := by
  obtain ⟨p, t, hp, ht⟩ := same_some hs hk h.1
  exact ready_yes ht ((why_at ht).trans h.2)
theorem rdy_no {ps : List (Option Nat)} {ts : List (Option Thr)} (hs : Same ps ts) {k : Nat} (hk : k < ts.length) {g : Nat → Addr} (h : ((ps.getD k none).map g).isNone = true ∨ ¬ whyAt ts k = 0) : readyFrom (ts.drop k) k = readyFrom (ts.drop (k + 1)) (k + 1) := by
  obtain ⟨x, hx⟩ := at_some hk
  cases x with
  | none => exact ready_none hx
  | some t =>
    obtain ⟨p, hp⟩ := hs.2.1 k t hx
    rcases h with h | h
    · rw [getD_of hp] at h; cases h
    · exact ready_no hx (fun e => h (by rw [← why_at hx]; exact e))
theorem ready_len : ∀ (l : List (Option Thr)) (k : Nat), (readyFrom l k).length ≤ l.length
  | [], _ => Nat.le_refl _
  | none :: l, k => Nat.le_succ_of_le (ready_len l (k + 1))
  | some t :: l, k => by
    rw [readyFrom]
    split
    · simpa using ready_len l (k + 1)
    · exact Nat.le_succ_of_le (ready_len l (k + 1))
theorem gates_sems {l : List Int} {k : Nat} {n : Int} (h : (l.take 4)[k]? = some n) : ((l.take 4).take (k + 1)).map (fun n => ((Value.slice none 0 0 : Value), (⟨[], clamp n 1048576⟩ : Smp))) = ((l.take 4).take k).map (fun n => ((Value.slice none 0 0 : Value), (⟨[], clamp n 1048576⟩ : Smp))) ++ [(Value.slice none 0 0, ⟨[], clamp n 1048576⟩)] := by
  rw [take_snoc h, List.map_append]; rfl
theorem allH_map_void {α β : Type} {f : β → HProp} {g : α → β} {l : List α} (h : ∀ x h, emp h → f (g x) h) : ∀ h, emp h → allH f (l.map g) h := by
  induction l with
  | nil => intro h e; exact e
  | cons x l ih =>
    intro k e
    rw [List.map_cons, allH_cons]
    have : sep emp emp k := by rw [emp_sep]; exact e
    exact sep_mono (h x) ih k this
theorem Ent.allM {α β : Type} {H R As : List HProp} {f : β → HProp} {g : α → β} {l : List α} (h : ∀ x h, emp h → f (g x) h) (t : Ent H As R) : Ent H (allH f (l.map g) :: As) R := .conv (A := seps []) (allH_map_void h) (.grp .nil t)
/-- A thing, or nothing, at what may be a place. -/
@[irreducible] def optH (f : Nat → HProp) (o : Option Nat) : HProp := match o with
  | none => emp
  | some b => f b
theorem Ent.opt0 {H R As : List HProp} {f : Nat → HProp} (t : Ent H As R) : Ent H (optH f none :: As) R := .conv (A := seps []) (fun _ e => by unfold optH; exact e) (.grp .nil t)
theorem Ent.opt1 {H R As : List HProp} {f : Nat → HProp} {b : Nat} (t : Ent H (f b :: As) R) : Ent H (optH f (some b) :: As) R := .conv (A := f b) (fun _ e => by unfold optH; exact e) t
theorem opt_some {f : Nat → HProp} {b : Nat} : ∀ h, optH f (some b) h → seps [f b] h := fun h a => by unfold optH at a; simpa only [seps, sep_emp] using a
theorem Ent.thr0 {H R As : List HProp} (t : Ent H As R) : Ent H (thrsH (List.replicate 16 none) (List.replicate 16 none) :: As) R := .conv (A := seps []) (fun _ e => e) (.grp .nil t)
theorem check_caps {p : Prg} (h : checkI p = 0) : capsI p = true := by
  unfold checkI at h
  by_cases hc : capsI p = true
  · exact hc
  · rw [if_neg hc] at h; cases h
theorem check_sound {p : Prg} (h : checkI p = 0) : p.funcs.all (fun f => f.all (soundI p)) = true := by
  have hc := check_caps h
  unfold checkI at h
  rw [if_pos hc] at h
  by_cases hs : p.funcs.all (fun f => f.all (soundI p)) = true
  · exact hs
  · rw [if_neg hs] at h; cases h
theorem prg_one {W : World} {H : List HProp} {A : HProp} {v : PrgV} (hp : PrgRd W [A] v) (ha : At H A) : ∀ w, Sat W w (seps H) → ∀ y ∈ v.fs, ∀ c ∈ fstE y, c.oneCell' = true := fun w s y hy c hc => by
  simp only [fstE, List.mem_cons, List.not_mem_nil, or_false] at hc
  subst hc
  exact ((hp.ins y hy).at ha).one w s
def spc0 (p : Prg) : Spc := ⟨p, List.replicate 16 (false, 0), List.replicate 16 none, List.replicate p.words.toNat 0, Gates.new p.mutexes p.conds p.sems, p.pipes.map Tub.new, Dsk.new p.blocks, Whl.new, []⟩
theorem spc0_take (p : Prg) : TakeOk (spc0 p).table := ⟨by show (List.replicate 16 (false, (0 : Int))).length ≤ 1024; simp, fun o ho => by rw [List.eq_of_mem_replicate ho]; simp⟩
theorem spc0_free (p : Prg) : ∀ n, slotFree? (spc0 p).table 0 = some n → (spc0 p).thr[n]? = some none := fun n h => by
  have : n = 0 := by simpa [spc0, slotFree?] using h.symm
  subst this; rfl
theorem new_eq (p : Prg) : Spc.new p = ((spc0 p).begin 0 0).2.2 := rfl
theorem fs_step {α : Type} {cl fs : List α} {k : Nat} {x y : α} (hl : cl.length = k) (hx : fs[k]? = some x) : (cl ++ fs.drop k).set k y = (cl ++ [y]) ++ fs.drop (k + 1) := by
  subst hl
  rw [drop_cons hx, List.set_append_right _ _ (Nat.le_refl _)]
  simp
theorem fs_get {α : Type} {cl fs : List α} {k : Nat} {x : α} (hl : cl.length = k) (hx : fs[k]? = some x) : (cl ++ fs.drop k)[k]? = some x := by
  subst hl
  rw [drop_cons hx, List.getElem?_append_right (Nat.le_refl _)]
  simp
theorem Rd.isSl {W : World} {H : List HProp} {α : Type} {enc : α → List Value} {k : Nat} {v : Value} {xs : List α} (h : Rd W H enc k v xs) : ∀ w, Sat W w (seps H) → isSl v = true := fun w s => by
  obtain ⟨⟨a, cap, hv, _⟩, _⟩ := h w s
  rw [hv]; rfl
theorem keep_yes {l : List Ev} {k : Nat} {e : Ev} (h : l[k]? = some e) (hb : evRuns e = true ∨ 0 < e.mode) : evKeep (l.take (k + 1)) = evKeep (l.take k) ++ [e] := by
  rw [take_snoc h]; unfold evKeep; rw [List.filter_append]
  congr 1
  rw [List.filter_cons, if_pos (by simpa using hb)]; rfl
theorem keep_no {l : List Ev} {k : Nat} {e : Ev} (h : l[k]? = some e) (hb : evRuns e = false ∧ ¬ 0 < e.mode) : evKeep (l.take (k + 1)) = evKeep (l.take k) := by
  rw [take_snoc h]; unfold evKeep; rw [List.filter_append]
  have : (evRuns e || decide (0 < e.mode)) = false := by rw [hb.1]; simpa using hb.2
  simp [List.filter_cons, this]
theorem keep_len (l : List Ev) : (evKeep l).length ≤ l.length := List.length_filter_le _ _
theorem keep_len' (l : List Ev) (k : Nat) : (evKeep (l.take k)).length ≤ k := Nat.le_trans (keep_len _) (by rw [List.length_take]; omega)
def runsT (v : Vsl) : Int := if v.runs = true then v.thread else 0
def evT (e : Ev) : Int := if evRuns e = true then e.thread else 0
theorem strip_len (v : Vsl) : v.strip.length ≤ v.evs.length + 1 := by
  unfold Vsl.strip
  have := keep_len v.evs
  rw [List.length_append]
  split
  · simp; omega
  · split <;> simp <;> omega
theorem unb_snoc {l : List Int} {k : Nat} {n : Int} (h : l[k]? = some n) : unblocked (l.take (k + 1)) = unblocked (l.take k) ++ [⟨3, n, 0⟩] := by unfold unblocked; rw [take_snoc h, List.map_append]; rfl
/-! a library -/
def libIn (l : Lib) (p : Int) : Bool := decide (0 ≤ p) && decide (p < (l.vs.length : Int))
def modeAt (vs : List Vsl) (p : Int) : Int := (vs.getD p.toNat Vsl.z).mode
theorem lib_has (l : Lib) (p : Int) : l.has p = (libIn l p && decide (modeAt l.vs p ≠ 0)) := by
  unfold Lib.has libIn modeAt geti
  by_cases h : p < 0
  · simp [h]; omega
  · rw [if_neg h]
    by_cases h2 : p.toNat < l.vs.length
    · have e : l.vs[p.toNat]? = some l.vs[p.toNat] := by simp [h2]
      have d1 : decide (0 ≤ p) = true := decide_eq_true (by omega)
      have d2 : decide (p < (l.vs.length : Int)) = true := decide_eq_true (by omega)
      rw [e, getD_of e, d1, d2]; simp
    · have e : l.vs[p.toNat]? = none := by simp; omega
      have d2 : decide (p < (l.vs.length : Int)) = false := decide_eq_false (by omega)
      rw [e, d2]; simp
theorem map_len {α β : Type} {f : α → β} {xs : List α} {ys : List β} (h : xs.map f = ys) : xs.length = ys.length := by rw [← h, List.length_map]
theorem map_get {α β : Type} {f : α → β} {xs : List α} {ys : List β} (h : xs.map f = ys) {i : Nat} {x : α} (hx : xs[i]? = some x) : ys[i]? = some (f x) := by rw [← h, List.getElem?_map, hx]; rfl
theorem mode_at {vs : List Vsl} {i : Nat} {v : Vsl} (h : vs[i]? = some v) : v.mode = modeAt vs (i : Int) := by unfold modeAt; rw [Int.toNat_natCast, getD_of h]
theorem procs_yes {l : Lib} {k : Nat} (hk : k < l.vs.length) (h : l.has (k : Int) = true) : procsFrom (l.vs.drop k) k = (k : Int) :: procsFrom (l.vs.drop (k + 1)) (k + 1) := by
  obtain ⟨v, hv⟩ := at_some hk
  rw [lib_has, Bool.and_eq_true, decide_eq_true_eq, ← mode_at hv] at h
  rw [drop_cons hv, procsFrom, if_neg h.2]
theorem procs_no {l : Lib} {k : Nat} (hk : k < l.vs.length) (h : l.has (k : Int) = false) : procsFrom (l.vs.drop k) k = procsFrom (l.vs.drop (k + 1)) (k + 1) := by
  obtain ⟨v, hv⟩ := at_some hk
  have e : libIn l (k : Int) = true := by unfold libIn; simp [hk]
  rw [lib_has, e, Bool.true_and, decide_eq_false_iff_not, ← mode_at hv] at h
  rw [drop_cons hv, procsFrom, if_pos (Decidable.of_not_not h)]
theorem procs_end {vs : List Vsl} {k : Nat} (h : vs.length ≤ k) : procsFrom (vs.drop k) k = [] := by rw [List.drop_of_length_le h]; rfl
theorem procs_mem : ∀ (vs : List Vsl) (k : Nat) (p : Int), p ∈ procsFrom vs k → ∃ i v, p = ((k + i : Nat) : Int) ∧ vs[i]? = some v ∧ v.mode ≠ 0
  | [], k, p, h => by cases h
  | v :: vs, k, p, h => by
    rw [procsFrom] at h
    split at h
    · obtain ⟨i, u, e, hu, hm⟩ := procs_mem vs (k + 1) p h
      exact ⟨i + 1, u, by rw [e]; congr 1; omega, by simpa using hu, hm⟩
    · rename_i hm
      rcases List.mem_cons.1 h with h | h
      · exact ⟨0, v, h, rfl, hm⟩
      · obtain ⟨i, u, e, hu, hm⟩ := procs_mem vs (k + 1) p h
        exact ⟨i + 1, u, by rw [e]; congr 1; omega, by simpa using hu, hm⟩
theorem procs_head {l : Lib} {p : Int} {r : List Int} (h : l.procs = p :: r) : ∃ (i : Nat) (v : Vsl), p = (i : Int) ∧ l.vs[i]? = some v ∧ v.mode ≠ 0 := by
  obtain ⟨i, v, e, hv, hm⟩ := procs_mem l.vs 0 p (by show p ∈ l.procs; rw [h]; exact List.mem_cons_self ..)
  exact ⟨i, v, by rw [e]; congr 1; omega, hv, hm⟩
theorem procs_len : ∀ (vs : List Vsl) (k : Nat), (procsFrom vs k).length ≤ vs.length
  | [], _ => Nat.le_refl _
  | v :: vs, k => by
    rw [procsFrom]
    split
    · exact Nat.le_succ_of_le (procs_len vs (k + 1))
    · simpa using procs_len vs (k + 1)
end Go.SLYtkflpgknieoknaa
