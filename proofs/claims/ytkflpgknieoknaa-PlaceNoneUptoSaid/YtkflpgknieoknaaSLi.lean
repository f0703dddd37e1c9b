/- What is read of a call's arguments. Conditions: none, this text proves no statement. -/
import Derived.Test.YtkflpgknieoknaaSLh
import Derived.WalkKit
import Derived.ProofKit
import Derived.OpenShut
import Derived.JoinedCond
import Derived.Deep.Slices
import Derived.Carry
namespace Go.SLYtkflpgknieoknaa
open Go Go.RowKit Go.ChangeAt Go.ChangeShapes Go.Deep

section
variable {H : Type} {enc : TypeId × Value → H} {P : Program} {W : World} {bulk : DataW H → Nat}

structure BulkOk (bulk : DataW H → Nat) : Prop where
  one : ∀ d, 1 ≤ bulk d
  slice : ∀ es sp, (es.map bulk).sum + 1 ≤ bulk (.slice es sp)
  agg : ∀ ds, (ds.map bulk).sum ≤ bulk (.agg ds)

/-- Cells of this type read as a thing, of which this is known, by the bulk of what is read. -/
def Opens (enc : TypeId × Value → H) (P : Program) (W : World) (bulk : DataW H → Nat) (t : TypeId) {α : Type} (ea : α → List Value) (good : α → Nat → Prop) : Prop :=
  ∀ fuel cs x, DataW.trod enc P W 0 (fun _ => true) true fuel t cs = some x → ∃ a, cs = ea a ∧ good a (bulk x.1)

theorem Opens.int {t : TypeId} {k : IntKind} (ht : P.underlying t = some (.int k)) : Opens enc P W bulk t (fun n : Int => [.int k n]) (fun n _ => (Lit.int k n).wf = true) := fun fuel cs x h => by
  obtain ⟨n, rfl, _, hw⟩ := DataW.trod_int ht h
  exact ⟨n, rfl, hw⟩
theorem Opens.bool {t : TypeId} (ht : P.underlying t = some .bool) : Opens enc P W bulk t (fun b : Bool => [.bool b]) (fun _ _ => True) := fun fuel cs x h => by
  obtain ⟨n, rfl, _⟩ := DataW.trod_bool ht h
  exact ⟨n, rfl, trivial⟩

theorem sum_mem {l : List (DataW H)} {d : DataW H} (h : d ∈ l) : bulk d ≤ (l.map bulk).sum := by
  induction l with
  | nil => cases h
  | cons x r ih =>
    simp only [List.map_cons, List.sum_cons]
    cases List.mem_cons.1 h with
    | inl e => subst e; omega
    | inr e => have := ih e; omega
theorem sum_len (hb : BulkOk bulk) (l : List (DataW H)) : l.length ≤ (l.map bulk).sum := by
  induction l with
  | nil => simp
  | cons x r ih => have := hb.one x; simp only [List.map_cons, List.sum_cons, List.length_cons]; omega

theorem Opens.slice (hb : BulkOk bulk) {t e : TypeId} {k : Nat} {α : Type} {ea : α → List Value} {good : α → Nat → Prop} (ht : P.underlying t = some (.slice e)) (hc : P.cellsOf e = k) (hk0 : 0 < k) (hk : ∀ a, (ea a).length = k) (he : Opens enc P W bulk e ea good)
    (mono : ∀ a m n, m ≤ n → good a m → good a n) :
    Opens enc P W bulk t (fun p : Value × List α => [p.1]) (fun p n => RdAt W ea k p.1 p.2 ∧ p.2.length + 1 ≤ n ∧ ∀ a ∈ p.2, good a n) := fun fuel cs x h => by
  rcases open_slice ht h with ⟨rfl, rfl⟩ | ⟨a, len, cap, m, n, D, Pl, rfl, hb0, hl, hm, hmm, rfl, hx⟩
  · refine ⟨(.slice none 0 0, []), rfl, ⟨⟨none, 0, rfl, Nat.le_refl _, fun _ e _ => by (cases e), fun _ => rfl⟩, fun x hx => (by cases hx), fun i x hx => by simp at hx⟩, ?_, fun a ha => by cases ha⟩
    exact hb.one _
  · simp only [if_true] at hmm
    have hmm' := hmm.symm
    subst hmm'
    have each : ∀ i, i < len → ∃ q : Option α, ∃ y, q = some y ∧ W.cells? 0 (a.add (i * k)) k = some (ea y) ∧ good y (bulk (D i)) := fun i hi => by
      obtain ⟨cs', h1, h2⟩ := hx i (Nat.lt_of_lt_of_le hi hl)
      obtain ⟨y, rfl, hg⟩ := he _ _ _ h2
      rw [hc] at h1
      exact ⟨some y, y, rfl, h1, hg⟩
    obtain ⟨f, hf⟩ := choose_lt each
    obtain ⟨xs, hxs, hxl⟩ : ∃ xs : List α, (∀ i y, xs[i]? = some y → i < len ∧ f i = some y) ∧ xs.length = len := by
      clear h hx each
      induction len with
      | zero => exact ⟨[], fun i y h => by simp at h, rfl⟩
      | succ len ih =>
        obtain ⟨xs, h1, h2⟩ := ih (by omega) (fun i hi => hf i (by omega))
        obtain ⟨y, hy, _⟩ := hf len (by omega)
        refine ⟨xs ++ [y], fun i z hz => ?_, by simp [h2]⟩
        by_cases hi : i < xs.length
        · rw [List.getElem?_append_left hi] at hz
          have := h1 i z hz
          exact ⟨by omega, this.2⟩
        · rw [List.getElem?_append_right (by omega)] at hz
          have hi0 := (List.getElem?_eq_some_iff.1 hz).1
          simp at hi0
          obtain rfl : i = len := by omega
          simp [h2] at hz
          subst hz
          exact ⟨by omega, hy⟩
    have spot : xs ≠ [] → a.spot = none := fun hne => by
      have h0 : 0 < len := by rw [← hxl]; exact List.length_pos_iff.2 hne
      obtain ⟨y, _, hcs, _⟩ := hf 0 h0
      obtain ⟨_, hlen, hcell⟩ := World.cells?_some hcs
      have h1 := hcell 0 hk0
      rw [List.getElem?_eq_getElem (by rw [hk]; exact hk0)] at h1
      have := World.cell?_spot h1
      simpa [Addr.add] using this
    have hlenb : len + 1 ≤ bulk (.slice ((List.range len).map D) ((List.range (cap - len)).map fun j => D (len + j))) := by
      have h1 := hb.slice ((List.range len).map D) ((List.range (cap - len)).map fun j => D (len + j))
      have h2 := sum_len hb ((List.range len).map D)
      simp only [List.length_map, List.length_range] at h2
      omega
    refine ⟨(.slice (some a) len cap, xs), rfl, ⟨⟨some a, cap, by rw [hxl], (by rw [hxl]; exact hl), fun b e hne => by cases e; exact spot hne, fun e => by cases e⟩, fun x _ => hk x, fun i x hi c u hu => ?_⟩, by rw [hxl]; exact hlenb, fun y hy => ?_⟩
    · obtain ⟨hil, hfi⟩ := hxs i x hi
      obtain ⟨y, hy, hcs, _⟩ := hf i hil
      rw [hfi] at hy
      cases hy
      obtain ⟨_, hlen, hcell⟩ := World.cells?_some hcs
      have hck := (List.getElem?_eq_some_iff.1 hu).1
      rw [hk] at hck
      have h1 := hcell c hck
      rw [hu] at h1
      have hs := spot (by intro e; subst e; simp at hi)
      obtain ⟨b, o, s⟩ := a
      simp only at hs
      subst hs
      rw [addr_add, addr_add] at h1
      exact h1
    · obtain ⟨i, hi⟩ := List.mem_iff_getElem?.1 hy
      obtain ⟨hil, hfi⟩ := hxs i y hi
      obtain ⟨z, hz, _, hg⟩ := hf i hil
      rw [hfi] at hz
      cases hz
      refine mono y _ _ ?_ hg
      have h1 := hb.slice ((List.range len).map D) ((List.range (cap - len)).map fun j => D (len + j))
      have h2 : bulk (D i) ≤ (((List.range len).map D).map bulk).sum := sum_mem (List.mem_map.2 ⟨i, List.mem_range.2 hil, rfl⟩)
      exact Nat.le_trans h2 (Nat.le_trans (Nat.le_succ _) h1)

/-- A struct of fields of a cell each. -/
theorem open_struct (hb : BulkOk bulk) {t : TypeId} {fs : Array Field} {fuel : Nat} {cs : List Value} {x : DataW H × List MemPlace} (ht : P.underlying t = some (.struct fs)) (hc : P.cellsOf t = fs.size) (ho : ∀ (i : Nat) (f : Field), fs[i]? = some f → f.offset = i ∧ P.cellsOf f.type = 1)
    (h : DataW.trod enc P W 0 (fun _ => true) true fuel t cs = some x) :
    cs.length = fs.size ∧ ∀ (i : Nat) (f : Field), fs[i]? = some f → ∃ v fuel y, cs[i]? = some v ∧ DataW.trod enc P W 0 (fun _ => true) true fuel f.type [v] = some y ∧ bulk y.1 ≤ bulk x.1 := by
  obtain ⟨xs, n, rfl, rfl, hl, hxl, hf⟩ := DataW.trod_struct ht h
  refine ⟨hl.trans hc, fun i f hi => ?_⟩
  have hlt := (Array.getElem?_eq_some_iff.1 hi).1
  have h1 := hf i f hi
  obtain ⟨ho1, ho2⟩ := ho i f hi
  have hil : i < cs.length := by omega
  rw [ho1, ho2, List.drop_eq_getElem_cons hil, List.take_succ_cons, List.take_zero, List.getElem?_eq_getElem (by omega)] at h1
  refine ⟨cs[i], n, _, List.getElem?_eq_getElem hil, h1, ?_⟩
  have h2 := hb.agg (xs.map (·.1))
  have h3 : bulk (xs[i]'(by omega)).1 ≤ ((xs.map (·.1)).map bulk).sum := sum_mem (List.mem_map.2 ⟨_, List.getElem_mem _, rfl⟩)
  exact Nat.le_trans h3 h2

/-! ### A law's end -/
theorem args_stay (hl : laidOutB P = true) {W W' : World} (hb : Below W.heap.size W W') {sp : Nat → Bool} :
    ∀ {ts : List TypeId} {vs : List Value} {ds : List (DataW H)} {p : List MemPlace}, ts.all (fun t => P.readableRec t && decide (t < P.types.size)) = true → DataW.TrodAll enc P W 0 (fun _ => true) true ts vs ds p → (∀ x ∈ p, x.block < W.heap.size) → (∀ x ∈ p, sp x.block = true) →
      DataW.TrodAll enc P W' 0 sp true ts vs ds p
  | [], [], [], _, _, h, _, _ => h
  | [], [], _ :: _, _, _, h, _, _ => h.elim
  | [], _ :: _, _, _, _, h, _, _ => h.elim
  | _ :: _, [], _, _, _, h, _, _ => h.elim
  | _ :: _, _ :: _, [], _, _, h, _, _ => h.elim
  | t :: ts, v :: vs, d :: ds, ps, hr, h, hlt, hsp => by
    obtain ⟨p, q, h1, h2, rfl⟩ := h
    simp only [List.all_cons, Bool.and_eq_true, decide_eq_true_eq] at hr
    refine ⟨p, q, WideElems.Trod_stays hl hr.1.1 hr.1.2 h1 (fun x hx => hb.same (hlt x (by simp [hx]))) (fun x hx => hsp x (by simp [hx])), ?_, rfl⟩
    exact args_stay hl hb (by simpa using hr.2) h2 (fun x hx => hlt x (by simp [hx])) (fun x hx => hsp x (by simp [hx]))

theorem law_post {f : Func} {s : ChangeSpec} {apart fresh handsOn again : Bool} {W W' : World} {args : Array Value} {ds gs : List (DataW H)} {before : List MemPlace} {tb : TypeId}
    (hl : laidOutB P = true) (hrd : f.params.toList.all (fun t => P.readableRec t && decide (t < P.types.size)) = true) (hv : s.vars = []) (hr : f.resultTypes = #[tb]) (htb : P.underlying tb = some .bool)
    (hW : DataW.Whole enc P f.params.toList s.vars apart W args.toList ds gs before) (h1 : (s.fn H ds).results = [.lit (.bool true)]) (h2 : (s.fn H ds).args = ds) (h3 : (s.fn H ds).vars = [])
    (hb : Below W.heap.size W W') : s.post enc P f apart fresh handsOn again W args (.bool true) W' := by
  have hlt := fun p hp => hW.lt p hp
  have hW' := hW
  obtain ⟨p, q, hA, hV, rfl, hz, hn⟩ := hW'
  rw [hv] at hV
  obtain ⟨rfl, rfl⟩ := trodVars_none hV
  have hres : ∀ (b : Nat) (sp : Nat → Bool) (hd : Bool), DataW.TrodAll enc P W' b sp hd f.resultTypes.toList ((Value.bool true).resultList f.resultTypes.size) (s.fn H (ds ++ [])).results [] := fun b sp hd => by
    rw [List.append_nil, h1, hr]
    exact trodAll_cons_mk (shut_bool htb _) trodAll_mk0
  have hargs : ∀ sp : Nat → Bool, (∀ x ∈ p ++ [], sp x.block = true) → DataW.TrodAll enc P W' 0 sp true f.params.toList args.toList (s.fn H (ds ++ [])).args p := fun sp hsp => by
    rw [List.append_nil, h2]
    exact args_stay hl hb hrd hA (fun x hx => hlt x (by simp [hx])) (fun x hx => hsp x (by simp [hx]))
  have hvars : ∀ sp : Nat → Bool, DataW.TrodVars enc P W' sp s.vars (s.fn H (ds ++ [])).vars [] := fun sp => by
    rw [List.append_nil, h3, hv]; rfl
  have hold : ∀ x ∈ p ++ [], (fun b => decide (b < W.heap.size)) x.block = true := fun x hx => by simpa using hlt x hx
  refine ⟨ds, [], p ++ [], [], p, [], hW, hres _ _ _, hargs _ hold, hvars _, World.keptBut_mono (fun x hx => ⟨hx, ?_⟩) (hb.frame _), fun _ => ?_⟩
  · simp only [List.append_nil] at hx
    exact Or.inr (by simpa using hx)
  · refine ⟨ok_one hr rfl (okWide_bool_mk htb _), _, _, ([] ++ p) ++ [], ⟨[] ++ p, [], trodAll_append (hargs _ (fun _ _ => rfl)) (hres _ _ _), hvars _, rfl, ?_, ?_⟩, ?_⟩
    · intro b off hp
      have hp' : MemPlace.cell b off ∈ p := by simpa using hp
      have := hz b off (by simp [hp'])
      rw [← this]
      exact hb.frozen (p := ⟨b, off, none⟩) (hlt (.cell b off) (by simp [hp']))
    · intro ha
      simpa using hn ha
    · intro x hx _
      simpa using hx

/-- A contract, said of a call. -/
theorem Fn.done {f : FuncId} {args : List Value} {X : Type} {v : Value} (h : Fn P W f args [] X (fun _ => v) (fun _ => True) (fun _ => [])) : Calls P f args.toArray W fun e w' => e = .returned v ∧ Below W.heap.size W w' :=
  (h SLYtkflpgknieoknaa.emp W (by simpa only [seps, sep_emp] using Sat.empty)).mono fun e w' ⟨x, he, _, hs⟩ => ⟨he, hs.belowW⟩
end
end Go.SLYtkflpgknieoknaa
