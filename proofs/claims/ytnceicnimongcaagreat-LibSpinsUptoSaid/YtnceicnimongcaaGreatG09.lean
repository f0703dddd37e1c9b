/- Walks of functions, and what they compute. Conditions: none, this text proves no statement. -/
import Derived.Test.YtnceicnimongcaaGreatG03
import Derived.MapKept
import Derived.Laws.NewFold
import Derived.Test.YtnceicnimongcaaGreatG05
import Derived.Test.YtnceicnimongcaaGreatProg
import Derived.Shelf.Sort.Plain
import Derived.Shelf.Slices.In.SortNone
import Derived.Lib.SortBridge
import Derived.KernelRfl
import Derived.Test.YtnceicnimongcaaGreatG08
import Derived.Test.YtnceicnimongcaaGreatG04
set_option maxRecDepth 20000
namespace Go.SLYtnceicnimongcaaGreat
open Go Go.RowKit Go.MapKept

def entI (e : MapEntry) : Int × Int := (match e.key with | .int _ k => k | _ => 0, match e.val with | .int _ k => k | _ => 0)
def findI (k : Int) : List (Int × Int) → Nat → Option (Nat × Value)
  | [], _ => none
  | p :: l, i => if k = p.1 then some (i, .int .i64 p.2) else findI k l (i + 1)
theorem find_now {k : Int} : ∀ {es : List MapEntry} {l : List (Int × Int)} {i : Nat}, es.map (fun e => (e.key, e.val)) = l.map (fun p => (Value.int .i64 p.1, Value.int .i64 p.2)) → Instr.findNow (.int .i64) (.int .i64 k) es i = some (findI k l i)
  | [], [], _, _ => rfl
  | [], _ :: _, _, h => by cases h
  | _ :: _, [], _, h => by cases h
  | e :: es, p :: l, i, h => by
    simp only [List.map_cons, List.cons.injEq, Prod.mk.injEq] at h
    obtain ⟨⟨hk, hv⟩, ht⟩ := h
    unfold Instr.findNow findI
    rw [hk, hv]
    by_cases e : k = p.1
    · subst e; simp [Instr.sameNow]
    · simp only [Instr.sameNow, if_pos, if_neg e]
      rw [show (k == p.1) = false from by simpa using e]
      exact find_now ht
theorem findI_get {k : Int} : ∀ (l : List (Int × Int)) (i : Nat), (findI k l i).map (·.2) = (mapGet l k).map (Value.int .i64)
  | [], _ => rfl
  | p :: l, i => by
    unfold findI mapGet
    rw [List.find?_cons]
    by_cases e : k = p.1
    · rw [if_pos e]; simp [e]
    · rw [if_neg e, show decide (p.1 = k) = false from by simpa using fun h => e h.symm]
      exact findI_get l (i + 1)
theorem findI_at {k : Int} : ∀ {l : List (Int × Int)} {i j : Nat} {v : Value}, findI k l i = some (j, v) → ∃ n v', j = i + n ∧ l[n]? = some (k, v') ∧ ∀ v'', mapSet l k v'' = l.set n (k, v'')
  | [], _, _, _, h => by cases h
  | p :: l, i, j, v, h => by
    unfold findI at h
    by_cases e : k = p.1
    · rw [if_pos e] at h; cases h
      exact ⟨0, p.2, rfl, by rw [e]; rfl, fun v'' => by rw [mapSet, if_pos e.symm]; rfl⟩
    · rw [if_neg e] at h
      obtain ⟨n, v', h1, h2, h3⟩ := findI_at h
      exact ⟨n + 1, v', by omega, by simpa using h2, fun v'' => by rw [mapSet, if_neg (fun h => e h.symm), h3]; rfl⟩
theorem findI_no {k : Int} : ∀ {l : List (Int × Int)} {i : Nat}, findI k l i = none → (∀ p ∈ l, p.1 ≠ k) ∧ ∀ v, mapSet l k v = l ++ [(k, v)]
  | [], _, _ => ⟨fun p hp => (by cases hp), fun v => rfl⟩
  | p :: l, i, h => by
    unfold findI at h
    by_cases e : k = p.1
    · rw [if_pos e] at h; cases h
    · rw [if_neg e] at h
      obtain ⟨h1, h2⟩ := findI_no h
      refine ⟨fun q hq => ?_, fun v => by rw [mapSet, if_neg (fun h => e h.symm), h2]; rfl⟩
      rcases List.mem_cons.1 hq with rfl | hq
      · exact fun h => e h.symm
      · exact h1 q hq
theorem mem_modify {α : Type} {l : List α} {n : Nat} {f : α → α} {x : α} (h : x ∈ l.modify n f) : x ∈ l ∨ ∃ y ∈ l, x = f y := by
  induction l generalizing n with
  | nil => simp at h
  | cons y l ih =>
    cases n with
    | zero =>
      rw [List.modify_zero_cons] at h
      rcases List.mem_cons.1 h with rfl | h
      · exact .inr ⟨y, by simp, rfl⟩
      · exact .inl (.tail _ h)
    | succ n =>
      rw [List.modify_succ_cons] at h
      rcases List.mem_cons.1 h with rfl | h
      · exact .inl (by simp)
      · rcases ih h with h | ⟨z, hz, rfl⟩
        · exact .inl (.tail _ h)
        · exact .inr ⟨z, .tail _ hz, rfl⟩
theorem map_modify {α β : Type} {l : List α} {n : Nat} {f : α → α} {g : α → β} (h : ∀ x, g (f x) = g x) : (l.modify n f).map g = l.map g := by
  induction l generalizing n with
  | nil => simp
  | cons y l ih =>
    cases n with
    | zero => simp [h]
    | succ n => simp [ih]
theorem map_modify_set {α β : Type} {l : List α} {n : Nat} {f : α → α} {g : α → β} {b : β} (h : ∀ x, g (f x) = b) : (l.modify n f).map g = (l.map g).set n b := by
  induction l generalizing n with
  | nil => simp
  | cons y l ih =>
    cases n with
    | zero => simp [h]
    | succ n => simp [ih]
theorem set_fst {l : List (Int × Int)} {n : Nat} {k v v' : Int} (h : l[n]? = some (k, v')) : (l.set n (k, v)).map (·.1) = l.map (·.1) := by
  rw [List.map_set]
  exact set_same (by rw [List.getElem?_map, h]; rfl)
theorem ok_set {es : List MapEntry} {c n : Nat} {l : List (Int × Int)} {k v v' : Int} (h : mapOk es c l) (hn : l[n]? = some (k, v')) :
    mapOk (es.modify n fun e => { e with key := .int .i64 k, val := .int .i64 v }) c (l.set n (k, v)) := by
  obtain ⟨h1, h2, h3, h4⟩ := h
  refine ⟨?_, by rw [set_fst hn]; exact h2, fun e he => ?_, ?_⟩
  · rw [map_modify_set (f := fun e : MapEntry => { e with key := .int .i64 k, val := .int .i64 v }) (g := fun e : MapEntry => (e.key, e.val)) (b := (Value.int .i64 k, Value.int .i64 v)) (fun _ => rfl), h1, List.map_set]
  · rcases mem_modify he with he | ⟨y, hy, rfl⟩
    · exact h3 e he
    · exact h3 y hy
  · rw [map_modify (f := fun e : MapEntry => { e with key := .int .i64 k, val := .int .i64 v }) (g := fun e : MapEntry => e.born) (fun _ => rfl)]; exact h4
theorem ok_push {es : List MapEntry} {c : Nat} {l : List (Int × Int)} {k v : Int} (h : mapOk es c l) (hn : ∀ p ∈ l, p.1 ≠ k) :
    mapOk (es ++ [{ key := .int .i64 k, val := .int .i64 v, born := c }]) (c + 1) (l ++ [(k, v)]) := by
  obtain ⟨h1, h2, h3, h4⟩ := h
  refine ⟨by simp [h1], ?_, fun e he => ?_, ?_⟩
  · rw [List.map_append, List.nodup_append]
    refine ⟨h2, by simp, fun a ha b hb => ?_⟩
    obtain ⟨p, hp, rfl⟩ := List.mem_map.1 ha
    simp only [List.map_cons, List.map_nil, List.mem_cons, List.not_mem_nil, or_false] at hb
    subst hb; exact hn p hp
  · rcases List.mem_append.1 he with he | he
    · have := h3 e he; omega
    · simp only [List.mem_cons, List.not_mem_nil, or_false] at he; subst he; exact Nat.lt_succ_self _
  · rw [List.map_append, List.nodup_append]
    refine ⟨h4, by simp, fun a ha b hb => ?_⟩
    obtain ⟨e, he, rfl⟩ := List.mem_map.1 ha
    simp only [List.map_cons, List.map_nil, List.mem_cons, List.not_mem_nil, or_false] at hb
    subst hb; have := h3 e he; omega
theorem del_at {l : List (Int × Int)} {n : Nat} {k v : Int} (hd : (l.map (·.1)).Nodup) (h : l[n]? = some (k, v)) : mapDel l k = l.eraseIdx n := by
  induction l generalizing n with
  | nil => simp at h
  | cons p l ih =>
    simp only [List.map_cons, List.nodup_cons] at hd
    cases n with
    | zero =>
      simp at h; subst h
      unfold mapDel
      rw [List.filter_cons, if_neg (by simp), List.eraseIdx_cons_zero, List.filter_eq_self]
      intro q hq
      have : q.1 ≠ k := fun e => hd.1 (List.mem_map.2 ⟨q, hq, e⟩)
      simpa using this
    | succ n =>
      have hn : l[n]? = some (k, v) := by simpa using h
      have hm : k ∈ l.map (·.1) := List.mem_map.2 ⟨_, List.mem_of_getElem? hn, rfl⟩
      unfold mapDel
      rw [List.filter_cons, if_pos (by have : p.1 ≠ k := (fun e => hd.1 (by rw [e]; exact hm)); simpa using this), List.eraseIdx_cons_succ]
      congr 1
      exact ih hd.2 hn
theorem del_no {l : List (Int × Int)} {k : Int} (h : ∀ p ∈ l, p.1 ≠ k) : mapDel l k = l := by
  unfold mapDel
  rw [List.filter_eq_self]
  exact fun q hq => by simpa using h q hq
theorem map_erase {α β : Type} (f : α → β) : ∀ (l : List α) (n : Nat), (l.eraseIdx n).map f = (l.map f).eraseIdx n
  | [], _ => rfl
  | x :: l, 0 => rfl
  | x :: l, n + 1 => by rw [List.eraseIdx_cons_succ, List.map_cons, List.map_cons, List.eraseIdx_cons_succ, map_erase f l n]
theorem ok_del {es : List MapEntry} {c n : Nat} {l : List (Int × Int)} (h : mapOk es c l) : mapOk (es.eraseIdx n) c (l.eraseIdx n) := by
  obtain ⟨h1, h2, h3, h4⟩ := h
  refine ⟨?_, ?_, fun e he => h3 e ((List.eraseIdx_sublist _ _).mem he), ?_⟩
  · rw [map_erase, map_erase, h1]
  · rw [map_erase]; exact h2.sublist (List.eraseIdx_sublist _ _)
  · rw [map_erase]; exact h4.sublist (List.eraseIdx_sublist _ _)

theorem push_arr {α : Type} (es : Array α) (x : α) : (es.toList ++ [x]).toArray = es.push x := by
  apply Array.ext'
  simp
theorem mod_arr {α : Type} (es : Array α) (n : Nat) (f : α → α) : (es.toList.modify n f).toArray = es.modify n f := by
  apply Array.ext'
  simp
theorem erase_arr {α : Type} (es : Array α) (n : Nat) : (es.toList.eraseIdx n).toArray = es.eraseIdxIfInBounds n := by
  apply Array.ext'
  simp
theorem getObjR {P : Program} {w : World} {r : Nat} {o : Obj} (hb : w.heap[r]? = some o) (hc : cellsB o = false := by rfl) : (getObj r).run P w = .ok o w := by
  cases o with
  | cells => exact absurd hc (by simp [cellsB])
  | _ => simp [getObj, Sem.run, hb]
theorem setObjR {P : Program} {w : World} {r : Nat} {o : Obj} (o' : Obj) (hb : w.heap[r]? = some o) (hc : cellsB o = false := by rfl) : (setObj r o').run P w = .ok () { w with heap := w.heap.setIfInBounds r o' } := by
  cases o with
  | cells => exact absurd hc (by simp [cellsB])
  | _ => simp [setObj, Sem.run, hb]
section
variable {P : Program} {W : World} {N : Nat} {L : List (Nat × Option Value)} {H R : List HProp} {T : TypeId} {O : Array Oper}
theorem map_at {m : Nat} {l : List (Int × Int)} (t : At H (mapH m l)) {w : World} (s : Sat W w (seps H)) : ∃ es c, mapOk es c l ∧ w.heap[m]? = some (.map es.toArray c) := by
  obtain ⟨R, s⟩ := t.sat s
  obtain ⟨h, ⟨h1, h2, ⟨es, c, ho, a⟩, r, d, e'⟩, hin⟩ := s.own
  simp only [seps, sep_emp] at a
  exact ⟨es, c, ho, (obj_lies (b := m) (x := .map es.toArray c) (R := R) { s with own := ⟨h, ⟨h1, h2, a, r, d, e'⟩, hin⟩ }).2.1⟩
theorem Y.lookI {t kt vt : TypeId} {x y : Operand} {m : Nat} {l : List (Int × Int)} {k : Int} (hu : P.underlying t = some (.map kt vt)) (hk : P.underlying kt = some (.int .i64)) (hz : ∀ w, (zeroValue vt).run P w = .ok (.int .i64 0) w) (hx : ev L x = some (.map (some m))) (hy : ev L y = some (.int .i64 k)) (ht : At H (mapH m l)) :
    Y P W N (.lookup t x y false) T L H (.int .i64 ((mapGet l k).getD 0)) := fun dst pos after guard a w ha hs => by
  simp only [execOp, ha.eval hx, ha.eval hy]
  refine value_run ?_
  obtain ⟨es, c, ho, hb⟩ := map_at ht hs
  have hf := run_findKey (P := P) (w := w) hk (find_now (k := k) (i := 0) ho.1)
  have hc := run_checkKey (P := P) (w := w) hk (k := .int .i64 k) rfl (es.toArray.isEmpty) 9999
  have hg := findI_get (k := k) l 0
  unfold Instr.lookup
  simp only [Sem.run_bind, run_underlying hu, Result.andThen_ok, getObjR hb, Sem.run_pure, hc, hf]
  cases e : findI k l 0 with
  | none =>
    rw [e] at hg
    have : mapGet l k = none := by simpa using hg.symm
    simp [hz, this]
  | some p =>
    rw [e] at hg
    cases hm : mapGet l k with
    | none => rw [hm] at hg; cases hg
    | some v =>
      rw [hm] at hg
      have : p.2 = .int .i64 v := by simpa using hg
      simp [this]
theorem Does.mapCh {o : Oper} {m : Nat} {l l' : List (Int × Int)} (hd : o.dst = none) (t : Take H (mapH m l) R)
    (h : ∀ a w es c, Env N L a → w.heap[m]? = some (.map es c) → mapOk es.toList c l → ∃ es' c', mapOk es' c' l' ∧ ((execOp a.eval o).run P w = .ok .skip { w with heap := w.heap.setIfInBounds m (.map es'.toArray c') } ∨ ∃ v, (execOp a.eval o).run P w = .ok (.value v) { w with heap := w.heap.setIfInBounds m (.map es'.toArray c') })) :
    Does P W N o L H (fun L1 H1 => L1 = L ∧ H1 = mapH m l' :: R) := fun a w ha hs Kp hK => by
  rw [t.seps] at hs
  obtain ⟨hp, ⟨h1, h2, ⟨es, c, ho, am⟩, r, d, e'⟩, hin⟩ := hs.own
  simp only [seps, sep_emp] at am
  have hs2 : Sat W w (sep (objAt m (.map es.toArray c)) (seps R)) := { hs with own := ⟨hp, ⟨h1, h2, am, r, d, e'⟩, hin⟩ }
  obtain ⟨es', c', ho', hr⟩ := h a w es.toArray c ha (obj_lies hs2).2.1 (by simpa using ho)
  have hs3 := hs2.setObj (.map es'.toArray c') rfl
  have hs4 : Sat W { w with heap := w.heap.setIfInBounds m (.map es'.toArray c') } (seps (mapH m l' :: R)) :=
    hs3.mono (sep_mono (fun g b => ⟨es', c', ho', by simpa only [seps, sep_emp] using b⟩) fun _ b => b)
  unfold Oper.wp
  rcases hr with hr | ⟨v, hr⟩
  · rw [hr]
    simp only [Oper.upon]
    rw [hd]
    exact hK _ _ ⟨rfl, rfl⟩ _ _ ⟨ha.size, ha.get, ha.defers⟩ hs4
  · rw [hr]
    simp only [Oper.upon]
    rw [hd]
    exact hK _ _ ⟨rfl, rfl⟩ _ _ ⟨ha.size, ha.get, ha.defers⟩ hs4
theorem Does.mapSet {t kt vt : TypeId} {x y z : Operand} {pos : String} {after : Array Edge} {guard : Option (Nat × Bool)} {m : Nat} {l : List (Int × Int)} {k v : Int} (hu : P.underlying t = some (.map kt vt)) (hk : P.underlying kt = some (.int .i64)) (hx : ev L x = some (.map (some m))) (hy : ev L y = some (.int .i64 k)) (hz : ev L z = some (.int .i64 v)) (ht : Take H (mapH m l) R) :
    Does P W N ⟨none, .mapUpdate t x y z, T, pos, after, guard⟩ L H (fun L1 H1 => L1 = L ∧ H1 = mapH m (mapSet l k v) :: R) :=
  Does.mapCh rfl ht fun a w es c ha hb ho => by
    have hf := run_findKey (P := P) (w := w) hk (find_now (k := k) (i := 0) ho.1)
    have hc := run_checkKey (P := P) (w := w) hk (k := .int .i64 k) rfl false 9999
    cases e : findI k l 0 with
    | none =>
      obtain ⟨h1, h2⟩ := findI_no e
      refine ⟨es.toList ++ [{ key := .int .i64 k, val := .int .i64 v, born := c }], c + 1, by rw [h2]; exact ok_push ho h1, .inl ?_⟩
      rw [e] at hf
      simp only [execOp, ha.eval hx, ha.eval hy, ha.eval hz]
      show (Instr.mapUpdate t (.map (some m)) (.int .i64 k) (.int .i64 v) >>= fun _ => pure Next.skip).run P w = _
      simp only [Instr.mapUpdate, Sem.run_bind, run_underlying hu, Result.andThen_ok, getObjR hb, hc, hf, setObjR _ hb, Sem.run_pure, push_arr]
    | some p =>
      obtain ⟨j, val⟩ := p
      obtain ⟨n, v', hj, hn, h3⟩ := findI_at e
      obtain rfl : j = n := by omega
      refine ⟨es.toList.modify j fun e => { e with key := .int .i64 k, val := .int .i64 v }, c, by rw [h3]; exact ok_set ho hn, .inl ?_⟩
      rw [e] at hf
      have hkey : ((es[j]?).map (·.key)).getD (.int .i64 k) = .int .i64 k := by
        have h1 := ho.1
        have : (es.toList.map fun e => (e.key, e.val))[j]? = some (.int .i64 k, .int .i64 v') := by rw [h1, List.getElem?_map, hn]; rfl
        rw [List.getElem?_map] at this
        cases he : es.toList[j]? with
        | none => rw [he] at this; cases this
        | some en =>
          rw [he] at this
          have h5 : en.key = .int .i64 k := by simpa using congrArg (fun o => o.map Prod.fst) this
          rw [← Array.getElem?_toList, he]
          exact h5
      simp only [execOp, ha.eval hx, ha.eval hy, ha.eval hz]
      show (Instr.mapUpdate t (.map (some m)) (.int .i64 k) (.int .i64 v) >>= fun _ => pure Next.skip).run P w = _
      simp only [Instr.mapUpdate, Sem.run_bind, run_underlying hu, Result.andThen_ok, getObjR hb, hc, hf, hkey, run_keyThatStays (d := .int .i64) (k := .int .i64 k) rfl, setObjR _ hb, Sem.run_pure, mod_arr]
theorem Does.mapDel {t kt vt : TypeId} {ts : Array TypeId} {x y : Operand} {pos : String} {after : Array Edge} {guard : Option (Nat × Bool)} {m : Nat} {l : List (Int × Int)} {k : Int} (hu : P.underlying t = some (.map kt vt)) (hk : P.underlying kt = some (.int .i64)) (hx : ev L x = some (.map (some m))) (hy : ev L y = some (.int .i64 k)) (ht : Take H (mapH m l) R) (hts : ts[0]? = some t) :
    Does P W N ⟨none, .call ⟨.builtin .delete, #[x, y], ts⟩, T, pos, after, guard⟩ L H (fun L1 H1 => L1 = L ∧ H1 = mapH m (SLYtnceicnimongcaaGreat.mapDel l k) :: R) :=
  Does.mapCh rfl ht fun a w es c ha hb ho => by
    have hf := run_findKey (P := P) (w := w) hk (find_now (k := k) (i := 0) ho.1)
    have hc := run_checkKey (P := P) (w := w) hk (k := .int .i64 k) rfl es.isEmpty 9999
    have hrun : ∀ o : Option (Nat × Value), Instr.findKey kt (.int .i64 k) es.toList = Instr.findKey kt (.int .i64 k) es.toList := fun _ => rfl
    cases e : findI k l 0 with
    | none =>
      obtain ⟨h1, h2⟩ := findI_no e
      refine ⟨es.toList, c, by rw [del_no h1]; exact ho, .inr ⟨.tuple #[], ?_⟩⟩
      rw [e] at hf
      simp [execOp, resolve, invoke, builtin, ha.eval hx, ha.eval hy, Builtin.delete_, hts, run_underlying hu, getObjR hb, hc, hf, setObjR _ hb]
    | some p =>
      obtain ⟨j, val⟩ := p
      obtain ⟨n, v', hj, hn, h3⟩ := findI_at e
      obtain rfl : j = n := by omega
      refine ⟨es.toList.eraseIdx j, c, by rw [del_at ho.2.1 hn]; exact ok_del ho, .inr ⟨.tuple #[], ?_⟩⟩
      rw [e] at hf
      simp [execOp, resolve, invoke, builtin, ha.eval hx, ha.eval hy, Builtin.delete_, hts, run_underlying hu, getObjR hb, hc, hf, setObjR _ hb, erase_arr]
end
end Go.SLYtnceicnimongcaaGreat
namespace Go.SLYtnceicnimongcaaGreat
open Go Go.RowKit Go.MapKept

def itH (it m c : Nat) (seen : List MapEntry) : HProp := objAt it (.mapIter (some m) c (seen.map (·.born)).toArray c)
def nextA : Option MapEntry → Array Value
  | none => #[.bool false]
  | some e => #[.bool true, e.key, e.val]
def nextV (o : Option MapEntry) : Value := .tuple (nextA o)
section
variable {P : Program} {W : World} {N : Nat} {L : List (Nat × Option Value)} {H R : List HProp} {T : TypeId} {O : Array Oper}
theorem obj_at {m : Nat} {x : Obj} (t : At H (objAt m x)) {w : World} (s : Sat W w (seps H)) : w.heap[m]? = some x := by
  obtain ⟨R, s⟩ := t.sat s
  exact (obj_lies s).2.1
def leftA (es : Array MapEntry) (seen : Array Nat) : Array MapEntry := es.filter fun e => !seen.contains e.born
theorem left_old {es : Array MapEntry} {seen : Array Nat} {c : Nat} (h : ∀ e ∈ es.toList, e.born < c) : (leftA es seen).filter (fun e => decide (e.born < c)) = leftA es seen := by
  rw [Array.filter_eq_self]
  intro e he
  have : e ∈ es := (Array.mem_filter.1 he).1
  simpa using h e (by simpa using this)
theorem left_new {es : Array MapEntry} {seen : Array Nat} {c : Nat} (h : ∀ e ∈ es.toList, e.born < c) : (leftA es seen).filter (fun e => decide (e.born ≥ c)) = #[] := by
  rw [Array.filter_eq_empty_iff]
  intro e he
  have : e ∈ es := (Array.mem_filter.1 he).1
  have := h e (by simpa using this)
  simp; omega
theorem choose_lt {n : Nat} (hn : 0 < n) (w : World) : ∃ i w', (choose (.mapNext n)).run P w = .ok i w' ∧ i < n ∧ (w' = w ∨ w' = w.drew) := by
  rw [run_choose_drew]
  by_cases h : n ≤ 1
  · exact ⟨0, w, by simp [Question.forced, h], hn, .inl rfl⟩
  · exact ⟨(Question.mapNext n).cut (w.tape w.drawn (.mapNext n)), w.drew, by simp [Question.forced, h], Nat.mod_lt _ hn, .inr rfl⟩
def cands (l : Array MapEntry) : Array (Option MapEntry) := (if l.isEmpty = true then #[none] else #[]) ++ (l ++ #[]).map some
def stepN (it m c : Nat) (sn : Array Nat) : Option (Option MapEntry) → Sem Value
  | some (some e) => do
    setObj it (.mapIter (some m) c (sn.push e.born) c)
    pure (.tuple #[.bool true, e.key, e.val])
  | some none => pure (.tuple #[.bool false])
  | none => stuck "Next: no such candidate"
theorem run_next {it m c : Nat} {es : Array MapEntry} {sn : Array Nat} {w : World} (hit : w.heap[it]? = some (.mapIter (some m) c sn c)) (hbm : w.heap[m]? = some (.map es c)) (hc : ∀ e ∈ es.toList, e.born < c) :
    (Instr.next (ptr it) false T).run P w = ((choose (.mapNext (cands (leftA es sn)).size)).run P w).andThen fun i w' => (stepN it m c sn (cands (leftA es sn))[i]?).run P w' := by
  have hguard : (!sn.isEmpty && !es.isEmpty && es.all fun e => decide (e.born ≥ c)) = false := by
    obtain ⟨l⟩ := es
    cases l with
    | nil => simp
    | cons e es =>
      have := hc e (by simp)
      simp; intro _ _; omega
  have hold := left_old (seen := sn) hc
  have hnew := left_new (seen := sn) hc
  unfold leftA at hold hnew
  unfold Instr.next
  simp only [Sem.run_bind, getObjR hit, Result.andThen_ok, getObjR hbm, hguard, Bool.false_eq_true, if_false]
  unfold leftA
  rw [hold, hnew]
  show ((choose (.mapNext (cands (leftA es sn)).size)).run P w).andThen _ = _
  rfl
theorem value_runW {s : Sem Value} {v : Value} {w w' : World} (h : s.run P w = .ok v w') : (do pure (Next.value (← s)) : Sem Next).run P w = .ok (.value v) w' := by
  simp [h]
theorem Does.nextI {x : Operand} {pos : String} {after : Array Edge} {guard : Option (Nat × Bool)} {d it m c : Nat} {es seen : List MapEntry} (hN : Nat.blt d N = true) (hx : ev L x = some (ptr it)) (ht : Take H (itH it m c seen) R) (hm : At R (objAt m (.map es.toArray c))) (hc : ∀ e ∈ es, e.born < c) :
    Does P W N ⟨some d, .next x false, T, pos, after, guard⟩ L H (fun L1 H1 => ∃ o : Option MapEntry, ((o = none → ∀ e ∈ es, e.born ∈ seen.map (fun e => e.born)) ∧ ∀ e, o = some e → e ∈ es ∧ ¬ e.born ∈ seen.map (fun e => e.born)) ∧ L1 = (d, some (nextV o)) :: L ∧ H1 = itH it m c (seen ++ o.toList) :: R) := fun a w ha hs Kp hK => by
  rw [ht.seps] at hs
  obtain ⟨sn, hsn⟩ : ∃ sn, sn = (seen.map (fun e => e.born)).toArray := ⟨_, rfl⟩
  have hit : w.heap[it]? = some (.mapIter (some m) c sn c) := by rw [hsn]; exact (obj_lies (b := it) (x := .mapIter (some m) c (seen.map (·.born)).toArray c) hs).2.1
  have hbm : w.heap[m]? = some (.map es.toArray c) := obj_at hm hs.right
  have hdone : ∀ o : Option MapEntry, ((o = none → ∀ e ∈ es, e.born ∈ seen.map (fun e => e.born)) ∧ ∀ e, o = some e → e ∈ es ∧ ¬ e.born ∈ seen.map (fun e => e.born)) → ∀ w', (Instr.next (ptr it) false T).run P w = .ok (nextV o) w' → Sat W w' (sep (itH it m c (seen ++ o.toList)) (seps R)) → Oper.wp P ⟨some d, .next x false, T, pos, after, guard⟩ a w Kp QF := fun o ho w' hr hs' => by
    have h2 : (execOp a.eval ⟨some d, .next x false, T, pos, after, guard⟩).run P w = .ok (.value (nextV o)) w' := by
      simp only [execOp, ha.eval hx]
      exact value_runW hr
    unfold Oper.wp
    rw [h2]
    simp only [Oper.upon]
    exact hK _ _ ⟨o, ho, rfl, rfl⟩ _ _ (ha.put (Nat.blt_eq.mp hN) _) hs'
  have hstart := run_next (P := P) (T := T) hit hbm (by simpa using hc)
  have hin : ∀ e, e ∈ leftA es.toArray sn ↔ e ∈ es ∧ ¬ e.born ∈ seen.map (fun e => e.born) := fun e => by
    unfold leftA
    rw [Array.mem_filter, hsn]
    simp
  generalize hl : leftA es.toArray sn = l at hstart hin
  by_cases he : l = #[]
  · subst he
    refine hdone none ⟨fun _ e hem => Decidable.byContradiction fun hn => ?_, fun e h => (by cases h)⟩ w ?_ (by simpa using hs)
    · have := (hin e).2 ⟨hem, hn⟩
      simp at this
    · rw [hstart]
      simp [Question.forced, nextV, nextA, cands, stepN]
  · have hne : l.isEmpty = false := by
      cases h : l.isEmpty
      · rfl
      · exact absurd (by simpa using h) he
    have hpos : 0 < l.size := by
      rcases Nat.eq_zero_or_pos l.size with h | h
      · exact absurd (Array.eq_empty_of_size_eq_zero h) he
      · exact h
    have hcs : cands l = l.map some := by unfold cands; rw [hne]; simp
    rw [hcs, Array.size_map] at hstart
    obtain ⟨i, w', hr, hi, hw⟩ := choose_lt (P := P) hpos w
    have hei : (l.map some)[i]? = some (some l[i]) := by simp [hi]
    have hmem := (hin l[i]).1 (Array.getElem_mem hi)
    have hs' : Sat W w' (sep (itH it m c seen) (seps R)) := by
      rcases hw with rfl | rfl
      · exact hs
      · exact hs.drew
    have hit' : w'.heap[it]? = some (.mapIter (some m) c sn c) := by rw [hsn]; exact (obj_lies (b := it) (x := .mapIter (some m) c (seen.map (·.born)).toArray c) hs').2.1
    refine hdone (some l[i]) ⟨fun h => (by cases h), fun e h => (by cases h; exact hmem)⟩ { w' with heap := w'.heap.setIfInBounds it (.mapIter (some m) c (sn.push l[i].born) c) } ?_ ?_
    · rw [hstart, hr]
      simp only [Result.andThen_ok, hei, stepN, Sem.run_bind, setObjR _ hit', Sem.run_pure]
      rfl
    · have := hs'.setObj (.mapIter (some m) c (sn.push l[i].born) c) rfl
      refine this.eq ?_
      unfold itH
      rw [hsn]
      congr 3
      simp
end
end Go.SLYtnceicnimongcaaGreat
namespace Go.SLYtnceicnimongcaaGreat
open Go Go.RowKit

def dueOf (n : Int) (l : List MapEntry) : List Int := (l.filter fun e => decide ((entI e).2 ≤ n)).map fun e => (entI e).1
structure SeenOk (es seen : List MapEntry) : Prop where
  nd : (seen.map fun e => e.born).Nodup
  sub : ∀ e ∈ seen, e ∈ es
theorem SeenOk.zero (es : List MapEntry) : SeenOk es [] := ⟨.nil, fun e h => by cases h⟩
theorem SeenOk.len {es seen : List MapEntry} (h : SeenOk es seen) : seen.length ≤ es.length := by
  have := List.Nodup.length_le_of_subset (l₂ := es.map fun e => e.born) h.nd (fun b hb => by
    obtain ⟨e, he, rfl⟩ := List.mem_map.1 hb
    exact List.mem_map.2 ⟨e, h.sub e he, rfl⟩)
  simpa using this
theorem SeenOk.next {es seen : List MapEntry} (h : SeenOk es seen) {e : MapEntry} (he : e ∈ es) (hn : ¬ e.born ∈ seen.map (fun e => e.born)) : SeenOk es (seen ++ [e]) := by
  refine ⟨?_, fun x hx => ?_⟩
  · rw [List.map_append, List.nodup_append]
    refine ⟨h.nd, by simp, fun a ha b hb => ?_⟩
    simp only [List.map_cons, List.map_nil, List.mem_cons, List.not_mem_nil, or_false] at hb
    subst hb
    exact fun e' => hn (e' ▸ ha)
  · rcases List.mem_append.1 hx with hx | hx
    · exact h.sub x hx
    · simp only [List.mem_cons, List.not_mem_nil, or_false] at hx; subst hx; exact he
theorem nodup_of_map {α β : Type} {f : α → β} : ∀ {l : List α}, (l.map f).Nodup → l.Nodup
  | [], _ => .nil
  | x :: l, h => by
    simp only [List.map_cons, List.nodup_cons] at h
    exact List.nodup_cons.2 ⟨fun hx => h.1 (List.mem_map_of_mem hx), nodup_of_map h.2⟩
theorem SeenOk.all {es seen : List MapEntry} (h : SeenOk es seen) (hd : (es.map fun e => e.born).Nodup) (ha : ∀ e ∈ es, e.born ∈ seen.map (fun e => e.born)) : seen.Perm es := by
  refine (List.perm_ext_iff_of_nodup (nodup_of_map h.nd) (nodup_of_map hd)).2 fun e => ⟨h.sub e, fun he => ?_⟩
  obtain ⟨x, hx, hb⟩ := List.mem_map.1 (ha e he)
  have hxe := h.sub x hx
  clear ha h
  have : x = e := by
    induction es with
    | nil => cases he
    | cons y es ih =>
      simp only [List.map_cons, List.nodup_cons] at hd
      rcases List.mem_cons.1 he with h1 | h1
      · rcases List.mem_cons.1 hxe with h2 | h2
        · rw [h1, h2]
        · exact absurd (List.mem_map.2 ⟨x, h2, by rw [hb, h1]⟩) hd.1
      · rcases List.mem_cons.1 hxe with h2 | h2
        · exact absurd (List.mem_map.2 ⟨e, h1, by rw [← hb, h2]⟩) hd.1
        · exact ih hd.2 h1 h2
  rwa [← this]
end Go.SLYtnceicnimongcaaGreat
namespace Go.SLYtnceicnimongcaaGreat
open Go Go.RowKit Go.Proofs

end Go.SLYtnceicnimongcaaGreat
namespace Go.SLYtnceicnimongcaaGreat
open Go Go.RowKit Go.Proofs Go.Proofs.Tryz

theorem wheel_Sleep {W : World} {b : Nat} {w : Whl} {who n : Int} (hn : 0 ≤ w.now ∧ w.now ≤ 1099511627776) : Fn Tryz.prog W 147 [ptr b, .int .i64 who, .int .i64 n] [whlH b w] Unit (fun _ => .int .i64 (w.sleep who n).1) (fun _ => True) (fun _ => [whlH b (w.sleep who n).2]) := by
  refine Fn.intro (N := 38) func147 rfl ntmps147 rfl fun F => ?_
  show GoC _ _ _ _ _ _ [whlH b w, F]
  refine .o1 (C := whlH b w) .auto rfl ?_
  rintro m -
  refine .s (.r (.p (.a rfl) (.n (.t (.s (.b (.s (.r (.p (.m rfl) (.p (.eqp rfl rfl) (.p (.m rfl) (.g (.m rfl) (.g (.lss rfl rfl) (.p (.u rfl rfl) (.p (.m rfl) ?_)))))))))))))))
  apply GoL.segOD 3 17 14 [14, 15, 16, 17] rfl
  · intro h14
    refine .g (.m rfl) (.g (.gtr rfl rfl) (.p (.u rfl rfl) (.n ?_)))
    refine .seg .auto rfl (by first | exact fun _ h => h | exact Ent.kept .auto)
  · intro h14
    refine .u (.u (.p (.t rfl rfl) (.n ?_)))
    refine .seg .auto rfl (by first | exact fun _ h => h | exact Ent.kept .auto)
  refine .p (.a rfl) (.n (.t (.cond rfl (fun h7 => ?_) (fun h7 => ?_))))
  · refine .s (.r (.p (.a rfl) (.n (.t (.e (.br (.tr ?_)))))))
    rw [show w.sleep who n = (1, w) from by unfold Whl.sleep; rw [if_pos (by simpa using h7)]]
    refine .ret1 rfl rfl fun w s => ⟨(), ?_, trivial, finE .auto s⟩
    rfl
  · refine .s (.r (.p (.m rfl) (.p (.n rfl) (.p (.f rfl) (.p (.l rfl) (.p (.m rfl) ?_))))))
    refine .p (.lookI underlying118 underlying3 zeroValue3 rfl rfl .auto) ?_
    refine .p (.gtr rfl rfl) (.p (.a rfl) (.n (.t (.condD rfl (fun h18 => ?_) (fun h18 => ?_)))))
    · refine .s (.r (.p (.a rfl) (.n (.t (.e (.br (.tr ?_)))))))
      rw [show w.sleep who n = (4, w) from by unfold Whl.sleep; rw [if_neg (by simpa using h7), if_pos h18]]
      refine .ret1 rfl rfl fun w s => ⟨(), ?_, trivial, finE .auto s⟩
      rfl
    · refine .v (.b (.t (.s ?_)))
      refine .draw [] [1, 1, 1, 1, 1, 1, 1, 1, 1, 1, 1, 1, 3] rfl (by kernel_rfl) ?_
      simp only [Bool.or_eq_false_iff, decide_eq_false_iff_not] at h7
      refine .p (.m rfl) (.p (.n rfl) (.p (.f rfl) (.p (.l rfl) (.p (.m rfl) (.p (.m rfl) ?_)))))
      refine .p (.n rfl) (.p (.z rfl) (.p (.l rfl) (.p (.m rfl) ?_)))
      refine .p (.add rfl rfl (by omega)) ?_
      refine .p (.min2m rfl rfl) ?_
      refine .d3 rfl (Does.mapSet underlying118 underlying3 rfl rfl rfl .auto) ?_
      rintro _ _ ⟨rfl, rfl⟩
      refine .n (.t (.s (.r (.p (.a rfl) (.n (.t (.e ?_)))))))
      rw [show w.sleep who n = (0, { w with till := mapSet w.till who (min (w.now + n) 1099511627776) }) from by unfold Whl.sleep; rw [if_neg (by omega), if_neg h18]]
      refine .ret1 rfl rfl fun w s => ⟨(), ?_, trivial, finE .auto s⟩
      rfl

end Go.SLYtnceicnimongcaaGreat
namespace Go.SLYtnceicnimongcaaGreat
open Go Go.RowKit Go.Proofs Go.Proofs.Tryz

theorem dng_other {W : World} {bd b p : Nat} {ps : List (Option Nat)} {d : Dng} {h : Int} (h0 : 0 ≤ h) (hT : TakeOk d.s.table) (hs : ∀ n, slotFind d.s.table h = some n → LiveAt ps d.s n) : Fn Tryz.prog W 114 [ptr bd, .int .u64 h] [dngX bd b p ps d] Unit (fun _ => .tuple #[.int .i64 (((d.other h).1 : Nat) : Int), .int .i64 (d.other h).2]) (fun _ => True) (fun _ => [dngX bd b p ps d]) := by
  refine Fn.intro (N := 60) func114 rfl ntmps114 rfl fun F => ?_
  show GoC _ _ _ _ _ _ [dngX bd b p ps d, F]
  refine .o2 (C := dngX bd b p ps d) .auto rfl ?_
  rintro vw ve -
  refine .o10 (C := spcX b ps d.s) .auto rfl ?_
  rintro fv sv pv bt vm bg vt bk bw vr -
  refine .s (.r (.p (.a rfl) (.p (.a rfl) (.n (.t (.s (.r (.p (.m rfl) (.p (.n rfl) (.p (.z rfl) (.p (.l rfl) ?_)))))))))))
  refine .p (.n rfl) (.p (.f rfl) (.p (.l rfl) (.p (.m rfl) ?_)))
  refine .does rfl (Does.callE rfl call131 rfl (slot_Find hT h0) .auto) ?_
  rintro _ _ ⟨⟨⟩, -, rfl, rfl⟩
  refine .p (.m rfl) ?_
  refine .p (.extract (v := .int .i64 (((slotFind d.s.table h).getD 0 : Nat) : Int)) rfl rfl) ?_
  refine .p (.extract (v := .bool (slotFind d.s.table h).isSome) rfl rfl) ?_
  refine .p (.a rfl) (.p (.a rfl) (.n (.t (.s (.b (.s (.r ?_)))))))
  obtain ⟨m, hm⟩ : ∃ m, m = (slotFind d.s.table h).getD 0 := ⟨_, rfl⟩
  rw [← hm]
  refine .p (.m rfl) (.p (.not rfl) (.p (.m rfl) ?_))
  refine .part (t := 23) rfl (fun h23 => ?_) (fun h23 => ?_)
  · refine .u (.u (.u (.u (.u (.u (.p (.t rfl rfl) (.p (.m rfl) (.u (.u (.u (.u (.u (.u (.u (.u (.u (.u (.u (.u (.p (.t rfl rfl) (.p (.a rfl) (.n (.t (.condT rfl ?_))))))))))))))))))))))))
    refine .s (.r (.p (.a rfl) (.p (.a rfl) (.n (.t (.e (.br (.tr ?_))))))))
    rw [other_no (Option.isNone_iff_eq_none.mp (by simpa using h23))]
    refine .ret2 rfl rfl rfl fun w s => ⟨(), ?_, trivial, finE .auto s⟩
    rfl
  · obtain ⟨n, hf⟩ : ∃ n, slotFind d.s.table h = some n := Option.isSome_iff_exists.mp (by simpa using h23)
    obtain rfl : m = n := by rw [hm, hf]; rfl
    obtain ⟨hm16, q, u, hq, hu, hR⟩ := hs m hf
    refine .fr .auto (thrs_out hq hu) ?_
    refine .g (.m rfl) (.g (.m rfl) (.g (.n rfl) (.g (.f rfl) (.g (.l rfl) (.g (.eql rfl rfl) (.p (.u rfl rfl) (.p (.m rfl) ?_)))))))
    refine .partD (t := 31) rfl (fun h31 => ?_) (fun h31 => ?_)
    · refine .u (.u (.u (.u (.u (.u (.u (.u (.u (.u (.u (.u (.p (.t rfl rfl) (.p (.a rfl) (.n (.t (.condT rfl ?_))))))))))))))))
      refine .s (.r (.p (.a rfl) (.p (.a rfl) (.n (.t (.e (.br (.tr ?_))))))))
      refine .to (A := thrsH ps d.s.thr) (Bs := [arr q 0 (thrC u), thrsH (ps.set m none) (d.s.thr.set m none)]) .auto (thrs_keep hq hu) ?_
      rw [other_self hf hu (.inl (Int.ofNat_inj.mp h31))]
      refine .ret2 rfl rfl rfl fun w s => ⟨(), ?_, trivial, finE .auto s⟩
      rfl
    · refine .g (.m rfl) (.g (.n rfl) (.g (.z rfl) (.g (.l rfl) (.g (.m rfl) ?_))))
      refine .g (.n rfl) (.g (.f rfl) ?_)
      refine .g (.ixArr m underlying70 sizeOf69 rfl rfl rfl hm16) ?_
      refine .g (.ld rfl (Cell.a (by rw [Nat.mul_one, spcC_get hm16, getD_of hq]))) ?_
      refine .g (.n rfl) (.g (.f rfl) (.g (.l rfl) (.p (.u rfl rfl) (.p (.a rfl) (.n (.t (.cond rfl (fun h20 => ?_) (fun h20 => ?_))))))))
      · refine .s (.r (.p (.a rfl) (.p (.a rfl) (.n (.t (.e (.br (.tr ?_))))))))
        refine .to (A := thrsH ps d.s.thr) (Bs := [arr q 0 (thrC u), thrsH (ps.set m none) (d.s.thr.set m none)]) .auto (thrs_keep hq hu) ?_
        rw [other_self hf hu (.inr h20)]
        refine .ret2 rfl rfl rfl fun w s => ⟨(), ?_, trivial, finE .auto s⟩
        rfl
      · have hno : ¬ (m = d.n ∨ u.detached = true) := fun hh => hh.elim (fun e => h31 (Int.ofNat_inj.mpr e)) (fun e => by rw [h20] at e; cases e)
        refine .s (.r (.p (.m rfl) (.p (.n rfl) (.p (.z rfl) (.p (.l rfl) (.p (.m rfl) ?_))))))
        refine .p (.n rfl) (.p (.f rfl) ?_)
        refine .p (.ixArr m underlying70 sizeOf69 rfl rfl rfl hm16) ?_
        refine .p (.ld rfl (Cell.a (by rw [Nat.mul_one, spcC_get hm16, getD_of hq]))) ?_
        refine .p (.n rfl) (.p (.f rfl) (.p (.l rfl) (.p (.neq rfl rfl) (.p (.a rfl) (.n (.t (.condD rfl (fun h45 => ?_) (fun h45 => ?_))))))))
        · refine .s (.r (.p (.a rfl) (.p (.a rfl) (.n (.t (.e (.br (.tr ?_))))))))
          refine .to (A := thrsH ps d.s.thr) (Bs := [arr q 0 (thrC u), thrsH (ps.set m none) (d.s.thr.set m none)]) .auto (thrs_keep hq hu) ?_
          rw [other_join hf hu hno h45]
          refine .ret2 rfl rfl rfl fun w s => ⟨(), ?_, trivial, finE .auto s⟩
          rfl
        · refine .v (.b (.t (.s (.r (.p (.m rfl) (.p (.a rfl) (.p (.a rfl) (.n (.t (.e ?_))))))))))
          refine .to (A := thrsH ps d.s.thr) (Bs := [arr q 0 (thrC u), thrsH (ps.set m none) (d.s.thr.set m none)]) .auto (thrs_keep hq hu) ?_
          rw [other_ok hf hu hno (Decidable.byContradiction h45)]
          refine .ret2 rfl rfl rfl fun w s => ⟨(), ?_, trivial, finE .auto s⟩
          rfl

theorem dng_detach {W : World} {bd b p : Nat} {ps : List (Option Nat)} {d : Dng} {t : Thr} (hp : ps[d.n]? = some (some p)) (ht : d.s.thr[d.n]? = some (some t)) (hk : CallOk ps d t) : Fn Tryz.prog W 101 [ptr bd] [dngX bd b p ps d] (List (Option Nat)) (fun _ => .tuple #[]) (fun _ => True) (fun qs => [dngX bd b p qs d.detach]) := by
  refine Fn.intro (N := 51) func101 rfl ntmps101 rfl fun F => ?_
  show GoC _ _ _ _ _ _ [dngX bd b p ps d, F]
  refine .s (.r (.p (.m rfl) ?_))
  refine .does rfl (Does.callE rfl call102 rfl (dng_a hp ht hk.I.a) .auto) ?_
  rintro _ _ ⟨⟨⟩, -, rfl, rfl⟩
  have hx0 : 0 ≤ d.a := by
    unfold Dng.a; rw [dng_t ht]; exact (hk.R.r _).1
  obtain ⟨x, hx⟩ : ∃ x, x = d.a := ⟨_, rfl⟩
  rw [← hx]
  rw [← hx] at hx0
  refine .p (.a rfl) (.n (.t (.s (.r (.p (.m rfl) (.p (.m rfl) ?_))))))
  refine .does rfl (Does.callE rfl call114 rfl (dng_other hx0 hk.T (hk.slot x)) .auto) ?_
  rintro _ _ ⟨⟨⟩, -, rfl, rfl⟩
  refine .p (.m rfl) ?_
  refine .p (.extract (v := .int .i64 (((d.other x).1 : Nat) : Int)) rfl rfl) ?_
  refine .p (.extract (v := .int .i64 (d.other x).2) rfl rfl) ?_
  refine .p (.a rfl) (.p (.a rfl) (.n (.t (.s (.b (.s (.r (.p (.m rfl) (.p (.neq rfl rfl) (.p (.a rfl) (.n (.t (.condD rfl (fun h24 => ?_) (fun h24 => ?_))))))))))))))
  · refine .v (.b (.t (.r (.p (.m rfl) (.p (.m rfl) (.p (.m rfl) ?_))))))
    refine .does rfl (Does.callE rfl call99 rfl (dng_pass hp ht (Nat.le_trans hk.recs (by decide)) other_bd hk.R.l) .auto) ?_
    rintro _ _ ⟨⟨⟩, -, rfl, rfl⟩
    refine .n ?_
    rw [show d.detach = d.pass x 0 (d.other x).2 from by unfold Dng.detach; rw [← hx]; simp only; rw [if_pos h24]]
    refine .end0 rfl fun w s => ⟨ps, ?_, trivial, finE .auto s⟩
    rfl
  · have hz : (d.other x).2 = 0 := Decidable.byContradiction h24
    obtain ⟨m, q, u, hf, ho1, hmn, hm16, hq, hu, hRu, hdt, hjo⟩ := other_zero (hk.slot x) hz
    rw [ho1, hz]
    refine .s (.r ?_)
    refine .o2 (C := dngX bd b p ps (d)) .auto rfl ?_
    rintro vw ve -
    refine .o10 (C := spcX b ps (d).s) .auto rfl ?_
    rintro fv sv pv bt vm bg vt bk bw vr -
    refine .fr .auto (thrs_out hq hu) ?_
    refine .p (.m rfl) (.p (.n rfl) (.p (.z rfl) (.p (.l rfl) (.p (.m rfl) ?_))))
    refine .p (.n rfl) (.p (.f rfl) ?_)
    refine .p (.ixArr m underlying70 sizeOf69 rfl rfl rfl hm16) ?_
    refine .p (.ld rfl (Cell.a (by rw [Nat.mul_one, spcC_get hm16, getD_of hq]))) ?_
    refine .p (.n rfl) (.p (.f rfl) (.p (.l rfl) (.p (.eql rfl rfl) (.p (.a rfl) (.n (.t (.condD rfl (fun h27 => ?_) (fun h27 => ?_))))))))
    · refine .r ?_
      refine .to (A := thrsH ps d.s.thr) (Bs := [arr q 0 (thrC u), thrsH (ps.set m none) (d.s.thr.set m none)]) .auto (thrs_keep hq hu) ?_
      refine .p (.m rfl) (.p (.n rfl) (.p (.z rfl) (.p (.l rfl) (.p (.m rfl) ?_))))
      refine .does rfl (Does.callE rfl call95 rfl (core_free (s := d.s) hq hu hk.lt hk.lp hk.T hRu.h.1) .auto) ?_
      rintro _ _ ⟨⟨⟩, -, rfl, rfl⟩
      refine .n (.b (.t (.r (.p (.m rfl) (.p (.m rfl) (.p (.m rfl) ?_))))))
      refine .does rfl (Does.callE rfl call99 rfl (dng_pass (d := d.free m) (ps := ps.set m none) (p := p) (t := t) (by show (ps.set m none)[d.n]? = _; rw [List.getElem?_set_ne hmn]; exact hp) (by show (d.s.thr.set m none)[d.n]? = _; rw [List.getElem?_set_ne hmn]; exact ht) (Nat.le_trans hk.recs (by decide)) (by decide) hk.R.l) .auto) ?_
      rintro _ _ ⟨⟨⟩, -, rfl, rfl⟩
      refine .n ?_
      rw [show d.detach = (d.free m).pass x 0 0 from by unfold Dng.detach; rw [← hx]; simp only; rw [if_neg (by rw [hz]; simp), ho1, spc_t hu, if_pos h27]]
      refine .end0 rfl fun w s => ⟨ps.set m none, ?_, trivial, finE .auto s⟩
      rfl
    · refine .r (.p (.m rfl) (.p (.n rfl) (.p (.z rfl) (.p (.l rfl) (.p (.m rfl) ?_)))))
      refine .p (.n rfl) (.p (.f rfl) ?_)
      refine .p (.ixArr m underlying70 sizeOf69 rfl rfl rfl hm16) ?_
      refine .p (.ld rfl (Cell.a (by rw [Nat.mul_one, spcC_get hm16, getD_of hq]))) ?_
      refine .p (.n rfl) (.p (.f rfl) ?_)
      refine .does rfl (Does.st sizeOf4 rfl rfl rfl rfl) ?_
      rintro _ _ ⟨rfl, rfl⟩
      rw [thr_det]
      refine .n (.b (.t (.r (.p (.m rfl) (.p (.m rfl) (.p (.m rfl) ?_))))))
      refine .to (A := thrsH ps (d.s.thr.set m (some ({ u with detached := true })))) (Bs := [arr q 0 (thrC ({ u with detached := true })), thrsH (ps.set m none) (d.s.thr.set m none)]) .auto (thrs_shut (List.getElem?_eq_some_iff.1 hu).1 hq) ?_
      refine .does rfl (Does.callE rfl call99 rfl (dng_pass (d := { d with s := d.s.setT m { u with detached := true } }) (ps := ps) (p := p) (t := t) hp (setT_thr ht hmn) (Nat.le_trans hk.recs (by decide)) (by decide) hk.R.l) .auto) ?_
      rintro _ _ ⟨⟨⟩, -, rfl, rfl⟩
      refine .n ?_
      rw [show d.detach = ({ d with s := d.s.setT m { u with detached := true } } : Dng).pass x 0 0 from by unfold Dng.detach; rw [← hx]; simp only; rw [if_neg (by rw [hz]; simp), ho1, spc_t hu, if_neg h27]]
      refine .end0 rfl fun w s => ⟨ps, ?_, trivial, finE .auto s⟩
      rfl

theorem dng_join {W : World} {bd b p : Nat} {ps : List (Option Nat)} {d : Dng} {t : Thr} (hp : ps[d.n]? = some (some p)) (ht : d.s.thr[d.n]? = some (some t)) (hk : CallOk ps d t) : Fn Tryz.prog W 100 [ptr bd] [dngX bd b p ps d] (List (Option Nat)) (fun _ => .tuple #[]) (fun _ => True) (fun qs => [dngX bd b p qs d.join]) := by
  refine Fn.intro (N := 94) func100 rfl ntmps100 rfl fun F => ?_
  show GoC _ _ _ _ _ _ [dngX bd b p ps d, F]
  have hIa := hk.I.a
  have hRl := hk.R.l
  refine .s (.r (.p (.m rfl) ?_))
  refine .does rfl (Does.callE rfl call113 rfl (dng_b hp ht hk.I.b) .auto) ?_
  rintro _ _ ⟨⟨⟩, -, rfl, rfl⟩
  have hx0 : 0 ≤ d.b := by
    unfold Dng.b; rw [dng_t ht]; exact (hk.R.r _).1
  obtain ⟨x, hx⟩ : ∃ x, x = d.b := ⟨_, rfl⟩
  rw [← hx]
  rw [← hx] at hx0
  refine .p (.a rfl) (.n (.t (.s (.r (.p (.m rfl) (.p (.m rfl) ?_))))))
  refine .does rfl (Does.callE rfl call114 rfl (dng_other hx0 hk.T (hk.slot x)) .auto) ?_
  rintro _ _ ⟨⟨⟩, -, rfl, rfl⟩
  refine .p (.m rfl) ?_
  refine .p (.extract (v := .int .i64 (((d.other x).1 : Nat) : Int)) rfl rfl) ?_
  refine .p (.extract (v := .int .i64 (d.other x).2) rfl rfl) ?_
  refine .p (.a rfl) (.p (.a rfl) (.n (.t (.b (.s (.r (.p (.m rfl) (.p (.neq rfl rfl) (.p (.a rfl) (.n (.t (.condD rfl (fun h37 => ?_) (fun h37 => ?_)))))))))))))
  · refine .r (.p (.m rfl) (.p (.m rfl) (.p (.m rfl) ?_)))
    refine .does rfl (Does.callE rfl call99 rfl (dng_pass hp ht (Nat.le_trans hk.recs (by decide)) other_bd hk.R.l) .auto) ?_
    rintro _ _ ⟨⟨⟩, -, rfl, rfl⟩
    refine .n (.b ?_)
    rw [show d.join = d.pass x 0 (d.other x).2 from by unfold Dng.join; rw [← hx]; simp only; rw [if_pos h37]]
    refine .end0 rfl fun w s => ⟨ps, ?_, trivial, finE .auto s⟩
    rfl
  · have hz : (d.other x).2 = 0 := Decidable.byContradiction h37
    obtain ⟨m, q, u, hf, ho1, hmn, hm16, hq, hu, hRu, hdt, hjo⟩ := other_zero (hk.slot x) hz
    rw [ho1, hz]
    refine .s (.r ?_)
    refine .o2 (C := dngX bd b p ps (d)) .auto rfl ?_
    rintro vw ve -
    refine .o10 (C := spcX b ps (d).s) .auto rfl ?_
    rintro fv sv pv bt vm bg vt bk bw vr -
    refine .fr .auto (thrs_out hq hu) ?_
    refine .p (.m rfl) (.p (.n rfl) (.p (.z rfl) (.p (.l rfl) (.p (.m rfl) ?_))))
    refine .p (.n rfl) (.p (.f rfl) ?_)
    refine .p (.ixArr m underlying70 sizeOf69 rfl rfl rfl hm16) ?_
    refine .p (.ld rfl (Cell.a (by rw [Nat.mul_one, spcC_get hm16, getD_of hq]))) ?_
    refine .p (.n rfl) (.p (.f rfl) (.p (.l rfl) (.p (.eql rfl rfl) (.p (.a rfl) (.n (.t (.condD rfl (fun h44 => ?_) (fun h44 => ?_))))))))
    · refine .s (.r (.p (.m rfl) (.p (.n rfl) (.p (.z rfl) (.p (.l rfl) (.p (.m rfl) ?_))))))
      refine .p (.n rfl) (.p (.f rfl) ?_)
      refine .p (.ixArr m underlying70 sizeOf69 rfl rfl rfl hm16) ?_
      refine .p (.ld rfl (Cell.a (by rw [Nat.mul_one, spcC_get hm16, getD_of hq]))) ?_
      refine .p (.n rfl) (.p (.f rfl) (.p (.l rfl) (.p (.a rfl) (.n (.t (.s ?_))))))
      refine .to (A := thrsH ps d.s.thr) (Bs := [arr q 0 (thrC u), thrsH (ps.set m none) (d.s.thr.set m none)]) .auto (thrs_keep hq hu) ?_
      refine .fr .auto (thrs_out hp ht) ?_
      refine .draw [arr bd 0 (dngC b p d vw ve)] [1, 1, 1, 1, 1, 1, 1, 1, 1, 1, 1, 1, 1, 1, 3] rfl (by kernel_rfl) ?_
      refine .p (.m rfl) (.p (.n rfl) (.p (.f rfl) (.p (.l rfl) (.p (.m rfl) ?_))))
      refine .p (.n rfl) (.p (.f rfl) (.p (.o rfl) (.p (.l rfl) (.p (.m rfl) ?_))))
      refine .p (.n rfl) (.p (.z rfl) (.p (.f rfl) ?_))
      refine .p (.ixArr d.i.a.toNat underlying126 sizeOf78 rfl rfl (by omega) (by omega)) ?_
      refine .d3 rfl (Does.st sizeOf78 rfl rfl rfl (Nat.blt_eq.mpr (by show 2 + d.i.a.toNat * 1 < 18; omega))) ?_
      rintro _ _ ⟨rfl, rfl⟩
      rw [thr_setI _ (by omega) (by omega) hRl]
      refine .to (A := thrsH ps (d.s.thr.set d.n (some (t.put d.i.a u.value)))) (Bs := [arr p 0 (thrC (t.put d.i.a u.value)), thrsH (ps.set d.n none) (d.s.thr.set d.n none)]) .auto (thrs_shut (List.getElem?_eq_some_iff.1 ht).1 hp) ?_
      refine .n (.t (.s (.r (.p (.m rfl) (.p (.n rfl) (.p (.z rfl) (.p (.l rfl) (.p (.m rfl) ?_))))))))
      refine .does rfl (Does.callE rfl call95 rfl (core_free (s := (d.setT (t.put d.i.a u.value)).s) hq (setT_thr hu (Ne.symm hmn)) (by simp [Dng.setT, Spc.setT, hk.lt]) hk.lp hk.T hRu.h.1) .auto) ?_
      rintro _ _ ⟨⟨⟩, -, rfl, rfl⟩
      refine .n (.t (.r (.p (.m rfl) (.p (.m rfl) (.p (.m rfl) ?_)))))
      refine .does rfl (Does.callE rfl call99 rfl (dng_pass (d := (d.setT (t.put d.i.a u.value)).free m) (ps := ps.set m none) (p := p) (t := t.put d.i.a u.value) (by show (ps.set m none)[d.n]? = _; rw [List.getElem?_set_ne hmn]; exact hp) (by show ((d.setT (t.put d.i.a u.value)).s.thr.set m none)[d.n]? = _; rw [List.getElem?_set_ne hmn]; exact setT_same ht) (Nat.le_trans hk.recs (by decide)) (by decide) (by rw [put_len]; exact hRl)) .auto) ?_
      rintro _ _ ⟨⟨⟩, -, rfl, rfl⟩
      refine .n (.b ?_)
      rw [show d.join = ((d.setT (t.put d.i.a u.value)).free m).pass x u.value 0 from by unfold Dng.join; rw [← hx]; simp only; rw [if_neg (by rw [hz]; simp), ho1, spc_t hu, if_pos h44, dng_t ht]]
      refine .end0 rfl fun w s => ⟨ps.set m none, ?_, trivial, finE .auto s⟩
      rfl
    · refine .s ?_
      refine .draw [arr bd 0 (dngC b p d vw ve)] [1, 1, 1, 1, 1, 1, 1, 1, 1, 1, 1, 1, 1, 1, 1, 3] rfl (by kernel_rfl) ?_
      refine .p (.m rfl) (.p (.n rfl) (.p (.z rfl) (.p (.l rfl) (.p (.m rfl) ?_))))
      refine .p (.n rfl) (.p (.f rfl) ?_)
      refine .p (.ixArr m underlying70 sizeOf69 rfl rfl rfl hm16) ?_
      refine .p (.ld rfl (Cell.a (by rw [Nat.mul_one, spcC_get hm16, getD_of hq]))) ?_
      refine .p (.m rfl) (.p (.n rfl) (.p (.f rfl) (.p (.l rfl) ?_)))
      refine .p (.n rfl) (.p (.f rfl) ?_)
      refine .d3 rfl (Does.st sizeOf3 rfl rfl rfl rfl) ?_
      rintro _ _ ⟨rfl, rfl⟩
      rw [thr_joiner]
      refine .to (A := thrsH ps (d.s.thr.set m (some ({ u with joiner := d.n })))) (Bs := [arr q 0 (thrC ({ u with joiner := d.n })), thrsH (ps.set m none) (d.s.thr.set m none)]) .auto (thrs_shut (List.getElem?_eq_some_iff.1 hu).1 hq) ?_
      refine .n (.t (.r (.p (.m rfl) (.p (.m rfl) (.p (.n rfl) (.p (.f rfl) (.p (.o rfl) (.p (.l rfl) (.p (.m rfl) ?_)))))))))
      refine .does rfl (Does.callE rfl call115 rfl (dng_block (d := { d with s := d.s.setT m { u with joiner := d.n } }) (ps := ps) (p := p) (t := t) hp (setT_thr ht hmn) (Nat.le_trans hk.recs (by decide))) .auto) ?_
      rintro _ _ ⟨⟨⟩, -, rfl, rfl⟩
      refine .n (.b ?_)
      rw [show d.join = ({ d with s := d.s.setT m { u with joiner := d.n } } : Dng).block 4 d.i.a x 0 from by unfold Dng.join; rw [← hx]; simp only; rw [if_neg (by rw [hz]; simp), ho1, spc_t hu, if_neg h44]]
      refine .end0 rfl fun w s => ⟨ps, ?_, trivial, finE .auto s⟩
      rfl

theorem dng_sleep {W : World} {bd b p : Nat} {ps : List (Option Nat)} {d : Dng} {t : Thr} (hp : ps[d.n]? = some (some p)) (ht : d.s.thr[d.n]? = some (some t)) (hk : CallOk ps d t) : Fn Tryz.prog W 129 [ptr bd] [dngX bd b p ps d] Unit (fun _ => .tuple #[]) (fun _ => True) (fun _ => [dngX bd b p ps (d.sleep)]) := by
  refine Fn.intro (N := 34) func129 rfl ntmps129 rfl fun F => ?_
  show GoC _ _ _ _ _ _ [dngX bd b p ps d, F]
  refine .s (.r (.p (.m rfl) ?_))
  refine .does rfl (Does.callE rfl call102 rfl (dng_a hp ht hk.I.a) .auto) ?_
  rintro _ _ ⟨⟨⟩, -, rfl, rfl⟩
  have hx0 : 0 ≤ d.a := by
    unfold Dng.a; rw [dng_t ht]; exact (hk.R.r _).1
  obtain ⟨x, hx⟩ : ∃ x, x = d.a := ⟨_, rfl⟩
  rw [← hx]
  rw [← hx] at hx0
  refine .p (.a rfl) (.n (.t (.b (.s (.r (.p (.m rfl) (.p (.eql rfl rfl) (.p (.a rfl) (.n (.t (.condD rfl (fun h22 => ?_) (fun h22 => ?_))))))))))))
  · refine .r (.p (.m rfl) (.p (.m rfl) ?_))
    refine .does rfl (Does.callE rfl call99 rfl (dng_pass hp ht (Nat.le_trans hk.recs (by decide)) (by decide) hk.R.l) .auto) ?_
    rintro _ _ ⟨⟨⟩, -, rfl, rfl⟩
    refine .n (.b ?_)
    rw [show d.sleep = d.pass x 0 0 from by unfold Dng.sleep; rw [← hx]; simp only; rw [if_pos h22]]
    refine .end0 rfl fun w s => ⟨(), ?_, trivial, finE .auto s⟩
    rfl
  · refine .s (.r (.p (.m rfl) (.p (.gtr rfl rfl) (.p (.a rfl) (.n (.t (.condD rfl (fun h28 => ?_) (fun h28 => ?_))))))))
    · refine .r (.p (.m rfl) (.p (.m rfl) ?_))
      refine .does rfl (Does.callE rfl call99 rfl (dng_pass hp ht (Nat.le_trans hk.recs (by decide)) (by decide) hk.R.l) .auto) ?_
      rintro _ _ ⟨⟨⟩, -, rfl, rfl⟩
      refine .n (.b ?_)
      rw [show d.sleep = d.pass x 0 1 from by unfold Dng.sleep; rw [← hx]; simp only; rw [if_neg h22, if_pos h28]]
      refine .end0 rfl fun w s => ⟨(), ?_, trivial, finE .auto s⟩
      rfl
    · refine .s ?_
      refine .o2 (C := dngX bd b p ps (d)) .auto rfl ?_
      rintro vw ve -
      refine .o10 (C := spcX b ps (d).s) .auto rfl ?_
      rintro fv sv pv bt vm bg vt bk bw vr -
      refine .draw [arr bd 0 (dngC b p d vw ve), arr b 0 (spcC fv sv pv d.s.prg bt ps vm bg vt bk bw vr)] [1, 1, 1, 1, 1, 1, 1, 1, 1, 1, 1, 1, 1, 3] rfl (by kernel_rfl) ?_
      refine .p (.m rfl) (.p (.n rfl) (.p (.z rfl) (.p (.l rfl) ?_)))
      refine .p (.n rfl) (.p (.f rfl) (.p (.l rfl) (.p (.m rfl) ?_)))
      refine .p (.n rfl) (.p (.f rfl) (.p (.l rfl) (.p (.m rfl) ?_)))
      refine .p (.convI underlying78 underlying3 rfl (by omega)) ?_
      refine .d3 rfl (Does.callE rfl call147 rfl (wheel_Sleep hk.wn) .auto) ?_
      rintro _ _ ⟨⟨⟩, -, rfl, rfl⟩
      refine .n (.t (.r (.p (.m rfl) (.p (.m rfl) ?_))))
      refine .does rfl (Does.callE rfl call115 rfl (dng_block (d := d.withW (d.s.wheel.sleep d.n x).2) hp ht (Nat.le_trans hk.recs (by decide))) .auto) ?_
      rintro _ _ ⟨⟨⟩, -, rfl, rfl⟩
      refine .n (.b ?_)
      rw [show d.sleep = (d.withW (d.s.wheel.sleep d.n x).2).block 8 (-1) x 0 from by unfold Dng.sleep; rw [← hx]; simp only; rw [if_neg h22, if_neg h28]]
      refine .end0 rfl fun w s => ⟨(), ?_, trivial, finE .auto s⟩
      rfl

theorem dng_ask {W : World} {bd b p : Nat} {ps : List (Option Nat)} {d : Dng} {t : Thr} (hp : ps[d.n]? = some (some p)) (ht : d.s.thr[d.n]? = some (some t)) (hk : CallOk ps d t) {block y into : Int} (hb : 0 ≤ block) : Fn Tryz.prog W 126 [ptr bd, .int .u64 block, .int .u64 y, .int .i64 into] [dngX bd b p ps d] Unit (fun _ => .tuple #[]) (fun _ => True) (fun _ => [dngX bd b p ps (d.ask block y into)]) := by
  refine Fn.intro (N := 45) func126 rfl ntmps126 rfl fun F => ?_
  show GoC _ _ _ _ _ _ [dngX bd b p ps d, F]
  refine .s (.r (.p (.a rfl) (.n (.t (.s (.s (.r (.p (.m rfl) (.p (.lss rfl rfl) (.n (.t (.condD rfl (fun h10 => ?_) (fun h10 => ?_)))))))))))))
  · refine .o2 (C := dngX bd b p ps (d)) .auto rfl ?_
    rintro vw ve -
    refine .o10 (C := spcX b ps (d).s) .auto rfl ?_
    rintro fv sv pv bt vm bg vt bk bw vr -
    refine .draw [arr bd 0 (dngC b p d vw ve), arr b 0 (spcC fv sv pv d.s.prg bt ps vm bg vt bk bw vr)] [1, 1, 1, 1, 1, 1, 1, 1, 1, 1, 1, 1, 1, 1, 1, 1, 1, 1, 1, 1, 1, 3, 1] rfl (by kernel_rfl) ?_
    refine .p (.m rfl) (.p (.n rfl) (.p (.z rfl) (.p (.l rfl) ?_)))
    refine .p (.n rfl) (.p (.f rfl) (.p (.l rfl) (.p (.m rfl) ?_)))
    refine .p (.n rfl) (.p (.f rfl) (.p (.l rfl) (.p (.m rfl) ?_)))
    refine .p (.convI underlying78 underlying3 rfl (by omega)) ?_
    refine .p (.m rfl) (.p (.n rfl) (.p (.f rfl) (.p (.z rfl) (.p (.l rfl) (.p (.eql rfl rfl) (.p (.m rfl) ?_))))))
    refine .p (.bld4 (fun v1 v2 v3 v4 => [v1, v2, v3, v4]) rfl rfl rfl rfl (by kernel_rfl)) ?_
    refine .d3 rfl (Does.callE rfl call144 rfl (disk_Ask (r := (⟨d.n, block, decide (d.i.op = 34), y⟩ : Rqs)) hk.dw) .auto) ?_
    rintro _ _ ⟨⟨⟩, -, rfl, rfl⟩
    refine .p (.a rfl) (.n (.t (.s (.s (.r (.p (.m rfl) (.p (.neq rfl rfl) (.n (.t (.condD rfl (fun h34 => ?_) (fun h34 => ?_)))))))))))
    · refine .s (.r (.p (.m rfl) (.p (.m rfl) (.p (.m rfl) (.p (.m rfl) ?_)))))
      refine .does rfl (Does.callE rfl call99 rfl (dng_pass (d := d.withD (d.s.disk.ask ⟨d.n, block, decide (d.i.op = 34), y⟩).2) hp ht (Nat.le_trans hk.recs (by decide)) ask_bd hk.R.l) .auto) ?_
      rintro _ _ ⟨⟨⟩, -, rfl, rfl⟩
      refine .n (.t (.e (.tr ?_)))
      rw [show d.ask block y into = (d.withD (d.s.disk.ask ⟨d.n, block, decide (d.i.op = 34), y⟩).2).pass block y (d.s.disk.ask ⟨d.n, block, decide (d.i.op = 34), y⟩).1 from by unfold Dng.ask; rw [if_pos h10]; simp only; rw [if_pos h34]]
      refine .ret0 rfl fun w s => ⟨(), ?_, trivial, finE .auto s⟩
      rfl
    · refine .v (.t (.r (.p (.m rfl) (.p (.m rfl) (.p (.m rfl) (.p (.m rfl) ?_))))))
      refine .does rfl (Does.callE rfl call115 rfl (dng_block (d := d.withD (d.s.disk.ask ⟨d.n, block, decide (d.i.op = 34), y⟩).2) hp ht (Nat.le_trans hk.recs (by decide))) .auto) ?_
      rintro _ _ ⟨⟨⟩, -, rfl, rfl⟩
      refine .n ?_
      rw [show d.ask block y into = (d.withD (d.s.disk.ask ⟨d.n, block, decide (d.i.op = 34), y⟩).2).block 5 into block y from by unfold Dng.ask; rw [if_pos h10]; simp only; rw [if_neg h34]]
      refine .end0 rfl fun w s => ⟨(), ?_, trivial, finE .auto s⟩
      rfl
  · refine .v (.t (.s (.s (.r (.p (.m rfl) (.p (.neq rfl rfl) (.n (.t (.condT rfl ?_)))))))))
    refine .s (.r (.p (.m rfl) (.p (.m rfl) (.p (.m rfl) (.p (.m rfl) ?_)))))
    refine .does rfl (Does.callE rfl call99 rfl (dng_pass hp ht (Nat.le_trans hk.recs (by decide)) (by decide) hk.R.l) .auto) ?_
    rintro _ _ ⟨⟨⟩, -, rfl, rfl⟩
    refine .n (.t (.e (.tr ?_)))
    rw [show d.ask block y into = d.pass block y 1 from by unfold Dng.ask; rw [if_neg h10]]
    refine .ret0 rfl fun w s => ⟨(), ?_, trivial, finE .auto s⟩
    rfl

end Go.SLYtnceicnimongcaaGreat
namespace Go.SLYtnceicnimongcaaGreat
open Go Go.RowKit Go.Proofs Go.Proofs.Tryz

theorem dng_aP {W : World} {bd b p : Nat} {d : Dng} {t : Thr} {vw ve : Value} (ht : d.s.thr[d.n]? = some (some t)) (hI : 0 ≤ d.i.a ∧ d.i.a < 8) : Fn Tryz.prog W 102 [ptr bd] [arr bd 0 (dngC b p d vw ve), arr p 0 (thrC t)] Unit (fun _ => .int .u64 d.a) (fun _ => True) (fun _ => [arr bd 0 (dngC b p d vw ve), arr p 0 (thrC t)]) := by
  refine Fn.intro (N := 17) func102 rfl ntmps102 rfl fun F => ?_
  show GoC _ _ _ _ _ _ [arr bd 0 (dngC b p d vw ve), arr p 0 (thrC t), F]
  refine .s (.r (.p (.a rfl) (.n (.t (.s ?_)))))
  refine .draw [] [1, 1, 1, 1, 1, 1, 1, 1, 1, 1, 1, 1, 1, 1, 1] rfl (by kernel_rfl) ?_
  refine .p (.m rfl) (.p (.n rfl) (.p (.f rfl) (.p (.l rfl) (.p (.m rfl) ?_))))
  refine .p (.n rfl) (.p (.f rfl) (.p (.o rfl) (.p (.l rfl) ?_)))
  refine .p (.n rfl) (.p (.z rfl) (.p (.f rfl) ?_))
  refine .p (.ixArr d.i.a.toNat underlying126 sizeOf78 rfl rfl (by omega) (by omega)) ?_
  refine .p (.ld rfl (Cell.a (thr_get (by omega)))) ?_
  refine .p (.a rfl) (.n (.t (.e (.ret1 rfl rfl fun w s => ⟨(), ?_, trivial, finE .auto s⟩))))
  rw [show d.a = t.regs.getD d.i.a.toNat 0 from by unfold Dng.a; rw [dng_t ht]; rfl]

theorem dng_bP {W : World} {bd b p : Nat} {d : Dng} {t : Thr} {vw ve : Value} (ht : d.s.thr[d.n]? = some (some t)) (hI : 0 ≤ d.i.b ∧ d.i.b < 8) : Fn Tryz.prog W 113 [ptr bd] [arr bd 0 (dngC b p d vw ve), arr p 0 (thrC t)] Unit (fun _ => .int .u64 d.b) (fun _ => True) (fun _ => [arr bd 0 (dngC b p d vw ve), arr p 0 (thrC t)]) := by
  refine Fn.intro (N := 17) func113 rfl ntmps113 rfl fun F => ?_
  show GoC _ _ _ _ _ _ [arr bd 0 (dngC b p d vw ve), arr p 0 (thrC t), F]
  refine .s (.r (.p (.a rfl) (.n (.t (.s ?_)))))
  refine .draw [] [1, 1, 1, 1, 1, 1, 1, 1, 1, 1, 1, 1, 1, 1, 1] rfl (by kernel_rfl) ?_
  refine .p (.m rfl) (.p (.n rfl) (.p (.f rfl) (.p (.l rfl) (.p (.m rfl) ?_))))
  refine .p (.n rfl) (.p (.f rfl) (.p (.o rfl) (.p (.l rfl) ?_)))
  refine .p (.n rfl) (.p (.z rfl) (.p (.f rfl) ?_))
  refine .p (.ixArr d.i.b.toNat underlying126 sizeOf78 rfl rfl (by omega) (by omega)) ?_
  refine .p (.ld rfl (Cell.a (thr_get (by omega)))) ?_
  refine .p (.a rfl) (.n (.t (.e (.ret1 rfl rfl fun w s => ⟨(), ?_, trivial, finE .auto s⟩))))
  rw [show d.b = t.regs.getD d.i.b.toNat 0 from by unfold Dng.b; rw [dng_t ht]; rfl]

theorem dng_sem {W : World} {bd b p : Nat} {ps : List (Option Nat)} {d : Dng} {t : Thr} (hp : ps[d.n]? = some (some p)) (ht : d.s.thr[d.n]? = some (some t)) (hk : CallOk ps d t) : Fn Tryz.prog W 106 [ptr bd] [dngX bd b p ps d] Unit (fun _ => .tuple #[]) (fun _ => True) (fun _ => [dngX bd b p ps (d.sem)]) := by
  refine Fn.intro (N := 86) func106 rfl ntmps106 rfl fun F => ?_
  show GoC _ _ _ _ _ _ [dngX bd b p ps d, F]
  refine .o2 (C := dngX bd b p ps (d)) .auto rfl ?_
  rintro vw ve -
  refine .o10 (C := spcX b ps (d).s) .auto rfl ?_
  rintro fv sv pv bt vm bg vt bk bw vr -
  have hnn := hk.nn
  have hn0 := hk.I.n
  refine .s (.r (.p (.m rfl) (.p (.n rfl) (.p (.f rfl) (.p (.o rfl) (.p (.l rfl) ?_))))))
  refine .p (.convI underlying78 underlying3 rfl (by omega)) ?_
  refine .p (.a rfl) (.n (.t (.s (.s (.r (.p (.m rfl) (.p (.n rfl) (.p (.f rfl) (.p (.z rfl) (.p (.l rfl) (.p (.eql rfl rfl) (.n (.t (.condD rfl (fun h19 => ?_) (fun h19 => ?_)))))))))))))))
  · refine .s ?_
    refine .draw [arr bd 0 (dngC b p d vw ve), arr b 0 (spcC fv sv pv d.s.prg bt ps vm bg vt bk bw vr)] [1, 1, 1, 1, 1, 1, 1, 1, 1, 1, 1, 1, 3, 1, 1, 1, 1, 1, 1, 1] rfl (by kernel_rfl) ?_
    refine .p (.m rfl) (.p (.n rfl) (.p (.z rfl) (.p (.l rfl) ?_)))
    refine .p (.n rfl) (.p (.f rfl) (.p (.l rfl) (.p (.m rfl) (.p (.m rfl) ?_))))
    refine .p (.n rfl) (.p (.f rfl) (.p (.l rfl) ?_))
    refine .d3 rfl (Does.callE rfl call124 rfl (gate_Up hk.gl hk.gsem) .auto) ?_
    rintro _ _ ⟨⟨⟩, -, rfl, rfl⟩
    refine .p (.m rfl) ?_
    refine .p (.extract (v := .int .i64 (d.s.gates.up d.i.n d.choice).1) rfl rfl) ?_
    refine .p (.extract (v := .bool (d.s.gates.up d.i.n d.choice).2.1) rfl rfl) ?_
    refine .p (.extract (v := .int .i64 (d.s.gates.up d.i.n d.choice).2.2.1) rfl rfl) ?_
    refine .p (.a rfl) (.p (.a rfl) (.p (.a rfl) (.n (.t (.s (.r (.p (.m rfl) (.p (.m rfl) (.p (.n rfl) (.p (.f rfl) (.p (.o rfl) (.p (.l rfl) (.p (.m rfl) ?_)))))))))))))
    refine .does rfl (Does.callE rfl call99 rfl (dng_pass (d := d.withG (d.s.gates.up d.i.n d.choice).2.2.2) hp ht (Nat.le_trans hk.recs (by decide)) up_bd hk.R.l) .auto) ?_
    rintro _ _ ⟨⟨⟩, -, rfl, rfl⟩
    refine .n (.t (.s (.r (.p (.m rfl) (.p (.m rfl) (.p (.m rfl) ?_))))))
    refine .does rfl (Does.callE rfl call118 rfl (dng_given (n := (d.s.gates.up d.i.n d.choice).1) (ok := (d.s.gates.up d.i.n d.choice).2.1) (d := ((d.withG (d.s.gates.up d.i.n d.choice).2.2.2).pass d.i.n 0 (d.s.gates.up d.i.n d.choice).2.2.1)) (fun h => ⟨(hk.glive _ (up_has h)).1, ((hk.glive _ (up_has h)).2.of (s' := (d.withG (d.s.gates.up d.i.n d.choice).2.2.2).s) rfl).pass (d := d.withG (d.s.gates.up d.i.n d.choice).2.2.2) ht hk.R up_bd⟩) (Nat.le_trans hk.ends (by decide)) (Nat.le_trans hk.wok (by decide))) .auto) ?_
    rintro _ _ ⟨⟨⟩, -, rfl, rfl⟩
    refine .n (.t (.e (.tr ?_)))
    rw [show d.sem = ((d.withG (d.s.gates.up d.i.n d.choice).2.2.2).pass d.i.n 0 (d.s.gates.up d.i.n d.choice).2.2.1).given (d.s.gates.up d.i.n d.choice).1 (d.s.gates.up d.i.n d.choice).2.1 from by unfold Dng.sem; rw [if_pos h19]]
    refine .ret0 rfl fun w s => ⟨(), ?_, trivial, finE .auto s⟩
    rfl
  · refine .v (.t (.s ?_))
    refine .draw [arr bd 0 (dngC b p d vw ve), arr b 0 (spcC fv sv pv d.s.prg bt ps vm bg vt bk bw vr)] [1, 1, 1, 1, 1, 1, 1, 1, 1, 1, 1, 1, 3, 1, 1, 1, 1, 1] rfl (by kernel_rfl) ?_
    refine .p (.m rfl) (.p (.n rfl) (.p (.z rfl) (.p (.l rfl) ?_)))
    refine .p (.n rfl) (.p (.f rfl) (.p (.l rfl) (.p (.m rfl) ?_)))
    refine .p (.n rfl) (.p (.f rfl) (.p (.l rfl) (.p (.m rfl) ?_)))
    refine .d3 rfl (Does.callE rfl call125 rfl (gate_Down hk.gl hk.gsem) .auto) ?_
    rintro _ _ ⟨⟨⟩, -, rfl, rfl⟩
    refine .p (.m rfl) ?_
    refine .p (.extract (v := .bool (d.s.gates.down d.n d.i.n).1) rfl rfl) ?_
    refine .p (.extract (v := .int .i64 (d.s.gates.down d.n d.i.n).2.1) rfl rfl) ?_
    refine .p (.a rfl) (.p (.a rfl) (.n (.t (.s (.s (.r (.p (.m rfl) (.p (.eql rfl rfl) (.p (.m rfl) ?_)))))))))
    apply GoL.segAD 3 70 67 [67, 68, 69, 70] rfl
    · intro h67
      refine .g (.m rfl) (.g (.not rfl) (.p (.t rfl rfl) (.n ?_)))
      refine .seg .auto rfl (by first | exact fun _ h => h | exact Ent.kept .auto)
    · intro h67
      refine .u (.u (.p (.u rfl rfl) (.n ?_)))
      refine .seg .auto rfl (by first | exact fun _ h => h | exact Ent.kept .auto)
    refine .n (.t (.cond rfl (fun h70 => ?_) (fun h70 => ?_)))
    · simp only [Bool.and_eq_true, decide_eq_true_eq, Bool.not_eq_true'] at h70
      refine .s (.r (.p (.m rfl) (.p (.m rfl) (.p (.n rfl) (.p (.f rfl) (.p (.o rfl) (.p (.l rfl) ?_)))))))
      refine .does rfl (Does.callE rfl call115 rfl (dng_block (d := d.withG (d.s.gates.down d.n d.i.n).2.2) hp ht (Nat.le_trans hk.recs (by decide))) .auto) ?_
      rintro _ _ ⟨⟨⟩, -, rfl, rfl⟩
      refine .n (.t (.e (.tr ?_)))
      rw [show d.sem = (d.withG (d.s.gates.down d.n d.i.n).2.2).block 3 (-1) d.i.n 0 from by unfold Dng.sem; rw [if_neg h19]; simp only; rw [if_pos h70]]
      refine .ret0 rfl fun w s => ⟨(), ?_, trivial, finE .auto s⟩
      rfl
    · simp only [Bool.and_eq_false_iff, decide_eq_false_iff_not, Bool.not_eq_false'] at h70
      refine .v (.t (.r (.p (.m rfl) (.p (.m rfl) (.p (.n rfl) (.p (.f rfl) (.p (.o rfl) (.p (.l rfl) (.p (.m rfl) ?_)))))))))
      refine .does rfl (Does.callE rfl call99 rfl (dng_pass (d := d.withG (d.s.gates.down d.n d.i.n).2.2) hp ht (Nat.le_trans hk.recs (by decide)) down_bd hk.R.l) .auto) ?_
      rintro _ _ ⟨⟨⟩, -, rfl, rfl⟩
      refine .n ?_
      rw [show d.sem = (d.withG (d.s.gates.down d.n d.i.n).2.2).pass d.i.n 0 (d.s.gates.down d.n d.i.n).2.1 from by unfold Dng.sem; rw [if_neg h19]; simp only; rw [if_neg (by rintro ⟨a, b⟩; rcases h70 with h | h; exact h a; rw [b] at h; cases h)]]
      refine .end0 rfl fun w s => ⟨(), ?_, trivial, finE .auto s⟩
      rfl

theorem dng_mutex {W : World} {bd b p : Nat} {ps : List (Option Nat)} {d : Dng} {t : Thr} (hp : ps[d.n]? = some (some p)) (ht : d.s.thr[d.n]? = some (some t)) (hk : CallOk ps d t) : Fn Tryz.prog W 103 [ptr bd] [dngX bd b p ps d] Unit (fun _ => .tuple #[]) (fun _ => True) (fun _ => [dngX bd b p ps (d.mutex)]) := by
  refine Fn.intro (N := 155) func103 rfl ntmps103 rfl fun F => ?_
  show GoC _ _ _ _ _ _ [dngX bd b p ps d, F]
  refine .o2 (C := dngX bd b p ps (d)) .auto rfl ?_
  rintro vw ve -
  refine .o10 (C := spcX b ps (d).s) .auto rfl ?_
  rintro fv sv pv bt vm bg vt bk bw vr -
  have hnn := hk.nn
  have hn0 := hk.I.n
  have hIc := hk.I.c
  have hwc := w64_id hIc
  refine .s (.r (.p (.m rfl) (.p (.n rfl) (.p (.f rfl) (.p (.o rfl) (.p (.l rfl) ?_))))))
  refine .p (.convI underlying78 underlying3 rfl (by omega)) ?_
  refine .p (.a rfl) (.n (.t (.s (.r (.p (.m rfl) (.p (.n rfl) (.p (.f rfl) (.p (.z rfl) (.p (.l rfl) (.n (.t (.b (.s (.r (.p (.eql rfl rfl) (.p (.a rfl) (.n (.t (.condD rfl (fun h81 => ?_) (fun h81 => ?_))))))))))))))))))))
  · refine .s ?_
    refine .draw [arr bd 0 (dngC b p d vw ve), arr b 0 (spcC fv sv pv d.s.prg bt ps vm bg vt bk bw vr)] [1, 1, 1, 1, 1, 1, 1, 1, 1, 1, 1, 1, 3, 1, 1, 1, 1, 1] rfl (by kernel_rfl) ?_
    refine .p (.m rfl) (.p (.n rfl) (.p (.z rfl) (.p (.l rfl) ?_)))
    refine .p (.n rfl) (.p (.f rfl) (.p (.l rfl) (.p (.m rfl) ?_)))
    refine .p (.n rfl) (.p (.f rfl) (.p (.l rfl) (.p (.m rfl) ?_)))
    refine .d3 rfl (Does.callE rfl call116 rfl (gate_Lock hk.gl) .auto) ?_
    rintro _ _ ⟨⟨⟩, -, rfl, rfl⟩
    refine .p (.m rfl) ?_
    refine .p (.extract (v := .bool (d.s.gates.lock d.n d.i.n).1) rfl rfl) ?_
    refine .p (.extract (v := .int .i64 (d.s.gates.lock d.n d.i.n).2.1) rfl rfl) ?_
    refine .p (.a rfl) (.p (.a rfl) (.n (.t (.s (.s (.r (.p (.m rfl) (.p (.eql rfl rfl) (.p (.m rfl) ?_)))))))))
    apply GoL.segAD 3 104 101 [101, 102, 103, 104] rfl
    · intro h101
      refine .g (.m rfl) (.g (.not rfl) (.p (.t rfl rfl) (.n ?_)))
      refine .seg .auto rfl (by first | exact fun _ h => h | exact Ent.kept .auto)
    · intro h101
      refine .u (.u (.p (.u rfl rfl) (.n ?_)))
      refine .seg .auto rfl (by first | exact fun _ h => h | exact Ent.kept .auto)
    refine .n (.t (.cond rfl (fun h104 => ?_) (fun h104 => ?_)))
    · simp only [Bool.and_eq_true, decide_eq_true_eq, Bool.not_eq_true'] at h104
      refine .s (.r (.p (.m rfl) (.p (.m rfl) (.p (.n rfl) (.p (.f rfl) (.p (.o rfl) (.p (.l rfl) ?_)))))))
      refine .does rfl (Does.callE rfl call115 rfl (dng_block (d := d.withG (d.s.gates.lock d.n d.i.n).2.2) hp ht (Nat.le_trans hk.recs (by decide))) .auto) ?_
      rintro _ _ ⟨⟨⟩, -, rfl, rfl⟩
      refine .n (.t (.e (.tr (.br ?_))))
      rw [show d.mutex = (d.withG (d.s.gates.lock d.n d.i.n).2.2).block 1 (-1) d.i.n 0 from by unfold Dng.mutex; simp only; rw [if_pos h81, if_pos h104]]
      refine .ret0 rfl fun w s => ⟨(), ?_, trivial, finE .auto s⟩
      rfl
    · simp only [Bool.and_eq_false_iff, decide_eq_false_iff_not, Bool.not_eq_false'] at h104
      refine .v (.t (.r (.p (.m rfl) (.p (.m rfl) (.p (.n rfl) (.p (.f rfl) (.p (.o rfl) (.p (.l rfl) (.p (.m rfl) ?_)))))))))
      refine .does rfl (Does.callE rfl call99 rfl (dng_pass (d := d.withG (d.s.gates.lock d.n d.i.n).2.2) hp ht (Nat.le_trans hk.recs (by decide)) lock_bd hk.R.l) .auto) ?_
      rintro _ _ ⟨⟨⟩, -, rfl, rfl⟩
      refine .n (.b ?_)
      rw [show d.mutex = (d.withG (d.s.gates.lock d.n d.i.n).2.2).pass d.i.n 0 (d.s.gates.lock d.n d.i.n).2.1 from by unfold Dng.mutex; simp only; rw [if_pos h81, if_neg (by rintro ⟨a, b⟩; rcases h104 with h | h; exact h a; rw [b] at h; cases h)]]
      refine .end0 rfl fun w s => ⟨(), ?_, trivial, finE .auto s⟩
      rfl
  · refine .s (.r (.p (.eql rfl rfl) (.p (.a rfl) (.n (.t (.condD rfl (fun h120 => ?_) (fun h120 => ?_)))))))
    · refine .s ?_
      refine .draw [arr bd 0 (dngC b p d vw ve), arr b 0 (spcC fv sv pv d.s.prg bt ps vm bg vt bk bw vr)] [1, 1, 1, 1, 1, 1, 1, 1, 1, 1, 1, 1, 1, 1, 1, 1, 3, 1, 1, 1, 1, 1, 1, 1] rfl (by kernel_rfl) ?_
      refine .p (.m rfl) (.p (.n rfl) (.p (.z rfl) (.p (.l rfl) ?_)))
      refine .p (.n rfl) (.p (.f rfl) (.p (.l rfl) (.p (.m rfl) ?_)))
      refine .p (.n rfl) (.p (.f rfl) (.p (.l rfl) (.p (.m rfl) (.p (.m rfl) ?_))))
      refine .p (.n rfl) (.p (.f rfl) (.p (.l rfl) ?_))
      refine .d3 rfl (Does.callE rfl call117 rfl (gate_Unlock hk.gl) .auto) ?_
      rintro _ _ ⟨⟨⟩, -, rfl, rfl⟩
      refine .p (.m rfl) ?_
      refine .p (.extract (v := .int .i64 (d.s.gates.unlock d.n d.i.n d.choice).1) rfl rfl) ?_
      refine .p (.extract (v := .bool (d.s.gates.unlock d.n d.i.n d.choice).2.1) rfl rfl) ?_
      refine .p (.extract (v := .int .i64 (d.s.gates.unlock d.n d.i.n d.choice).2.2.1) rfl rfl) ?_
      refine .p (.a rfl) (.p (.a rfl) (.p (.a rfl) (.n (.t (.s (.r (.p (.m rfl) (.p (.m rfl) (.p (.n rfl) (.p (.f rfl) (.p (.o rfl) (.p (.l rfl) (.p (.m rfl) ?_)))))))))))))
      refine .does rfl (Does.callE rfl call99 rfl (dng_pass (d := d.withG (d.s.gates.unlock d.n d.i.n d.choice).2.2.2) hp ht (Nat.le_trans hk.recs (by decide)) unlock_bd hk.R.l) .auto) ?_
      rintro _ _ ⟨⟨⟩, -, rfl, rfl⟩
      refine .n (.t (.r (.p (.m rfl) (.p (.m rfl) (.p (.m rfl) ?_)))))
      refine .does rfl (Does.callE rfl call118 rfl (dng_given (n := (d.s.gates.unlock d.n d.i.n d.choice).1) (ok := (d.s.gates.unlock d.n d.i.n d.choice).2.1) (d := ((d.withG (d.s.gates.unlock d.n d.i.n d.choice).2.2.2).pass d.i.n 0 (d.s.gates.unlock d.n d.i.n d.choice).2.2.1)) (fun h => ⟨(hk.glive _ (unlock_has h)).1, ((hk.glive _ (unlock_has h)).2.of (s' := (d.withG (d.s.gates.unlock d.n d.i.n d.choice).2.2.2).s) rfl).pass (d := d.withG (d.s.gates.unlock d.n d.i.n d.choice).2.2.2) ht hk.R unlock_bd⟩) (Nat.le_trans hk.ends (by decide)) (Nat.le_trans hk.wok (by decide))) .auto) ?_
      rintro _ _ ⟨⟨⟩, -, rfl, rfl⟩
      refine .n (.b ?_)
      rw [show d.mutex = ((d.withG (d.s.gates.unlock d.n d.i.n d.choice).2.2.2).pass d.i.n 0 (d.s.gates.unlock d.n d.i.n d.choice).2.2.1).given (d.s.gates.unlock d.n d.i.n d.choice).1 (d.s.gates.unlock d.n d.i.n d.choice).2.1 from by unfold Dng.mutex; simp only; rw [if_neg h81, if_pos h120]]
      refine .end0 rfl fun w s => ⟨(), ?_, trivial, finE .auto s⟩
      rfl
    · refine .s ?_
      refine .draw [arr bd 0 (dngC b p d vw ve), arr b 0 (spcC fv sv pv d.s.prg bt ps vm bg vt bk bw vr)] [1, 1, 1, 1, 1, 1, 1, 1, 1, 1, 1, 1, 1, 1, 1, 1, 1, 1, 1, 1, 1, 3, 1, 1, 1, 1, 1, 1, 1] rfl (by kernel_rfl) ?_
      refine .p (.m rfl) (.p (.n rfl) (.p (.z rfl) (.p (.l rfl) ?_)))
      refine .p (.n rfl) (.p (.f rfl) (.p (.l rfl) (.p (.m rfl) ?_)))
      refine .p (.n rfl) (.p (.f rfl) (.p (.l rfl) (.p (.m rfl) (.p (.m rfl) ?_))))
      refine .p (.n rfl) (.p (.f rfl) (.p (.o rfl) (.p (.l rfl) (.p (.m rfl) ?_))))
      refine .p (.n rfl) (.p (.f rfl) (.p (.l rfl) ?_))
      refine .d3 rfl (Does.callE rfl call119 rfl (gate_Wait hk.gl) .auto) ?_
      rintro _ _ ⟨⟨⟩, -, rfl, rfl⟩
      refine .p (.m rfl) ?_
      refine .p (.extract (v := .int .i64 (d.s.gates.wait d.n d.i.n d.i.c d.choice).1) rfl rfl) ?_
      refine .p (.extract (v := .bool (d.s.gates.wait d.n d.i.n d.i.c d.choice).2.1) rfl rfl) ?_
      refine .p (.extract (v := .int .i64 (d.s.gates.wait d.n d.i.n d.i.c d.choice).2.2.1) rfl rfl) ?_
      refine .p (.a rfl) (.p (.a rfl) (.p (.a rfl) (.n (.t (.s (.s (.r (.p (.m rfl) (.p (.neq rfl rfl) (.n (.t (.condD rfl (fun h48 => ?_) (fun h48 => ?_)))))))))))))
      · refine .s ?_
        refine .draw [] [1, 1, 1, 1, 1, 1, 1, 1, 1, 1, 1, 1, 1, 3] rfl (by kernel_rfl) ?_
        refine .p (.m rfl) (.p (.m rfl) (.p (.n rfl) (.p (.f rfl) (.p (.o rfl) (.p (.l rfl) (.p (.m rfl) ?_))))))
        refine .p (.n rfl) (.p (.f rfl) (.p (.o rfl) (.p (.l rfl) ?_)))
        refine .p (.convU underlying3 underlying78 rfl (by omega)) ?_
        refine .p (.m rfl) ?_
        refine .d3 rfl (Does.callE rfl call99 rfl (dng_pass (d := d.withG (d.s.gates.wait d.n d.i.n d.i.c d.choice).2.2.2) hp ht (Nat.le_trans hk.recs (by decide)) wait_bd hk.R.l) .auto) ?_
        rintro _ _ ⟨⟨⟩, -, rfl, rfl⟩
        refine .n (.t (.e (.tr (.br ?_))))
        rw [show d.mutex = (d.withG (d.s.gates.wait d.n d.i.n d.i.c d.choice).2.2.2).pass d.i.n d.i.c (d.s.gates.wait d.n d.i.n d.i.c d.choice).2.2.1 from by unfold Dng.mutex; simp only; rw [if_neg h81, if_neg h120, if_pos h48, hwc]]
        refine .ret0 rfl fun w s => ⟨(), ?_, trivial, finE .auto s⟩
        rfl
      · refine .v (.t (.s ?_))
        refine .draw [] [1, 1, 1, 1, 1, 1, 1, 1, 1, 1, 1, 1, 3] rfl (by kernel_rfl) ?_
        refine .p (.m rfl) (.p (.m rfl) (.p (.n rfl) (.p (.f rfl) (.p (.o rfl) (.p (.l rfl) (.p (.m rfl) ?_))))))
        refine .p (.n rfl) (.p (.f rfl) (.p (.o rfl) (.p (.l rfl) ?_)))
        refine .p (.convU underlying3 underlying78 rfl (by omega)) ?_
        refine .d3 rfl (Does.callE rfl call115 rfl (dng_block (d := d.withG (d.s.gates.wait d.n d.i.n d.i.c d.choice).2.2.2) hp ht (Nat.le_trans hk.recs (by decide))) .auto) ?_
        rintro _ _ ⟨⟨⟩, -, rfl, rfl⟩
        refine .n (.t (.r (.p (.m rfl) (.p (.m rfl) (.p (.m rfl) ?_)))))
        refine .does rfl (Does.callE rfl call118 rfl (dng_given (n := (d.s.gates.wait d.n d.i.n d.i.c d.choice).1) (ok := (d.s.gates.wait d.n d.i.n d.i.c d.choice).2.1) (d := ((d.withG (d.s.gates.wait d.n d.i.n d.i.c d.choice).2.2.2).block 2 (-1) d.i.n d.i.c)) (fun h => ⟨(hk.glive _ (wait_has h)).1, ((hk.glive _ (wait_has h)).2.of (s' := (d.withG (d.s.gates.wait d.n d.i.n d.i.c d.choice).2.2.2).s) rfl).block (d := d.withG (d.s.gates.wait d.n d.i.n d.i.c d.choice).2.2.2) ht hk.R (by decide)⟩) (Nat.le_trans hk.ends (by decide)) (Nat.le_trans hk.wok (by decide))) .auto) ?_
        rintro _ _ ⟨⟨⟩, -, rfl, rfl⟩
        refine .n (.b ?_)
        rw [show d.mutex = ((d.withG (d.s.gates.wait d.n d.i.n d.i.c d.choice).2.2.2).block 2 (-1) d.i.n d.i.c).given (d.s.gates.wait d.n d.i.n d.i.c d.choice).1 (d.s.gates.wait d.n d.i.n d.i.c d.choice).2.1 from by unfold Dng.mutex; simp only; rw [if_neg h81, if_neg h120, if_neg h48, hwc]]
        refine .end0 rfl fun w s => ⟨(), ?_, trivial, finE .auto s⟩
        rfl

end Go.SLYtnceicnimongcaaGreat
namespace Go.SLYtnceicnimongcaaGreat
open Go Go.RowKit Go.Proofs Go.Proofs.Tryz

theorem dng_put {W : World} {bd b p : Nat} {ps : List (Option Nat)} {d : Dng} {t : Thr} (hp : ps[d.n]? = some (some p)) (ht : d.s.thr[d.n]? = some (some t)) (hk : CallOk ps d t) (hop : d.i.op = 35 ∨ d.i.op = 36) : Fn Tryz.prog W 127 [ptr bd] [dngX bd b p ps d] Unit (fun _ => .tuple #[]) (fun _ => True) (fun _ => [dngX bd b p ps (d.put)]) := by
  refine Fn.intro (N := 57) func127 rfl ntmps127 rfl fun F => ?_
  show GoC _ _ _ _ _ _ [dngX bd b p ps d, F]
  refine .o2 (C := dngX bd b p ps (d)) .auto rfl ?_
  rintro vw ve -
  refine .o10 (C := spcX b ps (d).s) .auto rfl ?_
  rintro fv sv pv bt vm bg vt bk bw vr -
  have hnn := hk.nn
  have hn0 := hk.I.n
  refine .o1 (C := tubsH vt d.s.tubes) .auto rfl ?_
  rintro xs hxs
  obtain ⟨xq, hx, hmem⟩ := tube_at hxs hn0.1 (hk.tub hop)
  have hxl : xs.length = d.s.tubes.length := by rw [← hxs, List.length_map]
  have hti := hk.tub hop
  refine .fr .auto (thrs_out hp ht) ?_
  refine .s ?_
  refine .draw [] [1, 1, 1, 1, 1, 1, 1, 1, 1, 1, 1, 1, 1, 1, 1] rfl (by kernel_rfl) ?_
  refine .p (.m rfl) (.p (.n rfl) (.p (.z rfl) (.p (.l rfl) ?_)))
  refine .p (.n rfl) (.p (.f rfl) (.p (.l rfl) (.p (.m rfl) ?_)))
  refine .p (.n rfl) (.p (.f rfl) (.p (.o rfl) (.p (.l rfl) ?_)))
  refine .p (.ix d.i.n.toNat rfl rfl (by omega) (by omega)) ?_
  refine .p (.lr rfl hx) ?_
  refine .p (.a rfl) (.n (.t (.s (.r (.p (.m rfl) ?_)))))
  refine .does rfl (Does.callE rfl call102 rfl (dng_aP ht hk.I.a) .auto) ?_
  rintro _ _ ⟨⟨⟩, -, rfl, rfl⟩
  refine .p (.a rfl) (.n (.t (.s (.r ?_))))
  obtain ⟨x, hx0⟩ : ∃ x, x = d.a := ⟨_, rfl⟩
  rw [← hx0]
  refine .p (.m rfl) (.p (.m rfl) (.p (.n rfl) (.p (.f rfl) (.p (.l rfl) (.p (.m rfl) ?_)))))
  refine .fr .auto (allH_out (f := fun x : Nat × Tub => tubH x.1 x.2) hx) ?_
  refine .does rfl (Does.callE rfl call145 rfl (tube_Put (hk.tl _ hmem)) .auto) ?_
  rintro _ _ ⟨⟨⟩, -, rfl, rfl⟩
  refine .to (A := tubsH vt (d.s.tubes.set d.i.n.toNat (d.tube.put d.n x).2.2.2)) (Bs := [sl ptrE 1 vt xs, tubH xq (d.tube.put d.n x).2.2.2, allH (fun x : Nat × Tub => tubH x.1 x.2) (xs.eraseIdx d.i.n.toNat)]) .auto (tubs_in hx hxs (d.tube.put d.n x).2.2.2) ?_
  refine .to (A := thrsH ps d.s.thr) (Bs := [arr p 0 (thrC t), thrsH (ps.set d.n none) (d.s.thr.set d.n none)]) .auto (thrs_keep hp ht) ?_
  refine .p (.m rfl) ?_
  refine .p (.extract (v := .bool (d.tube.put d.n x).1) rfl rfl) ?_
  refine .p (.extract (v := .int .i64 (d.tube.put d.n x).2.1) rfl rfl) ?_
  refine .p (.extract (v := .bool (d.tube.put d.n x).2.2.1) rfl rfl) ?_
  refine .p (.a rfl) (.p (.a rfl) (.p (.a rfl) (.n (.t (.s (.s (.r (.p (.m rfl) (.p (.not rfl) (.n (.t (.cond rfl (fun h35 => ?_) (fun h35 => ?_)))))))))))))
  · refine .s (.r (.p (.m rfl) (.p (.m rfl) (.p (.n rfl) (.p (.f rfl) (.p (.o rfl) (.p (.l rfl) (.p (.m rfl) ?_))))))))
    refine .does rfl (Does.callE rfl call115 rfl (dng_block (d := (d.withU d.i.n.toNat (d.tube.put d.n x).2.2.2)) hp ht (Nat.le_trans hk.recs (by decide))) .auto) ?_
    rintro _ _ ⟨⟨⟩, -, rfl, rfl⟩
    refine .n (.t (.e (.tr ?_)))
    rw [show d.put = (d.withU d.i.n.toNat (d.tube.put d.n x).2.2.2).block 7 (-1) d.i.n x from by unfold Dng.put; rw [← hx0]; simp only; rw [if_pos (by simpa using h35)]]
    refine .ret0 rfl fun w s => ⟨(), ?_, trivial, finE .auto s⟩
    rfl
  · refine .v (.t (.s (.r (.p (.m rfl) (.p (.m rfl) (.p (.n rfl) (.p (.f rfl) (.p (.o rfl) (.p (.l rfl) (.p (.m rfl) ?_))))))))))
    refine .does rfl (Does.callE rfl call99 rfl (dng_pass (d := (d.withU d.i.n.toNat (d.tube.put d.n x).2.2.2)) hp ht (Nat.le_trans hk.recs (by decide)) (by decide) hk.R.l) .auto) ?_
    rintro _ _ ⟨⟨⟩, -, rfl, rfl⟩
    refine .n (.t (.s (.r (.p (.m rfl) (.n (.t (.cond rfl (fun h52 => ?_) (fun h52 => ?_))))))))
    · have hlv := (hk.tlive _ hmem).1 _ (put_live h52)
      obtain ⟨hw16, q, u, hq, hu, hRu⟩ := (hlv.2.of (s' := (d.withU d.i.n.toNat (d.tube.put d.n x).2.2.2).s) rfl).pass (x := d.i.n) (y := x) (e := 0) (d := (d.withU d.i.n.toNat (d.tube.put d.n x).2.2.2)) ht hk.R (by decide)
      refine .r (.p (.m rfl) (.p (.m rfl) (.p (.m rfl) ?_)))
      refine .does rfl (Does.callE rfl call96 rfl (dng_goesI (d := (d.withU d.i.n.toNat (d.tube.put d.n x).2.2.2).pass d.i.n x 0) hlv.1 hq hu hw16 hRu (Nat.le_trans hk.ends (by decide)) (Nat.le_trans hk.wok (by decide))) .auto) ?_
      rintro _ _ ⟨⟨⟩, -, rfl, rfl⟩
      refine .n ?_
      rw [show d.put = ((d.withU d.i.n.toNat (d.tube.put d.n x).2.2.2).pass d.i.n x 0).goes (d.tube.put d.n x).2.1.toNat x from by unfold Dng.put; rw [← hx0]; simp only; rw [if_neg (by simpa using h35), if_pos h52]]
      refine .end0 rfl fun w s => ⟨(), ?_, trivial, finE .auto s⟩
      rfl
    · refine .v ?_
      rw [show d.put = (d.withU d.i.n.toNat (d.tube.put d.n x).2.2.2).pass d.i.n x 0 from by unfold Dng.put; rw [← hx0]; simp only; rw [if_neg (by simpa using h35), if_neg (by rw [h52]; simp)]]
      refine .end0 rfl fun w s => ⟨(), ?_, trivial, finE .auto s⟩
      rfl

theorem dng_get {W : World} {bd b p : Nat} {ps : List (Option Nat)} {d : Dng} {t : Thr} (hp : ps[d.n]? = some (some p)) (ht : d.s.thr[d.n]? = some (some t)) (hk : CallOk ps d t) (hop : d.i.op = 35 ∨ d.i.op = 36) : Fn Tryz.prog W 128 [ptr bd] [dngX bd b p ps d] Unit (fun _ => .tuple #[]) (fun _ => True) (fun _ => [dngX bd b p ps (d.get)]) := by
  refine Fn.intro (N := 70) func128 rfl ntmps128 rfl fun F => ?_
  show GoC _ _ _ _ _ _ [dngX bd b p ps d, F]
  refine .o2 (C := dngX bd b p ps (d)) .auto rfl ?_
  rintro vw ve -
  refine .o10 (C := spcX b ps (d).s) .auto rfl ?_
  rintro fv sv pv bt vm bg vt bk bw vr -
  have hnn := hk.nn
  have hn0 := hk.I.n
  refine .o1 (C := tubsH vt d.s.tubes) .auto rfl ?_
  rintro xs hxs
  obtain ⟨xq, hx, hmem⟩ := tube_at hxs hn0.1 (hk.tub hop)
  have hxl : xs.length = d.s.tubes.length := by rw [← hxs, List.length_map]
  have hti := hk.tub hop
  have hIa := hk.I.a
  have hRl := hk.R.l
  refine .s ?_
  refine .fr .auto (allH_out (f := fun x : Nat × Tub => tubH x.1 x.2) hx) ?_
  refine .draw [arr bd 0 (dngC b p d vw ve), arr b 0 (spcC fv sv pv d.s.prg bt ps vm bg vt bk bw vr), sl ptrE 1 vt xs] [1, 1, 1, 1, 1, 1, 1, 1, 1, 1, 1, 1, 1, 1, 1, 1, 1, 1, 3, 1, 1, 1, 1, 1, 1, 1, 1, 1] rfl (by kernel_rfl) ?_
  refine .p (.m rfl) (.p (.n rfl) (.p (.z rfl) (.p (.l rfl) ?_)))
  refine .p (.n rfl) (.p (.f rfl) (.p (.l rfl) (.p (.m rfl) ?_)))
  refine .p (.n rfl) (.p (.f rfl) (.p (.o rfl) (.p (.l rfl) ?_)))
  refine .p (.ix d.i.n.toNat rfl rfl (by omega) (by omega)) ?_
  refine .p (.lr rfl hx) ?_
  refine .p (.m rfl) (.p (.n rfl) (.p (.f rfl) (.p (.l rfl) ?_)))
  refine .d3 rfl (Does.callE rfl call146 rfl (tube_Get (hk.tl _ hmem)) .auto) ?_
  rintro _ _ ⟨⟨⟩, -, rfl, rfl⟩
  refine .p (.m rfl) ?_
  refine .p (.extract (v := .int .u64 (d.tube.get d.n).1) rfl rfl) ?_
  refine .p (.extract (v := .bool (d.tube.get d.n).2.1) rfl rfl) ?_
  refine .p (.extract (v := .int .i64 (d.tube.get d.n).2.2.1) rfl rfl) ?_
  refine .p (.extract (v := .bool (d.tube.get d.n).2.2.2.1) rfl rfl) ?_
  refine .p (.a rfl) (.p (.a rfl) (.p (.a rfl) (.p (.a rfl) (.n (.t (.s (.s (.r (.p (.m rfl) (.p (.not rfl) (.n (.t (.cond rfl (fun h31 => ?_) (fun h31 => ?_))))))))))))))
  · refine .s ?_
    refine .to (A := tubsH vt (d.s.tubes.set d.i.n.toNat (d.tube.get d.n).2.2.2.2)) (Bs := [sl ptrE 1 vt xs, tubH xq (d.tube.get d.n).2.2.2.2, allH (fun x : Nat × Tub => tubH x.1 x.2) (xs.eraseIdx d.i.n.toNat)]) .auto (tubs_in hx hxs (d.tube.get d.n).2.2.2.2) ?_
    refine .draw [] [1, 1, 1, 1, 1, 1, 1, 1, 1, 1, 1, 3] rfl (by kernel_rfl) ?_
    refine .p (.m rfl) (.p (.m rfl) (.p (.n rfl) (.p (.f rfl) (.p (.o rfl) (.p (.l rfl) (.p (.m rfl) ?_))))))
    refine .p (.n rfl) (.p (.f rfl) (.p (.o rfl) (.p (.l rfl) ?_)))
    refine .d3 rfl (Does.callE rfl call115 rfl (dng_block (d := (d.withU d.i.n.toNat (d.tube.get d.n).2.2.2.2)) hp ht (Nat.le_trans hk.recs (by decide))) .auto) ?_
    rintro _ _ ⟨⟨⟩, -, rfl, rfl⟩
    refine .n (.t (.e (.tr ?_)))
    rw [show d.get = (d.withU d.i.n.toNat (d.tube.get d.n).2.2.2.2).block 6 d.i.a d.i.n 0 from by unfold Dng.get; simp only; rw [if_pos (by simpa using h31)]]
    refine .ret0 rfl fun w s => ⟨(), ?_, trivial, finE .auto s⟩
    rfl
  · refine .v (.t (.s ?_))
    refine .to (A := tubsH vt (d.s.tubes.set d.i.n.toNat (d.tube.get d.n).2.2.2.2)) (Bs := [sl ptrE 1 vt xs, tubH xq (d.tube.get d.n).2.2.2.2, allH (fun x : Nat × Tub => tubH x.1 x.2) (xs.eraseIdx d.i.n.toNat)]) .auto (tubs_in hx hxs (d.tube.get d.n).2.2.2.2) ?_
    refine .fr .auto (thrs_out hp ht) ?_
    refine .draw [arr bd 0 (dngC b p d vw ve)] [1, 1, 1, 1, 1, 1, 1, 1, 1, 1, 1, 1, 1, 1, 3] rfl (by kernel_rfl) ?_
    refine .p (.m rfl) (.p (.n rfl) (.p (.f rfl) (.p (.l rfl) (.p (.m rfl) ?_))))
    refine .p (.n rfl) (.p (.f rfl) (.p (.o rfl) (.p (.l rfl) (.p (.m rfl) ?_))))
    refine .p (.n rfl) (.p (.z rfl) (.p (.f rfl) ?_))
    refine .p (.ixArr d.i.a.toNat underlying126 sizeOf78 rfl rfl (by omega) (by omega)) ?_
    refine .d3 rfl (Does.st sizeOf78 rfl rfl rfl (Nat.blt_eq.mpr (by show 2 + d.i.a.toNat * 1 < 18; omega))) ?_
    rintro _ _ ⟨rfl, rfl⟩
    rw [thr_setI _ (by omega) (by omega) hRl]
    refine .to (A := thrsH ps (d.s.thr.set d.n (some (t.put d.i.a (d.tube.get d.n).1)))) (Bs := [arr p 0 (thrC (t.put d.i.a (d.tube.get d.n).1)), thrsH (ps.set d.n none) (d.s.thr.set d.n none)]) .auto (thrs_shut (List.getElem?_eq_some_iff.1 ht).1 hp) ?_
    refine .n (.t (.s (.r (.p (.m rfl) (.p (.m rfl) (.p (.n rfl) (.p (.f rfl) (.p (.o rfl) (.p (.l rfl) (.p (.m rfl) ?_))))))))))
    refine .does rfl (Does.callE rfl call99 rfl (dng_pass (d := ((d.withU d.i.n.toNat (d.tube.get d.n).2.2.2.2).setT (t.put d.i.a (d.tube.get d.n).1))) (t := t.put d.i.a (d.tube.get d.n).1) hp (setT_same ht) (Nat.le_trans hk.recs (by decide)) (by decide) (by rw [put_len]; exact hRl)) .auto) ?_
    rintro _ _ ⟨⟨⟩, -, rfl, rfl⟩
    refine .n (.t (.s (.r (.p (.m rfl) (.n (.t (.cond rfl (fun h66 => ?_) (fun h66 => ?_))))))))
    · obtain ⟨z, hz, hzw⟩ := get_live h66
      have hlv := (hk.tlive _ hmem).2 z hz
      rw [hzw] at hlv
      have hRg := hk.R.put (i := d.i.a) (get_word (who := d.n) (hk.tw _ hmem))
      obtain ⟨hw16, q, u, hq, hu, hRu⟩ := ((hlv.2.of (s' := (d.withU d.i.n.toNat (d.tube.get d.n).2.2.2.2).s) rfl).setT (n := d.n) hRg).pass (x := d.i.n) (y := (d.tube.get d.n).1) (e := 0) (d := ((d.withU d.i.n.toNat (d.tube.get d.n).2.2.2.2).setT (t.put d.i.a (d.tube.get d.n).1))) (setT_same ht) hRg (by decide)
      refine .r (.p (.m rfl) (.p (.m rfl) ?_))
      refine .does rfl (Does.callE rfl call96 rfl (dng_goesI (d := ((d.withU d.i.n.toNat (d.tube.get d.n).2.2.2.2).setT (t.put d.i.a (d.tube.get d.n).1)).pass d.i.n (d.tube.get d.n).1 0) hlv.1 hq hu hw16 hRu (Nat.le_trans hk.ends (by decide)) (Nat.le_trans hk.wok (by decide))) .auto) ?_
      rintro _ _ ⟨⟨⟩, -, rfl, rfl⟩
      refine .n ?_
      rw [show d.get = (((d.withU d.i.n.toNat (d.tube.get d.n).2.2.2.2).setT (t.put d.i.a (d.tube.get d.n).1)).pass d.i.n (d.tube.get d.n).1 0).goes (d.tube.get d.n).2.2.1.toNat 0 from by unfold Dng.get; simp only; rw [if_neg (by simpa using h31), if_pos h66, show (d.withU d.i.n.toNat (d.tube.get d.n).2.2.2.2).t = t from dng_t ht]]
      refine .end0 rfl fun w s => ⟨(), ?_, trivial, finE .auto s⟩
      rfl
    · refine .v ?_
      rw [show d.get = ((d.withU d.i.n.toNat (d.tube.get d.n).2.2.2.2).setT (t.put d.i.a (d.tube.get d.n).1)).pass d.i.n (d.tube.get d.n).1 0 from by unfold Dng.get; simp only; rw [if_neg (by simpa using h31), if_neg (by rw [h66]; simp), show (d.withU d.i.n.toNat (d.tube.get d.n).2.2.2.2).t = t from dng_t ht]]
      refine .end0 rfl fun w s => ⟨(), ?_, trivial, finE .auto s⟩
      rfl

end Go.SLYtnceicnimongcaaGreat
namespace Go.SLYtnceicnimongcaaGreat
open Go Go.RowKit Go.Proofs Go.Proofs.Tryz

theorem dng_spawn {W : World} {bd b p : Nat} {ps : List (Option Nat)} {d : Dng} {t : Thr} (hp : ps[d.n]? = some (some p)) (ht : d.s.thr[d.n]? = some (some t)) (hk : CallOk ps d t) : Fn Tryz.prog W 98 [ptr bd] [dngX bd b p ps d] (List (Option Nat)) (fun _ => .tuple #[]) (fun _ => True) (fun qs => [dngX bd b p qs d.spawn]) := by
  refine Fn.intro (N := 70) func98 rfl ntmps98 rfl fun F => ?_
  show GoC _ _ _ _ _ _ [dngX bd b p ps d, F]
  refine .o2 (C := dngX bd b p ps (d)) .auto rfl ?_
  rintro vw ve -
  refine .o10 (C := spcX b ps (d).s) .auto rfl ?_
  rintro fv sv pv bt vm bg vt bk bw vr -
  have hnn := hk.nn
  have hn0 := hk.I.n
  refine .fr .auto (thrs_out hp ht) ?_
  have hIa := hk.I.a
  have hRl := hk.R.l
  have hlt := hk.lt
  refine .s ?_
  refine .draw [arr bd 0 (dngC b p d vw ve)] [0, 0, 0, 0, 0, 0, 0, 0, 0, 0, 1, 2, 3, 1, 1, 1, 1, 1] rfl (by kernel_rfl) ?_
  refine .q (.m rfl) (.q (.n rfl) (.q (.z rfl) (.q (.l rfl) (.q (.m rfl) ?_))))
  refine .q (.n rfl) (.q (.f rfl) (.q (.o rfl) (.q (.l rfl) ?_)))
  refine .q (.convI underlying78 underlying3 rfl (by omega)) ?_
  refine .p (.m rfl) ?_
  refine .d2 rfl Kept.auto (Does.callE rfl call113 rfl (dng_bP ht hk.I.b) .auto) (by rintro _ _ ⟨⟨⟩, -, rfl, rfl⟩; exact Kept.auto) ?_
  rintro _ _ ⟨⟨⟩, -, rfl, rfl⟩
  refine .to (A := thrsH ps d.s.thr) (Bs := [arr p 0 (thrC t), thrsH (ps.set d.n none) (d.s.thr.set d.n none)]) .auto (thrs_keep hp ht) ?_
  refine .d3 rfl (Does.callE rfl call28 rfl (core_begin hk.T hk.lt hk.free) .auto) ?_
  rintro _ _ ⟨qs, ⟨q, hqs⟩, rfl, rfl⟩
  refine .p (.m rfl) ?_
  refine .p (.extract (v := .int .i64 (d.s.begin d.i.n d.b).1) rfl rfl) ?_
  refine .p (.extract (v := .int .i64 (d.s.begin d.i.n d.b).2.1) rfl rfl) ?_
  refine .p (.a rfl) (.p (.a rfl) (.n (.t (.s (.r (.p (.a rfl) (.n (.t (.s (.s (.r (.p (.m rfl) (.p (.eql rfl rfl) (.n (.t (.condD rfl (fun h22 => ?_) (fun h22 => ?_)))))))))))))))))
  · obtain ⟨n, hfr⟩ : ∃ n, slotFree? d.s.table 0 = some n := by
      cases hh : slotFree? d.s.table 0 with
      | none => rw [begin_no hh] at h22; cases h22
      | some n => exact ⟨n, rfl⟩
    have hb1 : (d.s.begin d.i.n d.b).1 = (n : Int) := by rw [begin_ok hfr]
    have hn0e := hk.free n hfr
    have hn16 : n < 16 := hlt ▸ (List.getElem?_eq_some_iff.1 hn0e).1
    obtain ⟨t1, ht1, ht1e⟩ := spawn_thr (f := d.i.n) (arg := d.b) hfr (by omega)
    have hqn : qs[n]? = some (some q) := by
      rw [hqs]; unfold psBegin; rw [hfr]; exact List.getElem?_set_self (by rw [hk.lp]; exact hn16)
    have hne : n ≠ d.n := fun e => by rw [e, ht] at hn0e; cases hn0e
    have hp2 : qs[d.n]? = some (some p) := by
      rw [hqs]; unfold psBegin; rw [hfr]; exact (List.getElem?_set_ne hne).trans hp
    have ht2 : (d.s.begin d.i.n d.b).2.2.thr[d.n]? = some (some t) := by
      rw [begin_ok hfr]; exact (List.getElem?_set_ne hne).trans ht
    rw [hb1]
    refine .s (.r ?_)
    refine .o10 (C := spcX b qs (d.s.begin d.i.n d.b).2.2) .auto rfl ?_
    rintro fv sv pv bt vm bg vt bk bw vr -
    refine .fr .auto (thrs_out hqn ht1) ?_
    refine .p (.m rfl) (.p (.n rfl) (.p (.z rfl) (.p (.l rfl) (.p (.m rfl) ?_))))
    refine .p (.n rfl) (.p (.f rfl) ?_)
    refine .p (.ixArr n underlying70 sizeOf69 rfl rfl rfl hn16) ?_
    refine .p (.ld rfl (Cell.a (by rw [Nat.mul_one, spcC_get hn16, getD_of hqn]))) ?_
    refine .p (.n rfl) (.p (.f rfl) (.p (.l rfl) (.p (.a rfl) (.n (.t (.r (.p (.m rfl) (.p (.m rfl) ?_))))))))
    refine .p (.n rfl) (.p (.f rfl) (.p (.z rfl) (.p (.l rfl) (.p (.m rfl) ?_))))
    refine .does rfl (Does.bsl 3 rfl rfl (by kernel_rfl)) ?_
    rintro _ _ ⟨b42, rfl, rfl⟩
    refine .does rfl (Does.app1 (enc := intE) (k := 1) (n : Int) rfl underlying23 underlying23 typeInfo3 rfl rfl rfl (by decide) rfl rfl rfl .auto rfl .auto (by have := hk.wok; omega) rfl) ?_
    rintro _ _ ⟨v43, rfl, rfl⟩
    refine .p (.n rfl) (.p (.f rfl) (.p (.z rfl) ?_))
    refine .does rfl (Does.stS sizeOf23 rfl rfl rfl) ?_
    rintro _ _ ⟨rfl, rfl⟩
    refine .n (.t (.s ?_))
    refine .to (A := thrsH qs (d.s.begin d.i.n d.b).2.2.thr) (Bs := [arr q 0 (thrC t1), thrsH (qs.set n none) ((d.s.begin d.i.n d.b).2.2.thr.set n none)]) .auto (thrs_keep hqn ht1) ?_
    refine .fr .auto (thrs_out hp2 ht2) ?_
    refine .draw [arr bd 0 (dngC b p d v43 ve)] [1, 1, 1, 1, 1, 1, 1, 1, 1, 1, 1, 1, 1, 1, 3] rfl (by kernel_rfl) ?_
    refine .p (.m rfl) (.p (.n rfl) (.p (.f rfl) (.p (.l rfl) (.p (.m rfl) ?_))))
    refine .p (.n rfl) (.p (.f rfl) (.p (.o rfl) (.p (.l rfl) (.p (.m rfl) ?_))))
    refine .p (.n rfl) (.p (.z rfl) (.p (.f rfl) ?_))
    refine .p (.ixArr d.i.a.toNat underlying126 sizeOf78 rfl rfl (by omega) (by omega)) ?_
    refine .d3 rfl (Does.st sizeOf78 rfl rfl rfl (Nat.blt_eq.mpr (by show 2 + d.i.a.toNat * 1 < 18; omega))) ?_
    rintro _ _ ⟨rfl, rfl⟩
    rw [thr_setI _ (by omega) (by omega) hRl]
    refine .to (A := thrsH qs ((d.s.begin d.i.n d.b).2.2.thr.set d.n (some (t.put d.i.a t1.handle)))) (Bs := [arr p 0 (thrC (t.put d.i.a t1.handle)), thrsH (qs.set d.n none) ((d.s.begin d.i.n d.b).2.2.thr.set d.n none)]) .auto (thrs_shut (List.getElem?_eq_some_iff.1 ht2).1 hp2) ?_
    refine .n (.t (.r (.p (.m rfl) (.p (.m rfl) (.p (.n rfl) (.p (.f rfl) (.p (.o rfl) (.p (.l rfl) (.p (.m rfl) (.p (.m rfl) ?_))))))))))
    refine .does rfl (Does.callE rfl call99 rfl (dng_pass (d := ({ d with s := (d.s.begin d.i.n d.b).2.2, out := { d.out with woken := d.out.woken ++ [(n : Int)] } } : Dng).setT (t.put d.i.a t1.handle)) (ps := qs) (p := p) (t := t.put d.i.a t1.handle) hp2 (setT_same ht2) (by show (d.s.begin d.i.n d.b).2.2.recs.length ≤ _; rw [begin_ok hfr]; exact (Nat.le_trans hk.recs (by decide))) (by rw [h22]; decide) (by rw [put_len]; exact hRl)) .auto) ?_
    rintro _ _ ⟨⟨⟩, -, rfl, rfl⟩
    refine .n ?_
    rw [show d.spawn = (({ d with s := (d.s.begin d.i.n d.b).2.2, out := { d.out with woken := d.out.woken ++ [(n : Int)] } } : Dng).setT (t.put d.i.a t1.handle)).pass d.i.n t1.handle (d.s.begin d.i.n d.b).2.1 from by unfold Dng.spawn; simp only; rw [if_pos h22, if_pos h22, hb1, Int.toNat_natCast, spc_t ht1, show ({ d with s := (d.s.begin d.i.n d.b).2.2, out := { d.out with woken := d.out.woken ++ [(n : Int)] } } : Dng).t = t from spc_t ht2]]
    refine .end0 rfl fun w s => ⟨qs, ?_, trivial, finE .auto s⟩
    rfl
  · have hfr : slotFree? d.s.table 0 = none := by
      cases hh : slotFree? d.s.table 0 with
      | none => rfl
      | some n => exact absurd (by rw [begin_ok hh]) h22
    have hb : (d.s.begin d.i.n d.b) = (0, 2, d.s) := begin_no hfr
    obtain rfl : qs = ps := by rw [hqs]; unfold psBegin; rw [hfr]
    rw [hb]
    have hp2 := hp
    have ht2 := ht
    refine .to (A := spcX b qs d.s) (Bs := [spcX b qs d.s]) .auto (fun h a => by simpa only [seps, sep_emp] using a) ?_
    refine .o10 (C := spcX b qs d.s) .auto rfl ?_
    rintro fv sv pv bt vm bg vt bk bw vr -
    refine .fr .auto (thrs_out hp2 ht2) ?_
    refine .v (.t (.s ?_))
    refine .draw [arr bd 0 (dngC b p d vw ve)] [1, 1, 1, 1, 1, 1, 1, 1, 1, 1, 1, 1, 1, 1, 3] rfl (by kernel_rfl) ?_
    refine .p (.m rfl) (.p (.n rfl) (.p (.f rfl) (.p (.l rfl) (.p (.m rfl) ?_))))
    refine .p (.n rfl) (.p (.f rfl) (.p (.o rfl) (.p (.l rfl) (.p (.m rfl) ?_))))
    refine .p (.n rfl) (.p (.z rfl) (.p (.f rfl) ?_))
    refine .p (.ixArr d.i.a.toNat underlying126 sizeOf78 rfl rfl (by omega) (by omega)) ?_
    refine .d3 rfl (Does.st sizeOf78 rfl rfl rfl (Nat.blt_eq.mpr (by show 2 + d.i.a.toNat * 1 < 18; omega))) ?_
    rintro _ _ ⟨rfl, rfl⟩
    rw [thr_setI _ (by omega) (by omega) hRl]
    refine .to (A := thrsH qs (d.s.thr.set d.n (some (t.put d.i.a 0)))) (Bs := [arr p 0 (thrC (t.put d.i.a 0)), thrsH (qs.set d.n none) (d.s.thr.set d.n none)]) .auto (thrs_shut (List.getElem?_eq_some_iff.1 ht2).1 hp2) ?_
    refine .n (.t (.r (.p (.m rfl) (.p (.m rfl) (.p (.n rfl) (.p (.f rfl) (.p (.o rfl) (.p (.l rfl) (.p (.m rfl) (.p (.m rfl) ?_))))))))))
    refine .does rfl (Does.callE rfl call99 rfl (dng_pass (d := d.setT (t.put d.i.a 0)) (ps := qs) (p := p) (t := t.put d.i.a 0) (e := 2) hp2 (setT_same ht2) (Nat.le_trans hk.recs (by decide)) (by decide) (by rw [put_len]; exact hRl)) .auto) ?_
    rintro _ _ ⟨⟨⟩, -, rfl, rfl⟩
    refine .n ?_
    rw [show d.spawn = (d.setT (t.put d.i.a 0)).pass d.i.n 0 2 from by unfold Dng.spawn; rw [hb]; simp only; rw [if_neg (by decide), if_neg (by decide), dng_t ht]]
    refine .end0 rfl fun w s => ⟨qs, ?_, trivial, finE .auto s⟩
    rfl

theorem dng_kernel {W : World} {bd b p : Nat} {ps : List (Option Nat)} {d : Dng} {t : Thr} (hp : ps[d.n]? = some (some p)) (ht : d.s.thr[d.n]? = some (some t)) (hk : CallOk ps d t) : Fn Tryz.prog W 107 [ptr bd] [dngX bd b p ps d] Unit (fun _ => .tuple #[]) (fun _ => True) (fun _ => [dngX bd b p ps (d.kernel)]) := by
  refine Fn.intro (N := 42) func107 rfl ntmps107 rfl fun F => ?_
  show GoC _ _ _ _ _ _ [dngX bd b p ps d, F]
  refine .o2 (C := dngX bd b p ps (d)) .auto rfl ?_
  rintro vw ve -
  have ha0 : 0 ≤ d.a := by
    unfold Dng.a; rw [dng_t ht]; exact (hk.R.r _).1
  have hb0 : 0 ≤ d.b := by
    unfold Dng.b; rw [dng_t ht]; exact (hk.R.r _).1
  refine .s (.r (.p (.m rfl) (.p (.n rfl) (.p (.f rfl) (.p (.z rfl) (.p (.l rfl) (.n (.t (.b (.s (.r (.p (.eql rfl rfl) (.p (.a rfl) (.n (.t (.condD rfl (fun h11 => ?_) (fun h11 => ?_)))))))))))))))))
  · refine .o10 (C := spcX b ps (d).s) .auto rfl ?_
    rintro fv sv pv bt vm bg vt bk bw vr -
    refine .fr .auto (thrs_out hp ht) ?_
    refine .draw [arr bd 0 (dngC b p d vw ve)] [0, 1, 2, 0, 0, 0, 0, 0, 3] rfl (by kernel_rfl) ?_
    refine .q (.m rfl) (.p (.m rfl) ?_)
    refine .d2 rfl Kept.auto (Does.callE rfl call113 rfl (dng_bP ht hk.I.b) .auto) (by rintro _ _ ⟨⟨⟩, -, rfl, rfl⟩; exact Kept.auto) ?_
    rintro _ _ ⟨⟨⟩, -, rfl, rfl⟩
    refine .q (.m rfl) (.q (.n rfl) (.q (.f rfl) (.q (.o rfl) (.q (.l rfl) ?_))))
    refine .to (A := thrsH ps d.s.thr) (Bs := [arr p 0 (thrC t), thrsH (ps.set d.n none) (d.s.thr.set d.n none)]) .auto (thrs_keep hp ht) ?_
    refine .d3 rfl (Does.callE rfl call126 rfl (dng_ask hp ht hk hb0) .auto) ?_
    rintro _ _ ⟨⟨⟩, -, rfl, rfl⟩
    refine .n (.b ?_)
    rw [show d.kernel = d.ask d.b 0 d.i.a from by unfold Dng.kernel; repeat (first | rw [if_neg (by omega)] | rw [if_pos (by omega)])]
    refine .end0 rfl fun w s => ⟨(), ?_, trivial, finE .auto s⟩
    rfl
  · refine .s (.r (.p (.eql rfl rfl) (.p (.a rfl) (.n (.t (.condD rfl (fun h22 => ?_) (fun h22 => ?_)))))))
    · refine .r (.p (.m rfl) (.p (.m rfl) ?_))
      refine .does rfl (Does.callE rfl call102 rfl (dng_a hp ht hk.I.a) .auto) ?_
      rintro _ _ ⟨⟨⟩, -, rfl, rfl⟩
      refine .p (.m rfl) ?_
      refine .does rfl (Does.callE rfl call113 rfl (dng_b hp ht hk.I.b) .auto) ?_
      rintro _ _ ⟨⟨⟩, -, rfl, rfl⟩
      refine .does rfl (Does.callE rfl call126 rfl (dng_ask hp ht hk ha0) .auto) ?_
      rintro _ _ ⟨⟨⟩, -, rfl, rfl⟩
      refine .n (.b ?_)
      rw [show d.kernel = d.ask d.a d.b (-1) from by unfold Dng.kernel; repeat (first | rw [if_neg (by omega)] | rw [if_pos (by omega)])]
      refine .end0 rfl fun w s => ⟨(), ?_, trivial, finE .auto s⟩
      rfl
    · refine .s (.r (.p (.eql rfl rfl) (.p (.a rfl) (.n (.t (.condD rfl (fun h30 => ?_) (fun h30 => ?_)))))))
      · refine .r (.p (.m rfl) ?_)
        refine .does rfl (Does.callE rfl call127 rfl (dng_put hp ht hk (.inl h30)) .auto) ?_
        rintro _ _ ⟨⟨⟩, -, rfl, rfl⟩
        refine .n (.b ?_)
        rw [show d.kernel = d.put from by unfold Dng.kernel; repeat (first | rw [if_neg (by omega)] | rw [if_pos (by omega)])]
        refine .end0 rfl fun w s => ⟨(), ?_, trivial, finE .auto s⟩
        rfl
      · refine .s (.r (.p (.eql rfl rfl) (.p (.a rfl) (.n (.t (.condD rfl (fun h34 => ?_) (fun h34 => ?_)))))))
        · refine .r (.p (.m rfl) ?_)
          refine .does rfl (Does.callE rfl call128 rfl (dng_get hp ht hk (.inr h34)) .auto) ?_
          rintro _ _ ⟨⟨⟩, -, rfl, rfl⟩
          refine .n (.b ?_)
          rw [show d.kernel = d.get from by unfold Dng.kernel; repeat (first | rw [if_neg (by omega)] | rw [if_pos (by omega)])]
          refine .end0 rfl fun w s => ⟨(), ?_, trivial, finE .auto s⟩
          rfl
        · refine .s (.r (.p (.eql rfl rfl) (.p (.a rfl) (.n (.t (.condD rfl (fun h38 => ?_) (fun h38 => ?_)))))))
          · refine .r (.p (.m rfl) ?_)
            refine .does rfl (Does.callE rfl call129 rfl (dng_sleep hp ht hk) .auto) ?_
            rintro _ _ ⟨⟨⟩, -, rfl, rfl⟩
            refine .n (.b ?_)
            rw [show d.kernel = d.sleep from by unfold Dng.kernel; repeat (first | rw [if_neg (by omega)] | rw [if_pos (by omega)])]
            refine .end0 rfl fun w s => ⟨(), ?_, trivial, finE .auto s⟩
            rfl
          · refine .r (.p (.m rfl) (.p (.m rfl) ?_))
            refine .does rfl (Does.callE rfl call102 rfl (dng_a hp ht hk.I.a) .auto) ?_
            rintro _ _ ⟨⟨⟩, -, rfl, rfl⟩
            refine .does rfl (Does.callE rfl call99 rfl (dng_pass hp ht (Nat.le_trans hk.recs (by decide)) (by decide) hk.R.l) .auto) ?_
            rintro _ _ ⟨⟨⟩, -, rfl, rfl⟩
            refine .n (.b ?_)
            rw [show d.kernel = d.pass d.a 0 0 from by unfold Dng.kernel; repeat (first | rw [if_neg (by omega)] | rw [if_pos (by omega)])]
            refine .end0 rfl fun w s => ⟨(), ?_, trivial, finE .auto s⟩
            rfl

end Go.SLYtnceicnimongcaaGreat
namespace Go.SLYtnceicnimongcaaGreat
open Go Go.RowKit Go.Proofs Go.Proofs.Tryz

theorem dng_moved {W : World} {bd b p : Nat} {ps : List (Option Nat)} {d : Dng} {l : List Int} {u : Value} (hl : ∀ w ∈ l, 0 ≤ w ∧ LiveAt ps d.s w.toNat) (hw : ∀ w ∈ d.waits, 0 ≤ w ∧ LiveAt ps d.s w.toNat) (hm : d.s.prg.mutexes ≤ (d.s.gates.mtx.length : Int)) (hgm : d.s.gates.mtx.length ≤ 1000000) (hmw : ∀ x ∈ d.s.gates.mtx, x.wait.length ≤ 1000000) (hb : d.ends.length + l.length ≤ 1000000 ∧ d.out.woken.length + l.length ≤ 1000000) : Fn Tryz.prog W 105 [ptr bd, u] [dngX bd b p ps d, sl intE 1 u l] Unit (fun _ => .tuple #[]) (fun _ => True) (fun _ => [dngX bd b p ps (d.moved l), sl intE 1 u l]) := by
  refine Fn.intro (N := 57) func105 rfl ntmps105 rfl fun F => ?_
  show GoC _ _ _ _ _ _ [dngX bd b p ps d, sl intE 1 u l, F]
  refine .o2 (C := dngX bd b p ps d) .auto rfl ?_
  rintro vw ve -
  refine .o10 (C := spcX b ps d.s) .auto rfl ?_
  rintro fv sv pv bt vm bg vt bk bw vr -
  have hww : waitsTo d d.s.prg.mutexes.toNat = d.waits := rfl
  refine .s (.s (.r (.p (.m rfl) (.p (.n rfl) (.p (.z rfl) (.p (.l rfl) ?_))))))
  refine .p (.n rfl) (.p (.z rfl) (.p (.f rfl) (.p (.l rfl) (.p (.m rfl) (.n (.t (.b ?_)))))))
  refine .loopK (X := Nat) [4, 6, 17, 18, 19, 20, 21, 22, 23, 24, 25, 26, 27, 28, 29, 30, 31, 32, 33, 34, 35, 36, 37, 38, 39, 40, 41, 42, 43, 44, 45, 46] (fun k => d.s.prg.mutexes.toNat - k) (fun k => k ≤ d.s.prg.mutexes.toNat) (fun k => [(17, some (.int .i64 (k : Int)))]) (fun k => [dngX bd b p ps ({ d with s := whyAll d.s (waitsTo d k) } : Dng), sl intE 1 u l, F]) 0 ?_ ?_ ?_ ?_
  · exact Nat.zero_le _
  · exact ⟨rfl, trivial⟩
  · exact fun w s => Ent.kept .auto w s
  rintro k hk
  refine .s (.r (.p (.lss rfl rfl) (.n (.t (.s (.condD rfl (fun h18 => ?_) (fun h18 => ?_)))))))
  · refine .v (.t (.s (.b (.s (.r (.p (.m rfl) (.p (.a rfl) (.n (.t (.s (.r ?_)))))))))))
    obtain ⟨x, hx⟩ := at_some (show k < d.s.gates.mtx.length by omega)
    refine .o2 (C := dngX bd b p ps (({ d with s := whyAll d.s (waitsTo d k) } : Dng))) .auto rfl ?_
    rintro vw ve -
    refine .o10 (C := spcX b ps (({ d with s := whyAll d.s (waitsTo d k) } : Dng)).s) .auto rfl ?_
    rintro fv sv pv bt vm bg vt bk bw vr -
    refine .p (.m rfl) (.p (.n rfl) (.p (.z rfl) (.p (.l rfl) ?_)))
    refine .p (.n rfl) (.p (.f rfl) (.p (.l rfl) (.p (.m rfl) ?_)))
    have hxg : (whyAll d.s (waitsTo d k)).gates.mtx[k]? = some x := by rw [whyAll_gates]; exact hx
    have hxl := hmw x (List.mem_of_getElem? hx)
    refine .does rfl (Does.callE rfl call123 rfl (gate_Waiters1 hxg hxl) .auto) ?_
    rintro _ _ ⟨u28, -, rfl, rfl⟩
    refine .p (.len rfl) (.p (.m rfl) (.n (.t (.b ?_))))
    refine .loopK (X := Nat) [6, 30, 31, 32, 33, 34, 35, 36, 37, 38, 39, 40, 41, 42, 43, 44, 45] (fun j => (x.wait.map (·.who)).length - j) (fun j => j ≤ (x.wait.map (·.who)).length) (fun j => [(30, some (.int .i64 (j : Int)))]) (fun j => [dngX bd b p ps ({ d with s := whyAll d.s (waitsTo d k ++ (x.wait.map (·.who)).take j) } : Dng), sl intE 1 u28 (x.wait.map (·.who)), sl intE 1 u l, F]) 0 ?_ ?_ ?_ ?_
    · exact Nat.zero_le _
    · exact ⟨rfl, trivial⟩
    · rw [List.take_zero, List.append_nil]; exact fun w s => Ent.kept .auto w s
    rintro j hj
    refine .s (.r (.p (.lss rfl rfl) (.n (.t (.s (.condD rfl (fun h31 => ?_) (fun h31 => ?_)))))))
    · refine .v (.t (.s (.b (.s (.r ?_)))))
      have hxl2 : (x.wait.map (·.who)).length ≤ 1000000 := by rw [List.length_map]; exact hxl
      obtain ⟨w, hwj⟩ := at_some (show j < (x.wait.map (·.who)).length by omega)
      have hwm : w ∈ d.waits := List.mem_flatMap.2 ⟨x, List.mem_of_getElem? (i := k) (by rw [List.getElem?_take_of_lt (by omega)]; exact hx), List.mem_of_getElem? hwj⟩
      obtain ⟨hw0, hwl⟩ := hw w hwm
      obtain ⟨hw16, q, v, hq, hv, hRv⟩ := live_why w.toNat (waitsTo d k ++ (x.wait.map (·.who)).take j) hwl
      refine .p (.ix _ rfl rfl rfl (by first | omega | decide)) ?_
      refine .p (.lr rfl ‹_›) ?_
      refine .p (.a rfl) (.n (.t (.r ?_)))
      refine .o2 (C := dngX bd b p ps (({ d with s := whyAll d.s (waitsTo d k ++ (x.wait.map (·.who)).take j) } : Dng))) .auto rfl ?_
      rintro vw ve -
      refine .o10 (C := spcX b ps (({ d with s := whyAll d.s (waitsTo d k ++ (x.wait.map (·.who)).take j) } : Dng)).s) .auto rfl ?_
      rintro fv sv pv bt vm bg vt bk bw vr -
      refine .fr .auto (thrs_out hq hv) ?_
      refine .p (.m rfl) (.p (.n rfl) (.p (.z rfl) (.p (.l rfl) (.p (.m rfl) ?_))))
      refine .p (.n rfl) (.p (.f rfl) ?_)
      refine .p (.ixArr w.toNat underlying70 sizeOf69 rfl rfl (by omega) hw16) ?_
      refine .p (.ld rfl (Cell.a (by rw [Nat.mul_one, spcC_get hw16, getD_of hq]))) ?_
      refine .p (.n rfl) (.p (.f rfl) ?_)
      refine .does rfl (Does.st sizeOf3 rfl rfl rfl rfl) ?_
      rintro _ _ ⟨rfl, rfl⟩
      rw [thr_why]
      refine .n (.b (.t (.r ?_)))
      refine .p (.inc rfl rfl (by omega)) ?_
      refine .p (.m rfl) (.n ?_)
      refine .to (A := thrsH ps (({ d with s := whyAll d.s (waitsTo d k ++ (x.wait.map (·.who)).take j) } : Dng).s.thr.set w.toNat (some ({ v with why := 1 })))) (Bs := [arr q 0 (thrC ({ v with why := 1 })), thrsH (ps.set w.toNat none) (({ d with s := whyAll d.s (waitsTo d k ++ (x.wait.map (·.who)).take j) } : Dng).s.thr.set w.toNat none)]) .auto (thrs_shut (List.getElem?_eq_some_iff.1 hv).1 hq) ?_
      refine .againK (j + 1) .auto rfl ?_ ?_ ?_ ?_
      · omega
      · show j + 1 ≤ _; omega
      · exact ⟨rfl, trivial⟩
      · rw [take_snoc hwj, ← List.append_assoc, whyAll_app _ _ [w], show whyAll (whyAll d.s (waitsTo d k ++ (x.wait.map (·.who)).take j)) [w] = (whyAll d.s (waitsTo d k ++ (x.wait.map (·.who)).take j)).setT w.toNat { v with why := 1 } from by show Spc.setT _ _ _ = _; rw [spc_t hv]]; exact fun w s => Ent.kept .auto w s
    · refine .x (.tx (.tx (.bh (.b (.t (.r ?_))))))
      refine .p (.inc rfl rfl (by omega)) ?_
      refine .p (.m rfl) (.n ?_)
      rw [List.take_of_length_le (by omega), ← waitsTo_next hx]
      refine .againK (k + 1) .auto rfl ?_ ?_ ?_ ?_
      · omega
      · show k + 1 ≤ _; omega
      · exact ⟨rfl, trivial⟩
      · exact fun w s => Ent.kept .auto w s
  · refine .x (.tx (.tx (.bh (.t (.s (.r (.p (.m rfl) (.p (.len rfl) (.p (.m rfl) (.n (.t (.b ?_))))))))))))
    rw [show k = d.s.prg.mutexes.toNat from by omega, hww]
    refine .loopK (X := Nat) [8, 49, 50, 51, 52, 53, 54, 55, 56] (fun k => l.length - k) (fun k => k ≤ l.length) (fun k => [(49, some (.int .i64 (k : Int)))]) (fun k => [dngX bd b p ps (({ d with s := whyAll d.s d.waits } : Dng).goesAll (l.take k)), sl intE 1 u l, F]) 0 ?_ ?_ ?_ ?_
    · exact Nat.zero_le _
    · exact ⟨rfl, trivial⟩
    · exact fun w s => Ent.kept .auto w s
    rintro k hk
    refine .s (.r (.p (.lss rfl rfl) (.n (.t (.s (.condD rfl (fun h50 => ?_) (fun h50 => ?_)))))))
    · refine .v (.t (.s (.b (.s (.r ?_)))))
      obtain ⟨w, hwj⟩ := at_some (show k < l.length by omega)
      have hwl := hl w (List.mem_of_getElem? hwj)
      obtain ⟨hw16, q, v, hq, hv, hRv⟩ := live_goesAll w.toNat (l.take k) ({ d with s := whyAll d.s d.waits } : Dng) (live_why _ _ hwl.2) (fun z hz => live_why _ _ (hl z (List.mem_of_mem_take hz)).2)
      have hgl2 := goesAll_len ({ d with s := whyAll d.s d.waits } : Dng) (l.take k)
      rw [List.length_take] at hgl2
      refine .p (.ix _ rfl rfl rfl (by first | omega | decide)) ?_
      refine .p (.lr rfl ‹_›) ?_
      refine .p (.a rfl) (.n (.t (.r (.p (.m rfl) (.p (.m rfl) ?_)))))
      refine .does rfl (Does.callE rfl call96 rfl (dng_goesI (d := ({ d with s := whyAll d.s d.waits } : Dng).goesAll (l.take k)) hwl.1 hq hv hw16 hRv (by show (Dng.goesAll _ _).ends.length ≤ _; simp only at hgl2; omega) (by show (Dng.goesAll _ _).out.woken.length ≤ _; simp only at hgl2; omega)) .auto) ?_
      rintro _ _ ⟨⟨⟩, -, rfl, rfl⟩
      refine .n (.b (.t (.r ?_)))
      refine .p (.inc rfl rfl (by omega)) ?_
      refine .p (.m rfl) (.n ?_)
      refine .againK (k + 1) .auto rfl ?_ ?_ ?_ ?_
      · omega
      · show k + 1 ≤ _; omega
      · exact ⟨rfl, trivial⟩
      · rw [take_snoc hwj, goesAll_snoc]; exact fun w s => Ent.kept .auto w s
    · refine .x (.tx (.tx (.bh ?_)))
      rw [show d.moved l = ({ d with s := whyAll d.s d.waits } : Dng).goesAll (l.take k) from by rw [List.take_of_length_le (by omega)]; rfl]
      refine .end0 rfl fun w s => ⟨(), ?_, trivial, finE .auto s⟩
      rfl

theorem dng_call {W : World} {bd b p : Nat} {ps : List (Option Nat)} {d : Dng} {t : Thr} (hp : ps[d.n]? = some (some p)) (ht : d.s.thr[d.n]? = some (some t)) (hk : CallOk ps d t) : Fn Tryz.prog W 91 [ptr bd] [dngX bd b p ps d] (List (Option Nat)) (fun _ => .tuple #[]) (fun _ => True) (fun qs => [dngX bd b p qs d.call]) := by
  refine Fn.intro (N := 124) func91 rfl ntmps91 rfl fun F => ?_
  show GoC _ _ _ _ _ _ [dngX bd b p ps d, F]
  refine .o2 (C := dngX bd b p ps (d)) .auto rfl ?_
  rintro vw ve -
  have hnn := hk.nn
  have hn0 := hk.I.n
  have hIa := hk.I.a
  have hRl := hk.R.l
  refine .s (.r (.p (.m rfl) (.p (.n rfl) (.p (.f rfl) (.p (.z rfl) (.p (.l rfl) (.n (.t (.b (.s (.r (.p (.eql rfl rfl) (.p (.a rfl) (.n (.t (.condD rfl (fun h11 => ?_) (fun h11 => ?_)))))))))))))))))
  · refine .r (.p (.m rfl) ?_)
    refine .does rfl (Does.callE rfl call98 rfl (dng_spawn hp ht hk) .auto) ?_
    rintro _ _ ⟨qs, -, rfl, rfl⟩
    refine .n (.b ?_)
    rw [show d.call = d.spawn from by unfold Dng.call; repeat (first | rw [if_neg (by omega)] | rw [if_pos (by omega)])]
    refine .end0 rfl fun w s => ⟨qs, ?_, trivial, finE .auto s⟩
    rfl
  · refine .s (.r (.p (.eql rfl rfl) (.p (.a rfl) (.n (.t (.condD rfl (fun h15 => ?_) (fun h15 => ?_)))))))
    · refine .s ?_
      refine .o10 (C := spcX b ps (d).s) .auto rfl ?_
      rintro fv sv pv bt vm bg vt bk bw vr -
      refine .fr .auto (thrs_out hp ht) ?_
      refine .draw [arr bd 0 (dngC b p d vw ve)] [1, 1, 1, 1, 1, 1, 1, 1, 1, 1, 1, 1, 1, 1, 1, 1, 1, 1, 1, 1, 3] rfl (by kernel_rfl) ?_
      refine .p (.m rfl) (.p (.n rfl) (.p (.f rfl) (.p (.l rfl) (.p (.m rfl) ?_))))
      refine .p (.n rfl) (.p (.f rfl) (.p (.o rfl) (.p (.l rfl) (.p (.m rfl) ?_))))
      refine .p (.n rfl) (.p (.f rfl) (.p (.l rfl) ?_))
      refine .p (.n rfl) (.p (.f rfl) (.p (.l rfl) ?_))
      refine .p (.n rfl) (.p (.z rfl) (.p (.f rfl) ?_))
      refine .p (.ixArr d.i.a.toNat underlying126 sizeOf78 rfl rfl (by omega) (by omega)) ?_
      refine .d3 rfl (Does.st sizeOf78 rfl rfl rfl (Nat.blt_eq.mpr (by show 2 + d.i.a.toNat * 1 < 18; omega))) ?_
      rintro _ _ ⟨rfl, rfl⟩
      rw [thr_setI _ (by omega) (by omega) hRl]
      refine .n (.t (.r (.p (.m rfl) (.p (.m rfl) (.p (.n rfl) (.p (.f rfl) (.p (.l rfl) ?_)))))))
      refine .p (.n rfl) (.p (.f rfl) ?_)
      refine .p (.ld rfl (Cell.a (cs := thrC (t.put d.i.a t.handle)) rfl)) ?_
      refine .to (A := thrsH ps (d.s.thr.set d.n (some (t.put d.i.a t.handle)))) (Bs := [arr p 0 (thrC (t.put d.i.a t.handle)), thrsH (ps.set d.n none) (d.s.thr.set d.n none)]) .auto (thrs_shut (List.getElem?_eq_some_iff.1 ht).1 hp) ?_
      refine .does rfl (Does.callE rfl call99 rfl (dng_pass (d := d.setT (t.put d.i.a t.handle)) (t := t.put d.i.a t.handle) hp (setT_same ht) (Nat.le_trans hk.recs (by decide)) (by decide) (by rw [put_len]; exact hRl)) .auto) ?_
      rintro _ _ ⟨⟨⟩, -, rfl, rfl⟩
      refine .n (.b ?_)
      rw [show d.call = (d.setT (t.put d.i.a t.handle)).pass 0 t.handle 0 from by unfold Dng.call; rw [if_neg h11, if_pos h15, dng_t ht]]
      refine .end0 rfl fun w s => ⟨ps, ?_, trivial, finE .auto s⟩
      rfl
    · refine .s (.r (.p (.eql rfl rfl) (.p (.a rfl) (.n (.t (.condD rfl (fun h46 => ?_) (fun h46 => ?_)))))))
      · refine .s (.r (.p (.m rfl) ?_))
        refine .does rfl (Does.callE rfl call99 rfl (dng_pass hp ht (Nat.le_trans hk.recs (by decide)) (by decide) hk.R.l) .auto) ?_
        rintro _ _ ⟨⟨⟩, -, rfl, rfl⟩
        refine .n (.t (.r ?_))
        refine .o2 (C := dngX bd b p ps (d.pass 0 0 0)) .auto rfl ?_
        rintro vw ve -
        refine .p (.m rfl) (.p (.n rfl) (.p (.f rfl) (.p (.o rfl) ?_)))
        refine .does rfl (Does.st sizeOf4 rfl rfl rfl rfl) ?_
        rintro _ _ ⟨rfl, rfl⟩
        rw [dng_yld]
        refine .n (.b ?_)
        rw [show d.call = { d.pass 0 0 0 with out := { d.out with yielded := true } } from by unfold Dng.call; repeat (first | rw [if_neg (by omega)] | rw [if_pos (by omega)])]
        refine .end0 rfl fun w s => ⟨ps, ?_, trivial, finE .auto s⟩
        rfl
      · refine .s (.r (.p (.eql rfl rfl) (.p (.a rfl) (.n (.t (.condD rfl (fun h54 => ?_) (fun h54 => ?_)))))))
        · refine .r (.p (.m rfl) ?_)
          refine .does rfl (Does.callE rfl call100 rfl (dng_join hp ht hk) .auto) ?_
          rintro _ _ ⟨qs, -, rfl, rfl⟩
          refine .n (.b ?_)
          rw [show d.call = d.join from by unfold Dng.call; repeat (first | rw [if_neg (by omega)] | rw [if_pos (by omega)])]
          refine .end0 rfl fun w s => ⟨qs, ?_, trivial, finE .auto s⟩
          rfl
        · refine .s (.r (.p (.eql rfl rfl) (.p (.a rfl) (.n (.t (.condD rfl (fun h58 => ?_) (fun h58 => ?_)))))))
          · refine .r (.p (.m rfl) ?_)
            refine .does rfl (Does.callE rfl call101 rfl (dng_detach hp ht hk) .auto) ?_
            rintro _ _ ⟨qs, -, rfl, rfl⟩
            refine .n (.b ?_)
            rw [show d.call = d.detach from by unfold Dng.call; repeat (first | rw [if_neg (by omega)] | rw [if_pos (by omega)])]
            refine .end0 rfl fun w s => ⟨qs, ?_, trivial, finE .auto s⟩
            rfl
          · refine .s (.r (.p (.eql rfl rfl) (.p (.a rfl) (.n (.t (.condD rfl (fun h62 => ?_) (fun h62 => ?_)))))))
            · refine .s (.r (.p (.m rfl) (.p (.m rfl) ?_)))
              refine .does rfl (Does.callE rfl call102 rfl (dng_a hp ht hk.I.a) .auto) ?_
              rintro _ _ ⟨⟨⟩, -, rfl, rfl⟩
              refine .does rfl (Does.callE rfl call88 rfl (dng_tell hp ht (Nat.le_trans hk.recs (by decide))) .auto) ?_
              rintro _ _ ⟨⟨⟩, -, rfl, rfl⟩
              refine .n (.t (.r (.p (.m rfl) (.p (.m rfl) ?_))))
              refine .does rfl (Does.callE rfl call102 rfl (dng_a (d := d.tell d.a 0 0 true) hp ht hk.I.a) .auto) ?_
              rintro _ _ ⟨⟨⟩, -, rfl, rfl⟩
              rw [show (d.tell d.a 0 0 true).a = d.a from rfl]
              refine .does rfl (Does.callE rfl call89 rfl (dng_fin (d := d.tell d.a 0 0 true) hp ht hk.lt hk.lp hk.T hk.R (Nat.le_trans hk.ends (by decide)) (Nat.le_trans hk.wok (by decide)) hk.join) .auto) ?_
              rintro _ _ ⟨qs, -, rfl, rfl⟩
              refine .n (.b ?_)
              rw [show d.call = (d.tell d.a 0 0 true).fin d.a from by unfold Dng.call; repeat (first | rw [if_neg (by omega)] | rw [if_pos (by omega)])]
              refine .end0 rfl fun w s => ⟨qs, ?_, trivial, finE .auto s⟩
              rfl
            · refine .s (.s (.r (.p (.eql rfl rfl) (.p (.a rfl) (.n (.t (.condD rfl (fun h72 => ?_) (fun h72 => ?_))))))))
              · refine .v (.t ?_)
                first | refine GoC.condD rfl (fun _ => ?_) (fun hc => absurd h72 hc) | refine GoC.cond rfl (fun _ => ?_) (fun hc => by rw [h72] at hc; cases hc)
                refine .r (.p (.m rfl) ?_)
                refine .does rfl (Does.callE rfl call103 rfl (dng_mutex hp ht hk) .auto) ?_
                rintro _ _ ⟨⟨⟩, -, rfl, rfl⟩
                refine .n (.b ?_)
                rw [show d.call = d.mutex from by unfold Dng.call; repeat (first | rw [if_neg (by omega)] | rw [if_pos (by omega)])]
                refine .end0 rfl fun w s => ⟨ps, ?_, trivial, finE .auto s⟩
                rfl
              · refine .s (.r (.p (.eql rfl rfl) (.p (.a rfl) (.n (.t (.condD rfl (fun h72 => ?_) (fun h72 => ?_)))))))
                · refine .v (.t ?_)
                  first | refine GoC.condD rfl (fun _ => ?_) (fun hc => absurd h72 hc) | refine GoC.cond rfl (fun _ => ?_) (fun hc => by rw [h72] at hc; cases hc)
                  refine .r (.p (.m rfl) ?_)
                  refine .does rfl (Does.callE rfl call103 rfl (dng_mutex hp ht hk) .auto) ?_
                  rintro _ _ ⟨⟨⟩, -, rfl, rfl⟩
                  refine .n (.b ?_)
                  rw [show d.call = d.mutex from by unfold Dng.call; repeat (first | rw [if_neg (by omega)] | rw [if_pos (by omega)])]
                  refine .end0 rfl fun w s => ⟨ps, ?_, trivial, finE .auto s⟩
                  rfl
                · refine .r (.p (.eql rfl rfl) (.p (.a rfl) (.n (.t (.condD rfl (fun h72c => ?_) (fun h72c => ?_))))))
                  · refine .r (.p (.m rfl) ?_)
                    refine .does rfl (Does.callE rfl call103 rfl (dng_mutex hp ht hk) .auto) ?_
                    rintro _ _ ⟨⟨⟩, -, rfl, rfl⟩
                    refine .n (.b ?_)
                    rw [show d.call = d.mutex from by unfold Dng.call; repeat (first | rw [if_neg (by omega)] | rw [if_pos (by omega)])]
                    refine .end0 rfl fun w s => ⟨ps, ?_, trivial, finE .auto s⟩
                    rfl
                  · refine .s (.s (.r (.p (.eql rfl rfl) (.p (.a rfl) (.n (.t (.condD rfl (fun h78 => ?_) (fun h78 => ?_))))))))
                    · refine .v (.t ?_)
                      first | refine GoC.condD rfl (fun _ => ?_) (fun hc => absurd h78 hc) | refine GoC.cond rfl (fun _ => ?_) (fun hc => by rw [h78] at hc; cases hc)
                      refine .s ?_
                      refine .o10 (C := spcX b ps (d).s) .auto rfl ?_
                      rintro fv sv pv bt vm bg vt bk bw vr -
                      refine .draw [arr bd 0 (dngC b p d vw ve), arr b 0 (spcC fv sv pv d.s.prg bt ps vm bg vt bk bw vr)] [1, 1, 1, 1, 1, 1, 1, 1, 1, 1, 1, 1, 1, 1, 1, 1, 1, 1, 1, 1, 1, 1, 1, 3, 1, 1, 1, 1, 1] rfl (by kernel_rfl) ?_
                      refine .p (.m rfl) (.p (.n rfl) (.p (.z rfl) (.p (.l rfl) ?_)))
                      refine .p (.n rfl) (.p (.f rfl) (.p (.l rfl) (.p (.m rfl) ?_)))
                      refine .p (.n rfl) (.p (.f rfl) (.p (.o rfl) (.p (.l rfl) ?_)))
                      refine .p (.convI underlying78 underlying3 rfl (by omega)) ?_
                      refine .p (.m rfl) (.p (.n rfl) (.p (.f rfl) (.p (.l rfl) (.p (.m rfl) ?_))))
                      refine .p (.n rfl) (.p (.f rfl) (.p (.z rfl) (.p (.l rfl) (.p (.eql rfl rfl) ?_))))
                      refine .d3 rfl (Does.callE rfl call104 rfl (gate_Signal hk.gl hk.gcnd) .auto) ?_
                      rintro _ _ ⟨u105, -, rfl, rfl⟩
                      refine .p (.m rfl) ?_
                      refine .p (.extract (v := u105) rfl rfl) ?_
                      refine .p (.extract (v := .int .i64 (d.s.gates.signal d.i.n d.choice (decide (d.i.op = 29))).2.1) rfl rfl) ?_
                      refine .p (.a rfl) (.p (.a rfl) (.n (.t (.s (.r (.p (.m rfl) (.p (.m rfl) (.p (.n rfl) (.p (.f rfl) (.p (.o rfl) (.p (.l rfl) (.p (.m rfl) ?_))))))))))))
                      refine .does rfl (Does.callE rfl call99 rfl (dng_pass (d := (d.withG (d.s.gates.signal d.i.n d.choice (decide (d.i.op = 29))).2.2)) hp ht (Nat.le_trans hk.recs (by decide)) signal_bd hk.R.l) .auto) ?_
                      rintro _ _ ⟨⟨⟩, -, rfl, rfl⟩
                      have sigw : ∀ w ∈ ((d.withG (d.s.gates.signal d.i.n d.choice (decide (d.i.op = 29))).2.2).pass d.i.n 0 (d.s.gates.signal d.i.n d.choice (decide (d.i.op = 29))).2.1).waits, d.s.gates.has w := fun w h => by
                        obtain ⟨x, hx, hw⟩ := List.mem_flatMap.1 h
                        obtain ⟨y, hy, rfl⟩ := List.mem_map.1 hw
                        exact (signal_mtx hk.gsm.1 hk.gsm.2 x (List.mem_of_mem_take hx)).2 y hy
                      refine .n (.t (.r (.p (.m rfl) (.p (.m rfl) ?_))))
                      refine .does rfl (Does.callE rfl call105 rfl (dng_moved (d := ((d.withG (d.s.gates.signal d.i.n d.choice (decide (d.i.op = 29))).2.2).pass d.i.n 0 (d.s.gates.signal d.i.n d.choice (decide (d.i.op = 29))).2.1)) (l := (d.s.gates.signal d.i.n d.choice (decide (d.i.op = 29))).1) (fun w h => ⟨(hk.glive w (signal_has w h)).1, ((hk.glive w (signal_has w h)).2.of (s' := (d.withG (d.s.gates.signal d.i.n d.choice (decide (d.i.op = 29))).2.2).s) rfl).pass (d := (d.withG (d.s.gates.signal d.i.n d.choice (decide (d.i.op = 29))).2.2)) ht hk.R signal_bd⟩) (fun w h => ⟨(hk.glive w (sigw w h)).1, ((hk.glive w (sigw w h)).2.of (s' := (d.withG (d.s.gates.signal d.i.n d.choice (decide (d.i.op = 29))).2.2).s) rfl).pass (d := (d.withG (d.s.gates.signal d.i.n d.choice (decide (d.i.op = 29))).2.2)) ht hk.R signal_bd⟩) (by show d.s.prg.mutexes ≤ ((d.s.gates.signal d.i.n d.choice (decide (d.i.op = 29))).2.2.mtx.length : Int); rw [signal_mlen]; exact hk.gsum) (by show ((d.s.gates.signal d.i.n d.choice (decide (d.i.op = 29))).2.2.mtx.length) ≤ _; rw [signal_mlen]; exact hk.gl.m) (fun x h => (signal_mtx hk.gsm.1 hk.gsm.2 x h).1) (by have := signal_len (c := d.i.n) (ch := d.choice) (all := decide (d.i.op = 29)) hk.gsm.2; have := hk.ends; have := hk.wok; exact ⟨by show d.ends.length + _ ≤ _; omega, by show d.out.woken.length + _ ≤ _; omega⟩)) .auto) ?_
                      rintro _ _ ⟨⟨⟩, -, rfl, rfl⟩
                      refine .n (.b ?_)
                      rw [show d.call = ((d.withG (d.s.gates.signal d.i.n d.choice (decide (d.i.op = 29))).2.2).pass d.i.n 0 (d.s.gates.signal d.i.n d.choice (decide (d.i.op = 29))).2.1).moved (d.s.gates.signal d.i.n d.choice (decide (d.i.op = 29))).1 from by unfold Dng.call; repeat (first | rw [if_neg (by omega)] | rw [if_pos (by omega)])]
                      refine .end0 rfl fun w s => ⟨ps, ?_, trivial, finE .auto s⟩
                      rfl
                    · refine .r (.p (.eql rfl rfl) (.p (.a rfl) (.n (.t (.condD rfl (fun h78 => ?_) (fun h78 => ?_))))))
                      · refine .s ?_
                        refine .o10 (C := spcX b ps (d).s) .auto rfl ?_
                        rintro fv sv pv bt vm bg vt bk bw vr -
                        refine .draw [arr bd 0 (dngC b p d vw ve), arr b 0 (spcC fv sv pv d.s.prg bt ps vm bg vt bk bw vr)] [1, 1, 1, 1, 1, 1, 1, 1, 1, 1, 1, 1, 1, 1, 1, 1, 1, 1, 1, 1, 1, 1, 1, 3, 1, 1, 1, 1, 1] rfl (by kernel_rfl) ?_
                        refine .p (.m rfl) (.p (.n rfl) (.p (.z rfl) (.p (.l rfl) ?_)))
                        refine .p (.n rfl) (.p (.f rfl) (.p (.l rfl) (.p (.m rfl) ?_)))
                        refine .p (.n rfl) (.p (.f rfl) (.p (.o rfl) (.p (.l rfl) ?_)))
                        refine .p (.convI underlying78 underlying3 rfl (by omega)) ?_
                        refine .p (.m rfl) (.p (.n rfl) (.p (.f rfl) (.p (.l rfl) (.p (.m rfl) ?_))))
                        refine .p (.n rfl) (.p (.f rfl) (.p (.z rfl) (.p (.l rfl) (.p (.eql rfl rfl) ?_))))
                        refine .d3 rfl (Does.callE rfl call104 rfl (gate_Signal hk.gl hk.gcnd) .auto) ?_
                        rintro _ _ ⟨u105, -, rfl, rfl⟩
                        refine .p (.m rfl) ?_
                        refine .p (.extract (v := u105) rfl rfl) ?_
                        refine .p (.extract (v := .int .i64 (d.s.gates.signal d.i.n d.choice (decide (d.i.op = 29))).2.1) rfl rfl) ?_
                        refine .p (.a rfl) (.p (.a rfl) (.n (.t (.s (.r (.p (.m rfl) (.p (.m rfl) (.p (.n rfl) (.p (.f rfl) (.p (.o rfl) (.p (.l rfl) (.p (.m rfl) ?_))))))))))))
                        refine .does rfl (Does.callE rfl call99 rfl (dng_pass (d := (d.withG (d.s.gates.signal d.i.n d.choice (decide (d.i.op = 29))).2.2)) hp ht (Nat.le_trans hk.recs (by decide)) signal_bd hk.R.l) .auto) ?_
                        rintro _ _ ⟨⟨⟩, -, rfl, rfl⟩
                        have sigw : ∀ w ∈ ((d.withG (d.s.gates.signal d.i.n d.choice (decide (d.i.op = 29))).2.2).pass d.i.n 0 (d.s.gates.signal d.i.n d.choice (decide (d.i.op = 29))).2.1).waits, d.s.gates.has w := fun w h => by
                          obtain ⟨x, hx, hw⟩ := List.mem_flatMap.1 h
                          obtain ⟨y, hy, rfl⟩ := List.mem_map.1 hw
                          exact (signal_mtx hk.gsm.1 hk.gsm.2 x (List.mem_of_mem_take hx)).2 y hy
                        refine .n (.t (.r (.p (.m rfl) (.p (.m rfl) ?_))))
                        refine .does rfl (Does.callE rfl call105 rfl (dng_moved (d := ((d.withG (d.s.gates.signal d.i.n d.choice (decide (d.i.op = 29))).2.2).pass d.i.n 0 (d.s.gates.signal d.i.n d.choice (decide (d.i.op = 29))).2.1)) (l := (d.s.gates.signal d.i.n d.choice (decide (d.i.op = 29))).1) (fun w h => ⟨(hk.glive w (signal_has w h)).1, ((hk.glive w (signal_has w h)).2.of (s' := (d.withG (d.s.gates.signal d.i.n d.choice (decide (d.i.op = 29))).2.2).s) rfl).pass (d := (d.withG (d.s.gates.signal d.i.n d.choice (decide (d.i.op = 29))).2.2)) ht hk.R signal_bd⟩) (fun w h => ⟨(hk.glive w (sigw w h)).1, ((hk.glive w (sigw w h)).2.of (s' := (d.withG (d.s.gates.signal d.i.n d.choice (decide (d.i.op = 29))).2.2).s) rfl).pass (d := (d.withG (d.s.gates.signal d.i.n d.choice (decide (d.i.op = 29))).2.2)) ht hk.R signal_bd⟩) (by show d.s.prg.mutexes ≤ ((d.s.gates.signal d.i.n d.choice (decide (d.i.op = 29))).2.2.mtx.length : Int); rw [signal_mlen]; exact hk.gsum) (by show ((d.s.gates.signal d.i.n d.choice (decide (d.i.op = 29))).2.2.mtx.length) ≤ _; rw [signal_mlen]; exact hk.gl.m) (fun x h => (signal_mtx hk.gsm.1 hk.gsm.2 x h).1) (by have := signal_len (c := d.i.n) (ch := d.choice) (all := decide (d.i.op = 29)) hk.gsm.2; have := hk.ends; have := hk.wok; exact ⟨by show d.ends.length + _ ≤ _; omega, by show d.out.woken.length + _ ≤ _; omega⟩)) .auto) ?_
                        rintro _ _ ⟨⟨⟩, -, rfl, rfl⟩
                        refine .n (.b ?_)
                        rw [show d.call = ((d.withG (d.s.gates.signal d.i.n d.choice (decide (d.i.op = 29))).2.2).pass d.i.n 0 (d.s.gates.signal d.i.n d.choice (decide (d.i.op = 29))).2.1).moved (d.s.gates.signal d.i.n d.choice (decide (d.i.op = 29))).1 from by unfold Dng.call; repeat (first | rw [if_neg (by omega)] | rw [if_pos (by omega)])]
                        refine .end0 rfl fun w s => ⟨ps, ?_, trivial, finE .auto s⟩
                        rfl
                      · refine .s (.s (.r (.p (.eql rfl rfl) (.p (.a rfl) (.n (.t (.condD rfl (fun h119 => ?_) (fun h119 => ?_))))))))
                        · refine .v (.t ?_)
                          first | refine GoC.condD rfl (fun _ => ?_) (fun hc => absurd h119 hc) | refine GoC.cond rfl (fun _ => ?_) (fun hc => by rw [h119] at hc; cases hc)
                          refine .r (.p (.m rfl) ?_)
                          refine .does rfl (Does.callE rfl call106 rfl (dng_sem hp ht hk) .auto) ?_
                          rintro _ _ ⟨⟨⟩, -, rfl, rfl⟩
                          refine .n (.b ?_)
                          rw [show d.call = d.sem from by unfold Dng.call; repeat (first | rw [if_neg (by omega)] | rw [if_pos (by omega)])]
                          refine .end0 rfl fun w s => ⟨ps, ?_, trivial, finE .auto s⟩
                          rfl
                        · refine .r (.p (.eql rfl rfl) (.p (.a rfl) (.n (.t (.condD rfl (fun h119 => ?_) (fun h119 => ?_))))))
                          · refine .r (.p (.m rfl) ?_)
                            refine .does rfl (Does.callE rfl call106 rfl (dng_sem hp ht hk) .auto) ?_
                            rintro _ _ ⟨⟨⟩, -, rfl, rfl⟩
                            refine .n (.b ?_)
                            rw [show d.call = d.sem from by unfold Dng.call; repeat (first | rw [if_neg (by omega)] | rw [if_pos (by omega)])]
                            refine .end0 rfl fun w s => ⟨ps, ?_, trivial, finE .auto s⟩
                            rfl
                          · refine .r (.p (.m rfl) ?_)
                            refine .does rfl (Does.callE rfl call107 rfl (dng_kernel hp ht hk) .auto) ?_
                            rintro _ _ ⟨⟨⟩, -, rfl, rfl⟩
                            refine .n (.b ?_)
                            rw [show d.call = d.kernel from by unfold Dng.call; repeat (first | rw [if_neg (by omega)] | rw [if_pos (by omega)])]
                            refine .end0 rfl fun w s => ⟨ps, ?_, trivial, finE .auto s⟩
                            rfl

end Go.SLYtnceicnimongcaaGreat
