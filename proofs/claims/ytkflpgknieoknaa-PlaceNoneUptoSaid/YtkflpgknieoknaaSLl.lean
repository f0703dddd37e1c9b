/- Slices that are made, cut, closed up and cleared. Conditions: none, this text proves no statement. -/
import Derived.Test.YtkflpgknieoknaaSLk
namespace Go.SLYtkflpgknieoknaa
open Go Go.RowKit

section
variable {P : Program} {W : World} {N : Nat} {Q : Exit → Act → World → Prop} {L : List (Nat × Option Value)} {H K : List HProp} {O : Array Oper} {T : TypeId} {α : Type}

/-! ### made -/

theorem zeroRows {enc : α → List Value} {k : Nat} {z0 : α} (hk : (enc z0).length = k) (hk0 : 0 < k) (n : Nat) :
    ((Array.range (n * k)).map ((enc z0).toArray[· % (enc z0).toArray.size]!)).toList = rows enc (List.replicate n z0) := by
  apply List.ext_getElem?
  intro i
  have hl : (rows enc (List.replicate n z0)).length = n * k := by
    rw [rows_length (k := k) (fun x hx => by rw [List.eq_of_mem_replicate hx]; exact hk), List.length_replicate]
  by_cases hi : i < n * k
  · have hq : i / k < n := Nat.div_lt_of_lt_mul (by rw [Nat.mul_comm]; exact hi)
    have hm := Nat.mod_lt i hk0
    have hx : (List.replicate n z0)[i / k]? = some z0 := by simp [hq]
    have h1 := rows_get (enc := enc) (k := k) (fun x hx => by rw [List.eq_of_mem_replicate hx]; exact hk) hx hm
    rw [show i / k * k + i % k = i from by rw [Nat.mul_comm]; exact Nat.div_add_mod i k] at h1
    rw [h1]
    simp [hi, hk, hm]
  · rw [List.getElem?_eq_none (l := rows enc _) (by rw [hl]; omega), List.getElem?_eq_none (by simp; omega)]

theorem run_makeSlice {enc : α → List Value} {k : Nat} (z0 : α) {t e : TypeId} {kd kd' : IntKind} {i : TypeInfo} {z : Value} {n : Nat} {R : HProp} {w : World} (hu : P.underlying t = some (.slice e)) (hi : ∀ w, (typeInfo e).run P w = .ok i w) (hz : i.zero = some z) (hk : i.size = k) (hzc : z.cells = (enc z0).toArray) (hkl : (enc z0).length = k) (hk0 : 0 < k) (hb : 1 ≤ i.bytes ∧ i.bytes ≤ 4096)
    (hn : n ≤ 1073741824) (hs : Sat W w R) : ∃ b w', (Instr.makeSlice t (.int kd (n : Int)) (.int kd' (n : Int))).run P w = .ok (.slice (some ⟨b, 0, none⟩) n n) w' ∧ Sat W w' (sep (sl enc k (.slice (some ⟨b, 0, none⟩) n n) (List.replicate n z0)) R) := by
  have hz0 : ∀ w, (zeroValue e).run P w = .ok z w := fun w => by simp [zeroValue, hi, hz]
  have hsz : ∀ w, (sizeOf e).run P w = .ok k w := fun w => by simp [sizeOf, hi, hk]
  have hwr : IntKind.i64.wrap (n : Int) = (n : Int) := wrap_i64 (by omega)
  have hwr0 : IntKind.i64.wrap 0 = 0 := wrap_i64 (by omega)
  have hbig : ¬ (i.bytes * (n : Int) > 2 ^ 48) := by
    have h1 : i.bytes * n ≤ 4096 * 1073741824 := Nat.mul_le_mul hb.2 hn
    have h2 : (2 : Int) ^ 48 = 281474976710656 := by decide
    have h3 : ((i.bytes * n : Nat) : Int) = i.bytes * (n : Int) := by simp
    omega
  have hbig2 : ¬ (281474976710656 < (i.bytes : Int) * (n : Int)) := hbig
  have hroom : ∀ m w', (askRoom m).run P w' = .ok () w' := fun m w' => by
    unfold askRoom
    split <;> rfl
  obtain ⟨news, hnews⟩ : ∃ news, news = (Array.range (n * k)).map ((enc z0).toArray[· % (enc z0).toArray.size]!) := ⟨_, rfl⟩
  have e4 : ∀ cs : Array Value, (newRow e cs).run P w = .ok ⟨w.heap.size, 0, none⟩ (w.alloc (.cells cs e)) := fun _ => rfl
  refine ⟨w.heap.size, w.alloc (.cells news e), ?_, ?_⟩
  · by_cases h0 : n = 0
    · subst h0
      have : news = #[] := by rw [hnews]; simp
      simp [Instr.makeSlice, run_underlying hu, asInt, asIntOf, hi, hwr0, hroom, hsz, e4, this]
      rw [show (Array.range 0).map (fun _ => (default : Value)) = #[] from by simp]
    · have hnk : ¬ (n * k = 0) := by
        intro h; rcases Nat.mul_eq_zero.1 h with h | h <;> omega
      have h3 : ¬ ((n : Int) < 0) := by omega
      have hk00 : ¬ (k = 0) := by omega
      simp [Instr.makeSlice, run_underlying hu, asInt, asIntOf, hi, hwr, hroom, hsz, hz0, hzc, e4, hbig2, h3, h0, hk00, hnews]
      intro h; exact absurd h hnk
  · have h := hs.alloc news e
    have h9 : news.toList = rows enc (List.replicate n z0) ++ [] := by rw [hnews, List.append_nil]; exact zeroRows hkl hk0 n
    rw [h9] at h
    have := Sat.mk_sl (enc := enc) (k := k) (b := w.heap.size) (cap := n) (xs := List.replicate n z0) (sp := []) (by simp) (fun x hx => by rw [List.eq_of_mem_replicate hx]; exact hkl) (by simp) h
    simpa using this

theorem Does.mkSl {enc : α → List Value} {k : Nat} (z0 : α) {x y : Operand} {t e : TypeId} {kd kd' : IntKind} {i : TypeInfo} {z : Value} {m m' : Int} (n : Nat) {pos : String} {after : Array Edge} {guard : Option (Nat × Bool)} {d : Nat} (hN : Nat.blt d N = true)
    (hu : P.underlying t = some (.slice e)) (hi : ∀ w, (typeInfo e).run P w = .ok i w) (hz : i.zero = some z) (hk : i.size = k) (hzc : z.cells = (enc z0).toArray) (hkl : (enc z0).length = k) (hk0 : 0 < k) (hb : 1 ≤ i.bytes ∧ i.bytes ≤ 4096)
    (hx : ev L x = some (.int kd m)) (hy : ev L y = some (.int kd' m')) (hm : m = (n : Int)) (hm' : m' = (n : Int)) (hn : n ≤ 1073741824) :
    Does P W N ⟨some d, .makeSlice t x y, T, pos, after, guard⟩ L H (fun L1 H1 => ∃ b, L1 = (d, some (.slice (some ⟨b, 0, none⟩) n n)) :: L ∧ H1 = sl enc k (.slice (some ⟨b, 0, none⟩) n n) (List.replicate n z0) :: H) := fun a w ha hs Kp hK => by
  subst hm hm'
  obtain ⟨b, w', h1, h2⟩ := run_makeSlice (P := P) (kd := kd) (kd' := kd') z0 hu hi hz hk hzc hkl hk0 hb hn hs
  have hrun : (execOp a.eval ⟨some d, .makeSlice t x y, T, pos, after, guard⟩).run P w = .ok (.value (.slice (some ⟨b, 0, none⟩) n n)) w' := by
    simp [execOp, ha.eval hx, ha.eval hy, h1]
  unfold Oper.wp
  rw [hrun]
  simp only [Oper.upon]
  exact hK _ _ ⟨b, rfl, rfl⟩ _ _ (ha.put (Nat.blt_eq.mp hN) _) h2

/-! ### cut -/

theorem Y.sliceE {x : Operand} {lo hi mx : Option Operand} {vlo vhi vmx : Option Value} {t e : TypeId} {k : Nat} {a : Option Addr} {len cap l h m : Nat} (hu : P.underlying t = some (.slice e)) (hz : ∀ w, (sizeOf e).run P w = .ok k w) (hx : ev L x = some (.slice a len cap))
    (hlo : ∀ y, lo = some y → ∃ v, ev L y = some v ∧ vlo = some v) (hlo0 : lo = none → vlo = none) (hhi : ∀ y, hi = some y → ∃ v, ev L y = some v ∧ vhi = some v) (hhi0 : hi = none → vhi = none) (hmx : ∀ y, mx = some y → ∃ v, ev L y = some v ∧ vmx = some v) (hmx0 : mx = none → vmx = none)
    (hb : ∀ w, (Instr.sliceBounds true len cap vlo vhi vmx).run P w = .ok (l, h, m) w) :
    Yields P W N (.slice t x lo hi mx) T L H (.slice (if m = l then a else a.map (·.add (l * k))) (h - l) (m - l)) := fun dst pos after guard ac w ha hs => by
  have e1 : lo.map ac.eval = vlo := by
    cases lo with
    | none => exact (hlo0 rfl).symm
    | some y => obtain ⟨v, h1, h2⟩ := hlo y rfl; rw [h2, Option.map_some, ha.eval h1]
  have e2 : hi.map ac.eval = vhi := by
    cases hi with
    | none => exact (hhi0 rfl).symm
    | some y => obtain ⟨v, h1, h2⟩ := hhi y rfl; rw [h2, Option.map_some, ha.eval h1]
  have e3 : mx.map ac.eval = vmx := by
    cases mx with
    | none => exact (hmx0 rfl).symm
    | some y => obtain ⟨v, h1, h2⟩ := hmx y rfl; rw [h2, Option.map_some, ha.eval h1]
  simp only [execOp, ha.eval hx]
  refine value_run ?_
  rw [show (Option.map ac.eval lo) = vlo from e1, show (Option.map ac.eval hi) = vhi from e2, show (Option.map ac.eval mx) = vmx from e3]
  simp [Instr.sliceAt, Instr.sureAddr, Instr.slice, run_underlying hu, hb, hz]

theorem bnd (kd : IntKind) (i y : Nat) (c : BoundsCode) (h : i ≤ y) (w : World) : (Instr.sliceBound (.int kd (i : Int)) y c).run P w = .ok i w := by
  simp [Instr.sliceBound, asIntOf, h]

/-- s[l:h:m], of a slice whose value is known. -/
theorem Y.slice3 {x y1 y2 y3 : Operand} {t e : TypeId} {k : Nat} {a : Option Addr} {len cap : Nat} {k1 k2 k3 : IntKind} {j1 j2 j3 : Int} (l h m : Nat) (hu : P.underlying t = some (.slice e)) (hz : ∀ w, (sizeOf e).run P w = .ok k w) (hx : ev L x = some (.slice a len cap))
    (h1 : ev L y1 = some (.int k1 j1)) (h2 : ev L y2 = some (.int k2 j2)) (h3 : ev L y3 = some (.int k3 j3)) (e1 : j1 = (l : Int)) (e2 : j2 = (h : Int)) (e3 : j3 = (m : Int)) (b1 : l ≤ h) (b2 : h ≤ m) (b3 : m ≤ cap) :
    Yields P W N (.slice t x (some y1) (some y2) (some y3)) T L H (.slice (if m = l then a else a.map (·.add (l * k))) (h - l) (m - l)) := by
  subst e1 e2 e3
  exact Y.sliceE hu hz hx (fun y e => by cases e; exact ⟨_, h1, rfl⟩) (fun e => by cases e) (fun y e => by cases e; exact ⟨_, h2, rfl⟩) (fun e => by cases e) (fun y e => by cases e; exact ⟨_, h3, rfl⟩) (fun e => by cases e)
    fun w => by simp [Instr.sliceBounds, bnd, b1, b2, b3]
/-- s[:h:m]. -/
theorem Y.slice03 {x y2 y3 : Operand} {t e : TypeId} {k : Nat} {a : Option Addr} {len cap : Nat} {k2 k3 : IntKind} {j2 j3 : Int} (h m : Nat) (hu : P.underlying t = some (.slice e)) (hz : ∀ w, (sizeOf e).run P w = .ok k w) (hx : ev L x = some (.slice a len cap))
    (h2 : ev L y2 = some (.int k2 j2)) (h3 : ev L y3 = some (.int k3 j3)) (e2 : j2 = (h : Int)) (e3 : j3 = (m : Int)) (b2 : h ≤ m) (b3 : m ≤ cap) :
    Yields P W N (.slice t x none (some y2) (some y3)) T L H (.slice a h m) := by
  subst e2 e3
  have := Y.sliceE (P := P) (W := W) (N := N) (T := T) (H := H) (lo := none) (hi := some y2) (mx := some y3) (vlo := none) (l := 0) (h := h) (m := m) hu hz hx (fun y e => by cases e) (fun _ => rfl) (fun y e => by cases e; exact ⟨_, h2, rfl⟩) (fun e => by cases e) (fun y e => by cases e; exact ⟨_, h3, rfl⟩) (fun e => by cases e)
    fun w => by simp [Instr.sliceBounds, bnd, b2, b3]
  have e : (if m = 0 then a else a.map (·.add (0 * k))) = a := by
    split
    · rfl
    · cases a with
      | none => rfl
      | some p => simp [Addr.add]
  rw [e] at this
  simpa using this
/-- s[l:h]. -/
theorem Y.sliceX {x y1 y2 : Operand} {t e : TypeId} {k : Nat} {a : Option Addr} {len cap : Nat} {k1 k2 : IntKind} {j1 j2 : Int} (l h : Nat) (hu : P.underlying t = some (.slice e)) (hz : ∀ w, (sizeOf e).run P w = .ok k w) (hx : ev L x = some (.slice a len cap))
    (h1 : ev L y1 = some (.int k1 j1)) (h2 : ev L y2 = some (.int k2 j2)) (e1 : j1 = (l : Int)) (e2 : j2 = (h : Int)) (b1 : l ≤ h) (b2 : h ≤ cap) :
    Yields P W N (.slice t x (some y1) (some y2) none) T L H (.slice (if cap = l then a else a.map (·.add (l * k))) (h - l) (cap - l)) := by
  subst e1 e2
  exact Y.sliceE hu hz hx (fun y e => by cases e; exact ⟨_, h1, rfl⟩) (fun e => by cases e) (fun y e => by cases e; exact ⟨_, h2, rfl⟩) (fun e => by cases e) (fun y e => by cases e) (fun _ => rfl)
    fun w => by simp [Instr.sliceBounds, bnd, b1, b2]
/-- s[:h]. -/
theorem Y.slice0X {x y2 : Operand} {t e : TypeId} {k : Nat} {a : Option Addr} {len cap : Nat} {k2 : IntKind} {j2 : Int} (h : Nat) (hu : P.underlying t = some (.slice e)) (hz : ∀ w, (sizeOf e).run P w = .ok k w) (hx : ev L x = some (.slice a len cap))
    (h2 : ev L y2 = some (.int k2 j2)) (e2 : j2 = (h : Int)) (b2 : h ≤ cap) :
    Yields P W N (.slice t x none (some y2) none) T L H (.slice a h cap) := by
  subst e2
  have := Y.sliceE (P := P) (W := W) (N := N) (T := T) (H := H) (lo := none) (hi := some y2) (mx := none) (vlo := none) (vmx := none) (l := 0) (h := h) (m := cap) hu hz hx (fun y e => by cases e) (fun _ => rfl) (fun y e => by cases e; exact ⟨_, h2, rfl⟩) (fun e => by cases e) (fun y e => by cases e) (fun _ => rfl)
    fun w => by simp [Instr.sliceBounds, bnd, b2]
  have e : (if cap = 0 then a else a.map (·.add (0 * k))) = a := by
    split
    · rfl
    · cases a with
      | none => rfl
      | some p => simp [Addr.add]
  rw [e] at this
  simpa using this
/-- s[l:]. -/
theorem Y.sliceX0 {x y1 : Operand} {t e : TypeId} {k : Nat} {a : Option Addr} {len cap : Nat} {k1 : IntKind} {j1 : Int} (l : Nat) (hu : P.underlying t = some (.slice e)) (hz : ∀ w, (sizeOf e).run P w = .ok k w) (hx : ev L x = some (.slice a len cap))
    (h1 : ev L y1 = some (.int k1 j1)) (e1 : j1 = (l : Int)) (b1 : l ≤ len) :
    Yields P W N (.slice t x (some y1) none none) T L H (.slice (if cap = l then a else a.map (·.add (l * k))) (len - l) (cap - l)) := by
  subst e1
  exact Y.sliceE hu hz hx (fun y e => by cases e; exact ⟨_, h1, rfl⟩) (fun e => by cases e) (fun y e => by cases e) (fun _ => rfl) (fun y e => by cases e) (fun _ => rfl)
    fun w => by simp [Instr.sliceBounds, bnd, b1]
theorem Y.capSlice {x : Operand} {t e : TypeId} {p : Option Addr} {n c : Nat} (hu : P.underlying t = some (.slice e)) (hx : ev L x = some (.slice p n c)) : Yields P W N (.call ⟨.builtin .cap, #[x], #[t]⟩) T L H (.int .i64 c) :=
  Y.builtin (vs := [.slice p n c]) (by simp [evs, hx]) fun w cs => by simp [Go.builtin, Builtin.cap_, run_underlying hu, goInt]

/-! ### closed up: append(s[:i], s[j:]...) -/

theorem run_append_room {enc : α → List Value} {k b cap : Nat} {t t2 e e2 ty : TypeId} {u : Value} {xs ys : List α} {sp : List Value} {R : HProp} {i : TypeInfo} {w : World}
    (hu : P.underlying t = some (.slice e)) (hu2 : P.underlying t2 = some (.slice e2)) (hi : ∀ w, (typeInfo e).run P w = .ok i w) (hk : i.size = k)
    (hs : Sat W w (sep (arr b 0 (rows enc xs ++ sp)) R)) (hxk : ∀ x ∈ xs, (enc x).length = k) (hsp : sp.length = (cap - xs.length) * k) (hrd : RdAt w enc k u ys) (hcap : xs.length + ys.length ≤ cap) (hone : ∀ y ∈ ys, ∀ c ∈ enc y, c.oneCell' = true) :
    ∃ w', (Builtin.append_ #[t, t2] ty #[.slice (some ⟨b, 0, none⟩) xs.length cap, u]).run P w = .ok (.slice (some ⟨b, 0, none⟩) (xs.length + ys.length) cap) w' ∧
      Sat W w' (sep (sl enc k (.slice (some ⟨b, 0, none⟩) (xs.length + ys.length) cap) (xs ++ ys)) R) := by
  have hysk := hrd.2.1
  have hsz : ∀ w, (sizeOf e).run P w = .ok k w := fun w => by simp [sizeOf, hi, hk]
  have hfu : (Builtin.firstCells k ys.length u).run P w = .ok (rows enc ys).toArray w := hrd.firstCells
  obtain ⟨⟨ua, ucap, hue, _⟩, _⟩ := hrd
  have hul : ∀ w', (Builtin.lenOf u).run P w' = .ok ys.length w' := fun w' => by rw [hue]; simp [Builtin.lenOf]
  have hkk : ∀ z ∈ xs ++ ys, (enc z).length = k := fun z hz => by
    rcases List.mem_append.1 hz with h | h
    · exact hxk z h
    · exact hysk z h
  have hsplen : ys.length * k ≤ sp.length := by
    rw [hsp]
    exact Nat.mul_le_mul_right _ (by omega)
  have hl : (rows enc ys).length = ys.length * k := rows_length hysk
  have hlx : (rows enc xs).length = xs.length * k := rows_length hxk
  have hone' : ∀ c ∈ rows enc ys, c.oneCell' = true := fun c hc => by
    obtain ⟨y, hy, hc⟩ := List.mem_flatMap.1 hc
    exact hone y hy c hc
  obtain ⟨w', h1, h2⟩ := run_storeCells (P := P) (rows enc ys) (rows enc xs ++ sp) (xs.length * k) 0 w hs hone' (by rw [List.length_append]; omega)
  refine ⟨w', ?_, ?_⟩
  · simp only [Nat.zero_add] at h1
    simp [Builtin.append_, run_underlying hu, run_underlying hu2, hsz, hul, hfu, hcap, addr_add, h1]
  · have e3 : setFrom (rows enc xs ++ sp) (xs.length * k + 0) (rows enc ys) = rows enc (xs ++ ys) ++ sp.drop (ys.length * k) := by
      rw [Nat.add_zero, ← hlx, setFrom_mid (by omega), rows_append, hl]
    rw [e3] at h2
    have := Sat.mk_sl (b := b) (cap := cap) (xs := xs ++ ys) (by simpa using hcap) hkk (by
      rw [List.length_drop, hsp, List.length_append, ← Nat.sub_mul]
      congr 1; omega) h2
    simpa using this

theorem Does.appendDel {enc : α → List Value} {k b cap i j : Nat} {x y : Operand} {t t2 e e2 ty : TypeId} {pos : String} {after : Array Edge} {guard : Option (Nat × Bool)} {d : Nat} {xs : List α} {R : List HProp} {ti : TypeInfo} (hN : Nat.blt d N = true)
    (hu : P.underlying t = some (.slice e)) (hu2 : P.underlying t2 = some (.slice e2)) (hi : ∀ w, (typeInfo e).run P w = .ok ti w) (hk : ti.size = k)
    (hx : ev L x = some (.slice (some ⟨b, 0, none⟩) i cap)) (hy : ev L y = some (.slice (if cap = j then some ⟨b, 0, none⟩ else (some (⟨b, 0, none⟩ : Addr)).map (·.add (j * k))) (xs.length - j) (cap - j)))
    (ht : Take H (sl enc k (.slice (some ⟨b, 0, none⟩) xs.length cap) xs) R) (hij : i ≤ j) (hj : j ≤ xs.length) (hone : ∀ y ∈ xs, ∀ c ∈ enc y, c.oneCell' = true) (h0 : xs ≠ []) :
    Does P W N ⟨some d, .call ⟨.builtin .append, #[x, y], #[t, t2]⟩, ty, pos, after, guard⟩ L H (fun L1 H1 => L1 = (d, some (.slice (some ⟨b, 0, none⟩) (i + (xs.length - j)) cap)) :: L ∧ H1 = sl enc k (.slice (some ⟨b, 0, none⟩) (i + (xs.length - j)) cap) (xs.take i ++ xs.drop j) :: R) := fun a w ha hs Kp hK => by
  rw [ht.seps] at hs
  have hrd : RdAt w enc k (cut k j xs.length (.slice (some ⟨b, 0, none⟩) xs.length cap)) ((xs.take xs.length).drop j) := (Rd.sl (W := W) (H := [sl enc k (.slice (some ⟨b, 0, none⟩) xs.length cap) xs, seps R]) .here w (by simp only [seps, sep_emp]; exact hs)).cut hj (Nat.le_refl _)
  rw [List.take_length] at hrd
  rcases hs.of_sl with ⟨_, hx0, _⟩ | ⟨b', cap', sp, hv, hle, hkk, hsp, hs1⟩
  · exact absurd hx0 h0
  · cases hv
    have hti : (xs.take i).length = i := by rw [List.length_take]; omega
    have hdj : (xs.drop j).length = xs.length - j := List.length_drop
    have e9 : rows enc xs ++ sp = rows enc (xs.take i) ++ (rows enc (xs.drop i) ++ sp) := by
      rw [← List.append_assoc, ← rows_append, List.take_append_drop]
    rw [e9] at hs1
    obtain ⟨w', h1, h2⟩ := run_append_room (P := P) (ty := ty) (cap := cap) hu hu2 hi hk hs1 (fun x hx => hkk x (List.mem_of_mem_take hx)) (by
      rw [List.length_append, hsp, rows_length (fun x hx => hkk x (List.mem_of_mem_drop hx)), List.length_drop, hti, ← Nat.add_mul]; congr 1; omega) hrd (by rw [hti, hdj]; omega) (fun y hy => hone y (List.mem_of_mem_drop hy))
    rw [hti, hdj] at h1 h2
    have hrun : (execOp a.eval ⟨some d, .call ⟨.builtin .append, #[x, y], #[t, t2]⟩, ty, pos, after, guard⟩).run P w = .ok (.value (.slice (some ⟨b, 0, none⟩) (i + (xs.length - j)) cap)) w' := by
      have e8 : a.eval y = cut k j xs.length (.slice (some ⟨b, 0, none⟩) xs.length cap) := (ha.eval hy).trans rfl
      simp [execOp, resolve, invoke, builtin, ha.eval hx, e8, h1]
    unfold Oper.wp
    rw [hrun]
    simp only [Oper.upon]
    exact hK _ _ ⟨rfl, rfl⟩ _ _ (ha.put (Nat.blt_eq.mp hN) _) h2

/-- What lies behind a slice's end is cleared. -/
theorem Does.clearSp {enc : α → List Value} {k b cap n m : Nat} {x : Operand} {t e ty : TypeId} {pos : String} {after : Array Edge} {guard : Option (Nat × Bool)} {xs : List α} {R : List HProp} {z : Value} {zc : List Value}
    (hu : P.underlying t = some (.slice e)) (hz : ∀ w, (zeroValue e).run P w = .ok z w) (hzc : z.cells = zc.toArray) (hzl : zc.length = k) (hone : zc.all (·.oneCell') = true)
    (hx : ev L x = some (.slice (if cap = n then some ⟨b, 0, none⟩ else (some (⟨b, 0, none⟩ : Addr)).map (·.add (n * k))) m (cap - n))) (hn : n = xs.length) (hm : n + m ≤ cap)
    (ht : Take H (sl enc k (.slice (some ⟨b, 0, none⟩) n cap) xs) R) :
    Does P W N ⟨none, .call ⟨.builtin .clear, #[x], #[t]⟩, ty, pos, after, guard⟩ L H (fun L1 H1 => L1 = L ∧ H1 = sl enc k (.slice (some ⟨b, 0, none⟩) n cap) xs :: R) := fun a w ha hs Kp hK => by
  rw [ht.seps] at hs
  subst hn
  by_cases hm0 : m = 0
  · subst hm0
    have hrun : (execOp a.eval ⟨none, .call ⟨.builtin .clear, #[x], #[t]⟩, ty, pos, after, guard⟩).run P w = .ok (.value (.tuple #[])) w := by
      split at hx <;> simp [execOp, resolve, invoke, builtin, ha.eval hx, Builtin.clear_, run_underlying hu, addr_add]
    unfold Oper.wp
    rw [hrun]
    simp only [Oper.upon]
    exact hK _ _ ⟨rfl, rfl⟩ _ _ ⟨ha.size, ha.get, ha.defers⟩ hs
  · rw [if_neg (by omega)] at hx
    rcases hs.of_sl with ⟨⟨va, hv0⟩, hx0, _⟩ | ⟨b', cap', sp, hv, hle, hkk, hsp, hs1⟩
    · simp only [Value.slice.injEq] at hv0; omega
    · cases hv
      have hlx : (rows enc xs).length = xs.length * k := rows_length hkk
      have hzl' : (Builtin.zeroCells zc.toArray m).toList.length = m * k := by rw [Array.length_toList, size_zeroC]; simp [hzl]
      have hone' : ∀ c ∈ (Builtin.zeroCells zc.toArray m).toList, c.oneCell' = true := fun c hc => by
        simp only [Builtin.zeroCells, Array.toList_map, List.mem_map] at hc
        obtain ⟨i, hi, rfl⟩ := hc
        have hk0 : 0 < zc.length := by
          rcases Nat.eq_zero_or_pos zc.length with h | h
          · simp [h] at hi
          · exact h
        have hlt : i % zc.length < zc.length := Nat.mod_lt _ hk0
        simp only [List.size_toArray]
        rw [getElem!_pos _ _ (by simpa using hlt)]
        exact List.all_eq_true.1 hone _ (by simp)
      have hmk : m * k ≤ sp.length := by rw [hsp]; exact Nat.mul_le_mul_right _ (by omega)
      obtain ⟨w', h1, h2⟩ := run_storeCells (P := P) (Builtin.zeroCells zc.toArray m).toList (rows enc xs ++ sp) (xs.length * k) 0 w hs1 hone' (by rw [List.length_append, hzl']; omega)
      have hrun : (execOp a.eval ⟨none, .call ⟨.builtin .clear, #[x], #[t]⟩, ty, pos, after, guard⟩).run P w = .ok (.value (.tuple #[])) w' := by
        simp only [Nat.zero_add] at h1
        simp only [Option.map_some, addr_add, Nat.zero_add] at hx
        have hz' : ∀ w, (zeroValue e).run P w = .ok z w := hz
        cases m with
        | zero => exact absurd rfl hm0
        | succ m => simp [execOp, resolve, invoke, builtin, ha.eval hx, Builtin.clear_, run_underlying hu, hz', hzc, h1]
      unfold Oper.wp
      rw [hrun]
      simp only [Oper.upon]
      refine hK _ _ ⟨rfl, rfl⟩ _ _ ⟨ha.size, ha.get, ha.defers⟩ ?_
      have e3 : setFrom (rows enc xs ++ sp) (xs.length * k + 0) (Builtin.zeroCells zc.toArray m).toList = rows enc xs ++ ((Builtin.zeroCells zc.toArray m).toList ++ sp.drop (m * k)) := by
        rw [Nat.add_zero, ← hlx, setFrom_mid (by omega), hzl', List.append_assoc]
      rw [e3] at h2
      exact Sat.mk_sl (b := b) (cap := cap) (xs := xs) hle hkk (by rw [List.length_append, hzl', List.length_drop, hsp]; omega) h2

/-! ### a slice's value -/
def isNilS : Value → Bool
  | .slice none _ _ => true
  | _ => false
theorem Y.eqSlN {enc : α → List Value} {k : Nat} {xT e yT : TypeId} {x y : Operand} {v : Value} {xs : List α} {n' c' : Nat} (hu : P.underlying xT = some (.slice e)) (hx : ev L x = some v) (hy : ev L y = some (.slice none n' c')) (h : Rd W H enc k v xs) : Yields P W N (.binOp .eql xT x y yT) T L H (.bool (isNilS v)) :=
  Y.know (fun w s => (h w s).1) fun ⟨a, cap, hv, _⟩ => by
    subst hv
    have := Y.eqSliceNil (P := P) (W := W) (N := N) (H := H) (T := T) (yT := yT) hu hx hy
    cases a <;> exact this
theorem Rd.nilS {enc : α → List Value} {k : Nat} {v : Value} {xs : List α} (h : Rd W H enc k v xs) (hn : isNilS v = true) : ∀ w, Sat W w (seps H) → v = .slice none 0 0 ∨ xs = [] := fun w s => by
  obtain ⟨⟨a, cap, hv, _, _, hnn⟩, _⟩ := h w s
  subst hv
  cases a with
  | none => exact .inr (hnn rfl)
  | some p => cases hn
def clipV : Value → Value
  | .slice a n _ => .slice a n n
  | v => v
theorem Sat.clip {w : World} {enc : α → List Value} {k : Nat} {v : Value} {xs : List α} {R : HProp} (s : Sat W w (sep (sl enc k v xs) R)) : Sat W w (sep (sl enc k (clipV v) xs) R) := by
  rcases s.of_sl with ⟨⟨a, rfl⟩, rfl, s'⟩ | ⟨b, cap, sp, rfl, hle, hk, hsp, s⟩
  · exact s'.sl_void
  · refine Sat.mk_sl (sp := []) (Nat.le_refl _) hk (by simp) ?_
    rw [List.append_nil]
    rw [arr_append, sep_assoc, sep_left_comm] at s
    exact s.right
end
end Go.SLYtkflpgknieoknaa
