/- More rules: fresh blocks of every kind, bits, slices that grow by zeros. Conditions: none, this text proves no statement. -/
import Derived.Test.YtkflpgknieoknaaSLm
namespace Go.SLYtkflpgknieoknaa
open Go Go.RowKit

section
variable {P : Program} {W : World} {N : Nat} {Q : Exit → Act → World → Prop} {O : Array Oper} {L : List (Nat × Option Value)} {H K R : List HProp} {T : TypeId} {α : Type}

theorem Take.app {A : HProp} (E : HProp) (t : Take H A R) : Take (H ++ [E]) A (R ++ [E]) := by
  induction t with
  | here => exact .here
  | there _ ih => exact .there ih
theorem Ent.app {H R As : List HProp} (E : HProp) (t : Ent H As R) : Ent (H ++ [E]) As (R ++ [E]) := by
  induction t with
  | nil => exact .nil
  | cons h _ ih => exact .cons (h.app E) ih
  | conv c _ ih => exact .conv c ih
  | grp _ _ i1 i2 => exact .grp i1 i2
  | f1 e x1 _ _ hp i1 i2 => exact .f1 e x1 i1 i2 hp
  | f2 e x1 x2 _ _ hp i1 i2 => exact .f2 e x1 x2 i1 i2 hp
  | f3 e x1 x2 x3 _ _ hp i1 i2 => exact .f3 e x1 x2 x3 i1 i2 hp
  | f4 e x1 x2 x3 x4 _ _ hp i1 i2 => exact .f4 e x1 x2 x3 x4 i1 i2 hp
  | f5 e x1 x2 x3 x4 x5 _ _ hp i1 i2 => exact .f5 e x1 x2 x3 x4 x5 i1 i2 hp
  | f6 e x1 x2 x3 x4 x5 x6 _ _ hp i1 i2 => exact .f6 e x1 x2 x3 x4 x5 x6 i1 i2 hp
  | f7 e x1 x2 x3 x4 x5 x6 x7 _ _ hp i1 i2 => exact .f7 e x1 x2 x3 x4 x5 x6 x7 i1 i2 hp
  | f8 e x1 x2 x3 x4 x5 x6 x7 x8 _ _ hp i1 i2 => exact .f8 e x1 x2 x3 x4 x5 x6 x7 x8 i1 i2 hp
  | f9 e x1 x2 x3 x4 x5 x6 x7 x8 x9 _ _ hp i1 i2 => exact .f9 e x1 x2 x3 x4 x5 x6 x7 x8 x9 i1 i2 hp
  | f10 e x1 x2 x3 x4 x5 x6 x7 x8 x9 x10 _ _ hp i1 i2 => exact .f10 e x1 x2 x3 x4 x5 x6 x7 x8 x9 x10 i1 i2 hp
  | f11 e x1 x2 x3 x4 x5 x6 x7 x8 x9 x10 x11 _ _ hp i1 i2 => exact .f11 e x1 x2 x3 x4 x5 x6 x7 x8 x9 x10 x11 i1 i2 hp
  | f12 e x1 x2 x3 x4 x5 x6 x7 x8 x9 x10 x11 x12 _ _ hp i1 i2 => exact .f12 e x1 x2 x3 x4 x5 x6 x7 x8 x9 x10 x11 x12 i1 i2 hp

theorem GoF.callE {ks rest : List Nat} {i : Nat} {f : FuncId} {xs : Array Operand} {ts : Array TypeId} {T : TypeId} {pos : String} {after : Array Edge} {d : Nat} {args : List Value} {pre R : List HProp} {X : Type} {val : X → Value} {fact : X → Prop} {post : X → List HProp}
    (ho : O[i]? = some ⟨some d, .call ⟨.value (.func f), xs, ts⟩, T, pos, after, none⟩) (hk : ks.getD i 1 = 2 ∨ ks.getD i 1 = 3) (hN : Nat.blt d N = true) (hK : ks.getD i 1 = 2 → ∀ w, Sat W w (seps H) → Sat W w (seps K))
    (hc : ∀ args w, (callFunc f args).run P w = .ok (.enter f args) w) (hx : evs L xs.toList = some args) (hfn : Fn P W f args pre X val fact post) (ht : Ent H pre R) (hK' : ks.getD i 1 = 2 → ∀ x, ∀ w, Sat W w (seps (post x ++ R)) → Sat W w (seps K))
    (h : ∀ x, fact x → GoF P W N K O Q ks rest ((d, some (val x)) :: L) (post x ++ R)) : GoF P W N K O Q ks (i :: rest) L H := by
  have key : ∀ E a w, asn W N L H E a w → Oper.wp P ⟨some d, .call ⟨.value (.func f), xs, ts⟩, T, pos, after, none⟩ a w (fun a' w' => (ks.getD i 1 = 2 → Sat W w' (seps K)) ∧ ∃ x : { x : X // fact x }, asn W N ((d, some (val x.1)) :: L) (post x.1 ++ R) E a' w') QF := fun E a w hs => by
    obtain ⟨ha, hs⟩ := asn_app.1 hs
    refine Does.callE (guard := none) hN hc hx hfn (ht.app E) a w ha hs _ ?_
    rintro L' H' ⟨x, hx, rfl, rfl⟩ a' w' ha' hs'
    rw [← List.append_assoc] at hs'
    have h2 : asn W N ((d, some (val x)) :: L) (post x ++ R) E a' w' := asn_app.2 ⟨ha', hs'⟩
    exact ⟨fun e => hK' e x w' h2.2.left, ⟨x, hx⟩, h2⟩
  unfold GoF
  rcases hk with hk | hk
  · simp only [wpF, ho, hk]
    refine ⟨{ x : X // fact x }, fun x => asn W N ((d, some (val x.1)) :: L) (post x.1 ++ R), fun x => asn_grows, fun E a w hs => ⟨fun _ => hK hk w hs.2.left, ?_⟩, fun x => h x.1 x.2⟩
    rw [if_pos (wanted_none rfl)]
    exact Oper.wp_mono (fun a w ⟨h1, h2⟩ => ⟨fun _ => h1 hk, h2⟩) (key E a w hs)
  · simp only [wpF, ho, hk]
    refine ⟨{ x : X // fact x }, fun x => asn W N ((d, some (val x.1)) :: L) (post x.1 ++ R), fun x => asn_grows, fun E a w hs => ⟨fun e => (by cases e), ?_⟩, fun x => h x.1 x.2⟩
    rw [if_pos (wanted_none rfl)]
    exact Oper.wp_mono (fun a w ⟨h1, h2⟩ => ⟨fun e => (by cases e), h2⟩) (key E a w hs)

/-- Any effect that minds its own: it is shown beside whatever frame. -/
theorem GoF.d {ks rest : List Nat} {i : Nat} {o : Oper} {X : Type} {Lx : X → List (Nat × Option Value)} {Hx : X → List HProp} (ho : O[i]? = some o) (hg : o.guard = none) (hk : ks.getD i 1 = 2 ∨ ks.getD i 1 = 3) (hK : ks.getD i 1 = 2 → ∀ w, Sat W w (seps H) → Sat W w (seps K))
    (hd : ∀ E, Does P W N o L (H ++ [E]) (fun L1 H1 => ∃ x, L1 = Lx x ∧ H1 = Hx x ++ [E])) (hK' : ks.getD i 1 = 2 → ∀ x, ∀ w, Sat W w (seps (Hx x)) → Sat W w (seps K)) (h : ∀ x, GoF P W N K O Q ks rest (Lx x) (Hx x)) : GoF P W N K O Q ks (i :: rest) L H := by
  have key : ∀ E a w, asn W N L H E a w → Oper.wp P o a w (fun a' w' => (ks.getD i 1 = 2 → Sat W w' (seps K)) ∧ ∃ x : X, asn W N (Lx x) (Hx x) E a' w') QF := fun E a w hs => by
    obtain ⟨ha, hs⟩ := asn_app.1 hs
    refine hd E a w ha hs _ ?_
    rintro L' H' ⟨x, rfl, rfl⟩ a' w' ha' hs'
    have h2 : asn W N (Lx x) (Hx x) E a' w' := asn_app.2 ⟨ha', hs'⟩
    exact ⟨fun e => hK' e x w' h2.2.left, x, h2⟩
  unfold GoF
  rcases hk with hk | hk
  · simp only [wpF, ho, hk]
    refine ⟨X, fun x => asn W N (Lx x) (Hx x), fun x => asn_grows, fun E a w hs => ⟨fun _ => hK hk w hs.2.left, ?_⟩, h⟩
    rw [if_pos (wanted_none hg)]
    exact Oper.wp_mono (fun a w ⟨h1, h2⟩ => ⟨fun _ => h1 hk, h2⟩) (key E a w hs)
  · simp only [wpF, ho, hk]
    refine ⟨X, fun x => asn W N (Lx x) (Hx x), fun x => asn_grows, fun E a w hs => ⟨fun e => (by cases e), ?_⟩, h⟩
    rw [if_pos (wanted_none hg)]
    exact Oper.wp_mono (fun a w ⟨h1, h2⟩ => ⟨fun e => (by cases e), h2⟩) (key E a w hs)

theorem run_makeSl {enc : α → List Value} {k : Nat} (z0 : α) {t e : TypeId} {kd kd' : IntKind} {i : TypeInfo} {z : Value} {n : Nat} (hu : P.underlying t = some (.slice e)) (hi : ∀ w, (typeInfo e).run P w = .ok i w) (hz : i.zero = some z) (hk : i.size = k) (hzc : z.cells = (enc z0).toArray) (hkl : (enc z0).length = k) (hk0 : 0 < k) (hb : 1 ≤ i.bytes ∧ i.bytes ≤ 4096)
    (hn : n ≤ 1073741824) (w : World) : (Instr.makeSlice t (.int kd (n : Int)) (.int kd' (n : Int))).run P w = .ok (.slice (some ⟨w.heap.size, 0, none⟩) n n) (w.alloc (.cells (rows enc (List.replicate n z0)).toArray e)) := by
  have hz0 : ∀ w, (zeroValue e).run P w = .ok z w := fun w => by simp [zeroValue, hi, hz]
  have hsz : ∀ w, (sizeOf e).run P w = .ok k w := fun w => by simp [sizeOf, hi, hk]
  have hwr : IntKind.i64.wrap (n : Int) = (n : Int) := wrap_i64 (by omega)
  have hwr0 : IntKind.i64.wrap 0 = 0 := wrap_i64 (by omega)
  have hbig2 : ¬ (281474976710656 < (i.bytes : Int) * (n : Int)) := by
    have h1 : i.bytes * n ≤ 4096 * 1073741824 := Nat.mul_le_mul hb.2 hn
    have h3 : ((i.bytes * n : Nat) : Int) = i.bytes * (n : Int) := by simp
    omega
  have hroom : ∀ m w', (askRoom m).run P w' = .ok () w' := fun m w' => by
    unfold askRoom
    split <;> rfl
  have e4 : ∀ cs : Array Value, (newRow e cs).run P w = .ok ⟨w.heap.size, 0, none⟩ (w.alloc (.cells cs e)) := fun _ => rfl
  have hnews : (rows enc (List.replicate n z0)).toArray = (Array.range (n * k)).map ((enc z0).toArray[· % (enc z0).toArray.size]!) := by
    rw [← zeroRows hkl hk0 n, Array.toArray_toList]
  by_cases h0 : n = 0
  · subst h0
    simp [Instr.makeSlice, run_underlying hu, asInt, asIntOf, hi, hwr0, hroom, hsz, e4]
    rw [show (Array.range 0).map (fun _ => (default : Value)) = #[] from by simp]
    simp [rows]
  · have hnk : ¬ (n * k = 0) := by
      intro h; rcases Nat.mul_eq_zero.1 h with h | h <;> omega
    have h3 : ¬ ((n : Int) < 0) := by omega
    have hk00 : ¬ (k = 0) := by omega
    simp [Instr.makeSlice, run_underlying hu, asInt, asIntOf, hi, hwr, hroom, hsz, hz0, hzc, e4, hbig2, h3, h0, hk00, hnews]
    intro h; exact absurd h hnk

theorem fresh_make {enc : α → List Value} {k : Nat} (z0 : α) {x y : Operand} {t e T : TypeId} {kd kd' : IntKind} {i : TypeInfo} {z : Value} {m m' : Int} (n : Nat) {pos : String} {after : Array Edge} {d : Nat}
    (hu : P.underlying t = some (.slice e)) (hi : ∀ w, (typeInfo e).run P w = .ok i w) (hz : i.zero = some z) (hk : i.size = k) (hzc : z.cells = (enc z0).toArray) (hkl : (enc z0).length = k) (hk0 : 0 < k) (hb : 1 ≤ i.bytes ∧ i.bytes ≤ 4096)
    (hx : ev L x = some (.int kd m)) (hy : ev L y = some (.int kd' m')) (hm : m = (n : Int)) (hm' : m' = (n : Int)) (hn : n ≤ 1073741824) :
    ∀ a, Env N L a → FreshAt P O ⟨some d, .makeSlice t x y, T, pos, after, none⟩ a (fun b => .slice (some ⟨b, 0, none⟩) n n) (rows enc (List.replicate n z0)) e := fun a ha => ⟨wanted_none rfl, fun w => by
  subst hm hm'
  simp [execOp, ha.eval hx, ha.eval hy, run_makeSl (P := P) (kd := kd) (kd' := kd') z0 hu hi hz hk hzc hkl hk0 hb hn w]⟩
theorem fresh_bsl {t T : TypeId} {n : Nat} {ps : Array (Nat × Operand)} {pos : String} {after : Array Edge} {d : Nat} {vs : List (Nat × Value)} (e : TypeId) (hp : evParts L ps.toList = some vs) (h : builtS P t n vs = some (e, (vs.flatMap fun p => p.2.cells.toList).toArray)) :
    ∀ a, Env N L a → FreshAt P O ⟨some d, .buildSlice t n ps, T, pos, after, none⟩ a (fun b => .slice (some ⟨b, 0, none⟩) n n) (vs.flatMap fun p => p.2.cells.toList) e := fun a ha => ⟨wanted_none rfl, fun w => by
  have e' : ps.map (fun p => (p.1, a.eval p.2)) = vs.toArray := by rw [← evParts_map ha hp, ← List.map_toArray]
  simp only [execOp]
  show (Instr.buildSlice t n (ps.map fun p => (p.1, a.eval p.2)) >>= fun x => pure (Next.value x)).run P w = _
  rw [e', Sem.run_bind, run_buildS w h]
  rfl⟩
/-- The block that a slice was made in is the slice. -/
theorem arr_slH {enc : α → List Value} {k b n : Nat} (xs : List α) {cs : List Value} (hn : xs.length = n) (hk : ∀ x ∈ xs, (enc x).length = k) (hc : cs = rows enc xs) : ∀ h, seps [arr b 0 cs] h → sl enc k (.slice (some ⟨b, 0, none⟩) n n) xs h := fun h a => by
  subst hn hc
  simp only [seps, sep_emp] at a
  exact .inr ⟨b, xs.length, [], rfl, Nat.le_refl _, hk, by simp, by rw [List.append_nil]; exact a⟩
theorem arr_slR {enc : α → List Value} {k b n : Nat} {z0 : α} (hk : (enc z0).length = k) : ∀ h, seps [arr b 0 (rows enc (List.replicate n z0))] h → sl enc k (.slice (some ⟨b, 0, none⟩) n n) (List.replicate n z0) h :=
  arr_slH _ (by simp) (fun x hx => by rw [List.eq_of_mem_replicate hx]; exact hk) rfl

/-- A number's value, written otherwise. -/
theorem Y.valW {op : Op} {k : IntKind} {m n : Int} (h : Yields P W N op T L H (.int k m)) (e : m = n) : Yields P W N op T L H (.int k n) := e ▸ h
theorem Rd.shape {enc : α → List Value} {k : Nat} {v : Value} {xs : List α} (h : Rd W H enc k v xs) : ∀ w, Sat W w (seps H) → ∃ a cap, v = .slice a xs.length cap := fun w s => by
  obtain ⟨⟨a, cap, hv, _⟩, _⟩ := h w s
  exact ⟨a, cap, hv⟩

/-- s[l:], from a block's beginning, into its middle. -/
theorem Y.sliceFrm {x y1 : Operand} {t e : TypeId} {k b len cap : Nat} {k1 : IntKind} {j1 : Int} (l : Nat) (hu : P.underlying t = some (.slice e)) (hz : ∀ w, (sizeOf e).run P w = .ok k w) (hx : ev L x = some (.slice (some ⟨b, 0, none⟩) len cap))
    (h1 : ev L y1 = some (.int k1 j1)) (e1 : j1 = (l : Int)) (b1 : l ≤ len) (b2 : l < cap) : Yields P W N (.slice t x (some y1) none none) T L H (.slice (some ⟨b, l * k, none⟩) (len - l) (cap - l)) := by
  have := Y.sliceX0 (P := P) (W := W) (N := N) (T := T) (H := H) l hu hz hx h1 e1 b1
  rw [if_neg (by omega), Option.map_some, addr_add, Nat.zero_add] at this
  exact this
theorem Rd.pre {enc : α → List Value} {k b j len cap : Nat} {xs : List α} (h : Rd W H enc k (.slice (some ⟨b, 0, none⟩) len cap) xs) (hj : j ≤ xs.length) : Rd W H enc k (.slice (some ⟨b, 0, none⟩) j cap) (xs.take j) := by
  have := h.cut (lo := 0) (hi := j) (Nat.zero_le _) hj
  rw [List.drop_zero] at this
  have e : SLYtkflpgknieoknaa.cut k 0 j (.slice (some ⟨b, 0, none⟩) len cap) = .slice (some ⟨b, 0, none⟩) j cap := by
    simp only [SLYtkflpgknieoknaa.cut]
    split <;> simp [Addr.add]
  rwa [e] at this

/-! ### bits -/
def bAnd (k : IntKind) (a b : Int) : Int := k.wrap (BitVec.ofInt k.bits a &&& BitVec.ofInt k.bits b).toNat
def bOr (k : IntKind) (a b : Int) : Int := k.wrap (BitVec.ofInt k.bits a ||| BitVec.ofInt k.bits b).toNat
def bXor (k : IntKind) (a b : Int) : Int := k.wrap (BitVec.ofInt k.bits a ^^^ BitVec.ofInt k.bits b).toNat
def bShl (k : IntKind) (a b : Int) : Int := k.wrap (a * 2 ^ (min b.toNat k.bits))
def bShr (k : IntKind) (a b : Int) : Int := a.fdiv (2 ^ (min b.toNat k.bits))
theorem Y.andB {k : IntKind} {xT yT : TypeId} {x y : Operand} {m n : Int} (hx : ev L x = some (.int k m)) (hy : ev L y = some (.int k n)) : Yields P W N (.binOp .and xT x y yT) T L H (.int k (bAnd k m n)) :=
  Y.bin hx hy fun w => by simp [eqGuard, binOp, Op.intBits, bAnd]
theorem Y.orB {k : IntKind} {xT yT : TypeId} {x y : Operand} {m n : Int} (hx : ev L x = some (.int k m)) (hy : ev L y = some (.int k n)) : Yields P W N (.binOp .or xT x y yT) T L H (.int k (bOr k m n)) :=
  Y.bin hx hy fun w => by simp [eqGuard, binOp, Op.intBits, bOr]
theorem Y.xorB {k : IntKind} {xT yT : TypeId} {x y : Operand} {m n : Int} (hx : ev L x = some (.int k m)) (hy : ev L y = some (.int k n)) : Yields P W N (.binOp .xor xT x y yT) T L H (.int k (bXor k m n)) :=
  Y.bin hx hy fun w => by simp [eqGuard, binOp, Op.intBits, bXor]
theorem Y.shlB {k k' : IntKind} {xT yT : TypeId} {x y : Operand} {m n : Int} (hx : ev L x = some (.int k m)) (hy : ev L y = some (.int k' n)) (hn : 0 ≤ n) : Yields P W N (.binOp .shl xT x y yT) T L H (.int k (bShl k m n)) :=
  Y.bin hx hy fun w => by simp [eqGuard, binOp, Op.shift, bShl, show ¬ (n < 0) from by omega]
theorem Y.shrB {k k' : IntKind} {xT yT : TypeId} {x y : Operand} {m n : Int} (hx : ev L x = some (.int k m)) (hy : ev L y = some (.int k' n)) (hn : 0 ≤ n) : Yields P W N (.binOp .shr xT x y yT) T L H (.int k (bShr k m n)) :=
  Y.bin hx hy fun w => by simp [eqGuard, binOp, Op.shift, bShr, show ¬ (n < 0) from by omega]
theorem bAnd_mask {a : Int} (h : 0 ≤ a ∧ a < 4294967296) : bAnd .u64 a 4294967295 = a := by
  obtain ⟨n, rfl⟩ : ∃ n : Nat, a = n := ⟨a.toNat, by omega⟩
  unfold bAnd
  have e : (BitVec.ofInt IntKind.u64.bits (n : Int) &&& BitVec.ofInt IntKind.u64.bits 4294967295).toNat = n := by
    rw [BitVec.toNat_and]
    have h1 : (BitVec.ofInt IntKind.u64.bits (n : Int)).toNat = n := by
      show (BitVec.ofInt 64 (n : Int)).toNat = n
      rw [BitVec.toNat_ofInt]
      omega
    have h2 : (BitVec.ofInt IntKind.u64.bits 4294967295).toNat = 2 ^ 32 - 1 := by decide
    rw [h1, h2, Nat.and_two_pow_sub_one_eq_mod]
    omega
  rw [e]
  exact wrap_u64 (by omega)
theorem bShr_small {a : Int} (h : 0 ≤ a ∧ a < 4294967296) : bShr .u64 a 32 = 0 := by
  show a.fdiv (2 ^ (min (32 : Int).toNat 64)) = 0
  rw [show (2 : Int) ^ (min (32 : Int).toNat 64) = 4294967296 from by decide, Int.fdiv_eq_ediv_of_nonneg _ (by omega)]
  omega

/-! ### a nil slice grows by zeros -/
theorem run_appendMake {enc : α → List Value} {k : Nat} (z0 : α) {t t2 e ty : TypeId} {kd k2 : IntKind} {i : TypeInfo} {z : Value} {n : Nat} {R : HProp} {w : World} (hu : P.underlying t = some (.slice e)) (hu2 : P.underlying t2 = some (.int k2)) (hi : ∀ w, (typeInfo e).run P w = .ok i w) (hz : i.zero = some z) (hk : i.size = k) (hzc : z.cells = (enc z0).toArray) (hkl : (enc z0).length = k) (hk0 : 0 < k) (hb : 1 ≤ i.bytes ∧ i.bytes ≤ 4096)
    (hn : 0 < n ∧ n ≤ 1000000000) (hs : Sat W w R) : ∃ b c w', (Builtin.append_ #[t, t2] ty #[.slice none 0 0, .int kd (n : Int)]).run P w = .ok (.slice (some ⟨b, 0, none⟩) n c) w' ∧ n ≤ c ∧ Sat W w' (sep (sl enc k (.slice (some ⟨b, 0, none⟩) n c) (List.replicate n z0)) R) := by
  have hz0 : ∀ w, (zeroValue e).run P w = .ok z w := fun w => by simp [zeroValue, hi, hz]
  have hsz : ∀ w, (sizeOf e).run P w = .ok k w := fun w => by simp [sizeOf, hi, hk]
  have hwr : IntKind.i64.wrap (n : Int) = (n : Int) := wrap_i64 (by omega)
  have hzs : z.cells.size = k := by rw [hzc]; simpa using hkl
  have hbn : i.bytes * n ≤ 4096 * 1000000000 := Nat.mul_le_mul hb.2 hn.2
  have hbig1 : ¬ (281474976710656 < (n : Int) * (i.bytes : Int)) := by
    have h3 : ((i.bytes * n : Nat) : Int) = (n : Int) * i.bytes := by rw [Int.natCast_mul, Int.mul_comm]
    omega
  have hnc := nextcap_le (need := n) (old := 0) (by omega)
  have hbig : ¬ (Builtin.nextslicecap n 0 * i.bytes > 2 ^ 48) := by
    have h1 : Builtin.nextslicecap n 0 * i.bytes ≤ (1000000000 + 768) * 16 * 4096 :=
      Nat.mul_le_mul (Nat.le_trans hnc (Nat.mul_le_mul_right _ (by omega))) hb.2
    have h2 : (2 : Nat) ^ 48 = 281474976710656 := by decide
    rw [h2]
    omega
  have hq : (Question.appendCap n 0 e).forced = false := rfl
  let nc := (Question.appendCap n 0 e).cut (w.tape w.drawn (Question.appendCap n 0 e))
  have hnc1 : n ≤ nc := Nat.le_add_right _ _
  have hroom : ∀ m w', (askRoom m).run P w' = .ok () w' := fun m w' => by
    unfold askRoom
    split <;> rfl
  obtain ⟨news, hnews⟩ : ∃ news, news = Builtin.zeroCells z.cells n ++ Builtin.zeroCells z.cells (nc - n) := ⟨_, rfl⟩
  refine ⟨w.drew.heap.size, nc, w.drew.alloc (.cells news e), ?_, hnc1, ?_⟩
  · have h3 : ¬ ((n : Int) < 0) := by omega
    have h0 : ¬ (n = 0) := by omega
    have hk00 : ¬ (k = 0) := by omega
    have hnk : ¬ (n * k = 0) := by
      intro h; rcases Nat.mul_eq_zero.1 h with h | h <;> omega
    have hmax : ¬ ((n : Int) > IntKind.i64.max) := by
      rw [show IntKind.i64.max = 9223372036854775807 from by decide]; omega
    have e4 : (newRow e news).run P w.drew = .ok ⟨w.drew.heap.size, 0, none⟩ (w.drew.alloc (.cells news e)) := rfl
    simp [Builtin.append_, run_underlying hu, run_underlying hu2, hsz, asInt, asIntOf, hi, hwr, h3, hbig1, h0, hk00, hnk, hmax, hbig, choose, Sem.run, hq]
    rw [if_neg (by omega)]
    have hfc : ∀ w, (Builtin.firstCells k 0 (.slice none 0 0)).run P w = .ok #[] w := fun _ => rfl
    have e5 : ((Question.appendCap n 0 e).cut (w.tape w.drawn (Question.appendCap n 0 e))) = nc := rfl
    rw [hfc, e5]
    simp only [Result.andThen_ok, hz0, Array.empty_append]
    rw [← hnews, e4]
    rfl
  · have h7 := (hs.drew).alloc news e
    have h8 : news.toList = rows enc (List.replicate n z0) ++ (Builtin.zeroCells z.cells (nc - n)).toList := by
      rw [hnews, Array.toList_append]
      congr 1
      rw [← zeroRows hkl hk0 n]
      simp only [Builtin.zeroCells, hzc]
      rw [show (enc z0).toArray.size = k from by simpa using hkl]
    rw [h8] at h7
    have h5 := Sat.mk_sl (enc := enc) (k := k) (b := w.drew.heap.size) (cap := nc) (xs := List.replicate n z0) (sp := (Builtin.zeroCells z.cells (nc - n)).toList) (by simpa using hnc1) (fun x hx => by rw [List.eq_of_mem_replicate hx]; exact hkl) (by
      rw [Array.length_toList, size_zeroC, hzs, List.length_replicate]) h7
    rw [List.length_replicate] at h5
    exact h5
theorem Does.appendMake {enc : α → List Value} {k : Nat} (z0 : α) {x y : Operand} {t t2 e ty : TypeId} {kd k2 : IntKind} {i : TypeInfo} {z : Value} {m : Int} (n : Nat) {pos : String} {after : Array Edge} {guard : Option (Nat × Bool)} {d : Nat} (hN : Nat.blt d N = true)
    (hu : P.underlying t = some (.slice e)) (hu2 : P.underlying t2 = some (.int k2)) (hi : ∀ w, (typeInfo e).run P w = .ok i w) (hz : i.zero = some z) (hk : i.size = k) (hzc : z.cells = (enc z0).toArray) (hkl : (enc z0).length = k) (hk0 : 0 < k) (hb : 1 ≤ i.bytes ∧ i.bytes ≤ 4096)
    (hx : ev L x = some (.slice none 0 0)) (hy : ev L y = some (.int kd m)) (hm : m = (n : Int)) (hn : 0 < n ∧ n ≤ 1000000000) :
    Does P W N ⟨some d, .call ⟨.builtin .append, #[x, y], #[t, t2]⟩, ty, pos, after, guard⟩ L H (fun L1 H1 => ∃ q : Nat × Nat, n ≤ q.2 ∧ L1 = (d, some (.slice (some ⟨q.1, 0, none⟩) n q.2)) :: L ∧ H1 = sl enc k (.slice (some ⟨q.1, 0, none⟩) n q.2) (List.replicate n z0) :: H) := fun a w ha hs Kp hK => by
  subst hm
  obtain ⟨b, c, w', h1, hc, h2⟩ := run_appendMake (P := P) (ty := ty) (kd := kd) z0 hu hu2 hi hz hk hzc hkl hk0 hb hn hs
  have hrun : (execOp a.eval ⟨some d, .call ⟨.builtin .append, #[x, y], #[t, t2]⟩, ty, pos, after, guard⟩).run P w = .ok (.value (.slice (some ⟨b, 0, none⟩) n c)) w' := by
    simp [execOp, resolve, invoke, builtin, ha.eval hx, ha.eval hy, h1]
  unfold Oper.wp
  rw [hrun]
  simp only [Oper.upon]
  exact hK _ _ ⟨(b, c), hc, rfl, rfl⟩ _ _ (ha.put (Nat.blt_eq.mp hN) _) h2

/-- A slice's first elements, as a slice: what lies behind them is room. -/
theorem sl_shrink {enc : α → List Value} {k b n c : Nat} {xs : List α} (m : Nat) (hm : m ≤ xs.length) : ∀ h, sl enc k (.slice (some ⟨b, 0, none⟩) n c) xs h → seps [sl enc k (.slice (some ⟨b, 0, none⟩) m c) (xs.take m)] h := by
  rintro h (⟨⟨a', e⟩, hx, he⟩ | ⟨b', cap', sp, e, hle, hk, hsp, a1⟩)
  · cases e
    subst hx
    have : m = 0 := by simpa using hm
    subst this
    simp only [seps, sep_emp]
    exact .inl ⟨⟨_, rfl⟩, rfl, he⟩
  · cases e
    simp only [seps, sep_emp]
    have hl : (xs.take m).length = m := by rw [List.length_take]; omega
    have : sl enc k (.slice (some ⟨b, 0, none⟩) (xs.take m).length c) (xs.take m) h := by
      refine .inr ⟨b, c, rows enc (xs.drop m) ++ sp, rfl, by omega, fun x hx => hk x (List.mem_of_mem_take hx), ?_, ?_⟩
      · rw [List.length_append, rows_length (fun x hx => hk x (List.mem_of_mem_drop hx)), List.length_drop, hsp, hl, ← Nat.add_mul]
        congr 1; omega
      · rw [← List.append_assoc, ← rows_append, List.take_append_drop]; exact a1
    rwa [hl] at this
theorem RdAt.firstN {w : World} {enc : α → List Value} {k m : Nat} {u : Value} {ys : List α} (h : RdAt w enc k u ys) (hm : m ≤ ys.length) : (Builtin.firstCells k m u).run P w = .ok (rows enc (ys.take m)).toArray w := by
  have h1 := (h.cut (lo := 0) (hi := m) (Nat.zero_le _) hm).firstCells (P := P)
  obtain ⟨⟨a, cap, rfl, _⟩, _⟩ := h
  rw [List.drop_zero, List.length_take, Nat.min_eq_left hm] at h1
  have e : Builtin.firstCells k m (Value.slice a ys.length cap) = Builtin.firstCells k m (SLYtkflpgknieoknaa.cut k 0 m (Value.slice a ys.length cap)) := by
    simp only [SLYtkflpgknieoknaa.cut]
    cases a with
    | none => simp [Builtin.firstCells]
    | some p => split <;> simp [Builtin.firstCells, Addr.add]
  rw [e]; exact h1
theorem Does.copyIn {enc : α → List Value} {k b i len cap c' : Nat} {x y : Operand} {t t2 e ty : TypeId} {u : Value} {xs ys : List α} {pos : String} {after : Array Edge} {guard : Option (Nat × Bool)} {d : Nat} (hN : Nat.blt d N = true) (hu : P.underlying t = some (.slice e)) (hz : ∀ w, (sizeOf e).run P w = .ok k w)
    (hx : ev L x = some (.slice (some ⟨b, i * k, none⟩) (len - i) c')) (hy : ev L y = some u) (hr : Rd W H enc k u ys) (ht : Take H (sl enc k (.slice (some ⟨b, 0, none⟩) len cap) xs) R) (hl : xs.length = len) (hi : i ≤ len) (h0 : 0 < len) (hone : ∀ y ∈ ys, ∀ c ∈ enc y, c.oneCell' = true) :
    Does P W N ⟨some d, .call ⟨.builtin .copy, #[x, y], #[t, t2]⟩, ty, pos, after, guard⟩ L H (fun L1 H1 => L1 = (d, some (.int .i64 ((min ys.length (len - i) : Nat) : Int))) :: L ∧
      H1 = sl enc k (.slice (some ⟨b, 0, none⟩) len cap) (xs.take i ++ (ys.take (min ys.length (len - i)) ++ xs.drop (i + min ys.length (len - i)))) :: R) := fun a w ha hs Kp hK => by
  have hrd := hr w hs
  rw [ht.seps] at hs
  subst hl
  generalize hm : min ys.length (xs.length - i) = m at hK
  have hm1 : m ≤ ys.length := by omega
  have hm2 : i + m ≤ xs.length := by omega
  have hf := hrd.firstN (P := P) hm1
  have hue := hrd
  obtain ⟨⟨ua, ucap, hue, _⟩, hyk, _⟩ := hue
  have hln : (Builtin.lenOf u).run P w = .ok ys.length w := by rw [hue]; simp [Builtin.lenOf]
  have hmin : Nat.min ys.length (xs.length - i) = m := hm
  have fin : ∀ w', (execOp a.eval ⟨some d, .call ⟨.builtin .copy, #[x, y], #[t, t2]⟩, ty, pos, after, guard⟩).run P w = .ok (.value (.int .i64 (m : Int))) w' →
      Sat W w' (sep (sl enc k (.slice (some ⟨b, 0, none⟩) xs.length cap) (xs.take i ++ (ys.take m ++ xs.drop (i + m)))) (seps R)) → Oper.wp P ⟨some d, .call ⟨.builtin .copy, #[x, y], #[t, t2]⟩, ty, pos, after, guard⟩ a w Kp QF := fun w' hrun hs' => by
    unfold Oper.wp
    rw [hrun]
    simp only [Oper.upon]
    exact hK _ _ ⟨rfl, rfl⟩ _ _ (ha.put (Nat.blt_eq.mp hN) _) hs'
  rcases hs.of_sl with ⟨⟨va, hv0⟩, hx0, hs0⟩ | ⟨b', cap', sp, hv, hle, hkk, hsp, hs1⟩
  · subst hx0; exact absurd h0 (by simp)
  · cases hv
    have hlm : (ys.take m).length = m := by rw [List.length_take]; omega
    have hrl : (rows enc (ys.take m)).length = m * k := by rw [rows_length (fun z hz => hyk z (List.mem_of_mem_take hz)), hlm]
    have hone' : ∀ c ∈ rows enc (ys.take m), c.oneCell' = true := fun c hc => by
      obtain ⟨z, hz, hc⟩ := List.mem_flatMap.1 hc
      exact hone z (List.mem_of_mem_take hz) c hc
    have hlx : (rows enc xs).length = xs.length * k := rows_length hkk
    have hmk : i * k + m * k ≤ xs.length * k := by rw [← Nat.add_mul]; exact Nat.mul_le_mul_right _ hm2
    obtain ⟨w', h1, h2⟩ := run_storeCells (P := P) (rows enc (ys.take m)) (rows enc xs ++ sp) (i * k) 0 w hs1 hone' (by rw [List.length_append, hrl, hlx]; omega)
    refine fin w' ?_ ?_
    · simp only [Nat.zero_add] at h1
      simp [execOp, resolve, invoke, builtin, Builtin.copy_, run_underlying hu, ha.eval hx, ha.eval hy, hln, hz, hmin, hf, h1, goInt]
    · have e9 : rows enc xs ++ sp = rows enc (xs.take i) ++ (rows enc (xs.drop i) ++ sp) := by
        rw [← List.append_assoc, ← rows_append, List.take_append_drop]
      have hti : (rows enc (xs.take i)).length = i * k := by rw [rows_length (fun z hz => hkk z (List.mem_of_mem_take hz)), List.length_take]; congr 1; omega
      have hdi : (rows enc (xs.drop i)).length = (xs.length - i) * k := by rw [rows_length (fun z hz => hkk z (List.mem_of_mem_drop hz)), List.length_drop]
      have e3 : setFrom (rows enc xs ++ sp) (i * k + 0) (rows enc (ys.take m)) = rows enc (xs.take i ++ (ys.take m ++ xs.drop (i + m))) ++ sp := by
        rw [Nat.add_zero, e9, ← hti, setFrom_mid (by rw [List.length_append, hrl, hdi]; have := Nat.mul_le_mul_right k (show m ≤ xs.length - i by omega); omega), hrl, rows_append, rows_append]
        rw [List.drop_append_of_le_length (by rw [hdi]; exact Nat.mul_le_mul_right k (by omega))]
        have : (rows enc (xs.drop i)).drop (m * k) = rows enc (xs.drop (i + m)) := by
          have hsplit : rows enc (xs.drop i) = rows enc ((xs.drop i).take m) ++ rows enc ((xs.drop i).drop m) := by rw [← rows_append, List.take_append_drop]
          have hlen : (rows enc ((xs.drop i).take m)).length = m * k := by
            rw [rows_length (fun z hz => hkk z (List.mem_of_mem_drop (List.mem_of_mem_take hz))), List.length_take, List.length_drop]; congr 1; omega
          rw [hsplit, ← hlen, List.drop_left, List.drop_drop]
        rw [this]; simp
      rw [e3] at h2
      have hnl : (xs.take i ++ (ys.take m ++ xs.drop (i + m))).length = xs.length := by simp only [List.length_append, List.length_take, List.length_drop]; omega
      have := Sat.mk_sl (enc := enc) (k := k) (b := b) (cap := cap) (xs := xs.take i ++ (ys.take m ++ xs.drop (i + m))) (sp := sp) (by omega) (fun z hz => by
        rcases List.mem_append.1 hz with h | h
        · exact hkk z (List.mem_of_mem_take h)
        · rcases List.mem_append.1 h with h | h
          · exact hyk z (List.mem_of_mem_take h)
          · exact hkk z (List.mem_of_mem_drop h)) (by rw [hnl]; exact hsp) h2
      rwa [hnl] at this
end
end Go.SLYtkflpgknieoknaa
