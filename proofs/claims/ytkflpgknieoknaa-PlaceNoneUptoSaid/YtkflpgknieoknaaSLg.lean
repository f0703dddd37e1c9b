/- Finding a thing in the list of what the memory bears. Conditions: none, this text proves no statement. -/
import Derived.Test.YtkflpgknieoknaaSLf
namespace Go.SLYtkflpgknieoknaa
open Go Go.RowKit

class HasArr (H : List HProp) (b o : Nat) (cs : outParam (List Value)) : Prop where
  has : At H (arr b o cs)
instance HasArr.here {H : List HProp} {b o : Nat} {cs : List Value} : HasArr (arr b o cs :: H) b o cs := ⟨.here⟩
instance HasArr.there {H : List HProp} {A : HProp} {b o : Nat} {cs : List Value} [h : HasArr H b o cs] : HasArr (A :: H) b o cs := ⟨.there h.has⟩

class SetArr (H : List HProp) (b o : Nat) (cs : outParam (List Value)) (cs' : List Value) (H' : outParam (List HProp)) : Prop where
  repl : Repl H (arr b o cs) (arr b o cs') H'
instance SetArr.here {H : List HProp} {b o : Nat} {cs cs' : List Value} : SetArr (arr b o cs :: H) b o cs cs' (arr b o cs' :: H) := ⟨.here⟩
instance SetArr.there {H H' : List HProp} {A : HProp} {b o : Nat} {cs cs' : List Value} [h : SetArr H b o cs cs' H'] : SetArr (A :: H) b o cs cs' (A :: H') := ⟨.there h.repl⟩

class HasSl (H : List HProp) (v : Value) {α : outParam Type} (enc : outParam (α → List Value)) (k : outParam Nat) (xs : outParam (List α)) : Prop where
  has : At H (sl enc k v xs)
instance HasSl.here {α : Type} {H : List HProp} {v : Value} {enc : α → List Value} {k : Nat} {xs : List α} : HasSl (sl enc k v xs :: H) v enc k xs := ⟨.here⟩
instance HasSl.there {α : Type} {H : List HProp} {A : HProp} {v : Value} {enc : α → List Value} {k : Nat} {xs : List α} [h : HasSl H v enc k xs] : HasSl (A :: H) v enc k xs := ⟨.there h.has⟩

instance HasArr.hereA {H l : List HProp} {b o : Nat} {cs : List Value} : HasArr ((arr b o cs :: l) ++ H) b o cs := ⟨.here⟩
instance HasArr.hereB {H l : List HProp} {b o : Nat} {cs : List Value} : HasArr (List.append (arr b o cs :: l) H) b o cs := ⟨.here⟩
instance HasArr.thereA {H l : List HProp} {A : HProp} {b o : Nat} {cs : List Value} [h : HasArr (l ++ H) b o cs] : HasArr ((A :: l) ++ H) b o cs := ⟨.there h.has⟩
instance HasArr.thereB {H l : List HProp} {A : HProp} {b o : Nat} {cs : List Value} [h : HasArr (List.append l H) b o cs] : HasArr (List.append (A :: l) H) b o cs := ⟨.there h.has⟩
instance HasArr.nilA {H : List HProp} {b o : Nat} {cs : List Value} [h : HasArr H b o cs] : HasArr ([] ++ H) b o cs := ⟨h.has⟩
instance HasArr.nilB {H : List HProp} {b o : Nat} {cs : List Value} [h : HasArr H b o cs] : HasArr (List.append [] H) b o cs := ⟨h.has⟩
instance SetArr.hereA {H l : List HProp} {b o : Nat} {cs cs' : List Value} : SetArr ((arr b o cs :: l) ++ H) b o cs cs' (arr b o cs' :: (l ++ H)) := ⟨.here⟩
instance SetArr.hereB {H l : List HProp} {b o : Nat} {cs cs' : List Value} : SetArr (List.append (arr b o cs :: l) H) b o cs cs' (arr b o cs' :: (List.append l H)) := ⟨.here⟩
instance SetArr.thereA {H l H' : List HProp} {A : HProp} {b o : Nat} {cs cs' : List Value} [h : SetArr (l ++ H) b o cs cs' H'] : SetArr ((A :: l) ++ H) b o cs cs' (A :: H') := ⟨.there h.repl⟩
instance SetArr.thereB {H l H' : List HProp} {A : HProp} {b o : Nat} {cs cs' : List Value} [h : SetArr (List.append l H) b o cs cs' H'] : SetArr (List.append (A :: l) H) b o cs cs' (A :: H') := ⟨.there h.repl⟩
instance SetArr.nilA {H H' : List HProp} {b o : Nat} {cs cs' : List Value} [h : SetArr H b o cs cs' H'] : SetArr ([] ++ H) b o cs cs' H' := ⟨h.repl⟩
instance SetArr.nilB {H H' : List HProp} {b o : Nat} {cs cs' : List Value} [h : SetArr H b o cs cs' H'] : SetArr (List.append [] H) b o cs cs' H' := ⟨h.repl⟩
instance HasSl.hereA {α : Type} {H l : List HProp} {v : Value} {enc : α → List Value} {k : Nat} {xs : List α} : HasSl ((sl enc k v xs :: l) ++ H) v enc k xs := ⟨.here⟩
instance HasSl.hereB {α : Type} {H l : List HProp} {v : Value} {enc : α → List Value} {k : Nat} {xs : List α} : HasSl (List.append (sl enc k v xs :: l) H) v enc k xs := ⟨.here⟩
instance HasSl.thereA {α : Type} {H l : List HProp} {A : HProp} {v : Value} {enc : α → List Value} {k : Nat} {xs : List α} [h : HasSl (l ++ H) v enc k xs] : HasSl ((A :: l) ++ H) v enc k xs := ⟨.there h.has⟩
instance HasSl.thereB {α : Type} {H l : List HProp} {A : HProp} {v : Value} {enc : α → List Value} {k : Nat} {xs : List α} [h : HasSl (List.append l H) v enc k xs] : HasSl (List.append (A :: l) H) v enc k xs := ⟨.there h.has⟩
instance HasSl.nilA {α : Type} {H : List HProp} {v : Value} {enc : α → List Value} {k : Nat} {xs : List α} [h : HasSl H v enc k xs] : HasSl ([] ++ H) v enc k xs := ⟨h.has⟩
instance HasSl.nilB {α : Type} {H : List HProp} {v : Value} {enc : α → List Value} {k : Nat} {xs : List α} [h : HasSl H v enc k xs] : HasSl (List.append [] H) v enc k xs := ⟨h.has⟩

section
variable {P : Program} {W : World} {N : Nat} {Q : Exit → Act → World → Prop} {L : List (Nat × Option Value)} {H K : List HProp} {O : Array Oper} {T : TypeId} {α : Type}

theorem Cell.a {b i : Nat} {cs : List Value} {v : Value} [h : HasArr H b 0 cs] (hv : cs[i]? = some v) : Cell W H b i v := Cell.arr h.has hv
theorem Cell.ao {b o i : Nat} {cs : List Value} {v : Value} [h : HasArr H b o cs] (hv : cs[i]? = some v) : Cell W H b (o + i) v := Cell.arrO h.has hv
theorem Cell.az {b o : Nat} {cs : List Value} {v : Value} [h : HasArr H b o cs] (hv : cs[0]? = some v) : Cell W H b o v := Cell.arrZ h.has hv
theorem Cells.a {b o : Nat} {cs : List Value} [h : HasArr H b o cs] : Cells W H b o cs := Cells.arr h.has
/-- What may be read, owned or not. -/
class ReadsC (W : World) (H : List HProp) (v : Value) {α : outParam Type} (enc : outParam (α → List Value)) (k : outParam Nat) (xs : outParam (List α)) : Prop where
  rd : Rd W H enc k v xs
instance ReadsC.sl {W : World} {H : List HProp} {v : Value} {α : Type} {enc : α → List Value} {k : Nat} {xs : List α} [h : HasSl H v enc k xs] : ReadsC W H v enc k xs := ⟨Rd.sl h.has⟩
theorem Rd.s {v : Value} {enc : α → List Value} {k : Nat} {xs : List α} [h : ReadsC W H v enc k xs] : Rd W H enc k v xs := h.rd
/-- A thing that is there. -/
class HasH (H : List HProp) (A : HProp) : Prop where
  has : At H A
instance HasH.here {H : List HProp} {A : HProp} : HasH (A :: H) A := ⟨.here⟩
instance HasH.there {H : List HProp} {A B : HProp} [h : HasH H A] : HasH (B :: H) A := ⟨.there h.has⟩
instance HasH.hereA {H l : List HProp} {A : HProp} : HasH ((A :: l) ++ H) A := ⟨.here⟩
instance HasH.hereB {H l : List HProp} {A : HProp} : HasH (List.append (A :: l) H) A := ⟨.here⟩
instance HasH.thereA {H l : List HProp} {A B : HProp} [h : HasH (l ++ H) A] : HasH ((B :: l) ++ H) A := ⟨.there h.has⟩
instance HasH.thereB {H l : List HProp} {A B : HProp} [h : HasH (List.append l H) A] : HasH (List.append (B :: l) H) A := ⟨.there h.has⟩
instance HasH.nilA {H : List HProp} {A : HProp} [h : HasH H A] : HasH ([] ++ H) A := ⟨h.has⟩
instance HasH.nilB {H : List HProp} {A : HProp} [h : HasH H A] : HasH (List.append [] H) A := ⟨h.has⟩
theorem Rd.at {A : HProp} {v : Value} {enc : α → List Value} {k : Nat} {xs : List α} (h : Rd W [A] enc k v xs) (ha : At H A) : Rd W H enc k v xs := fun w s => by
  obtain ⟨R, s'⟩ := ha.sat s
  exact h w (by simp only [seps, sep_emp]; exact s'.left)

theorem Y.lda {x : Operand} {b o : Nat} {cs : List Value} (ht : ∀ w, (isAgg T).run P w = .ok true w) {T' : TypeId} (hx : ev L x = some (.pointer (some ⟨b, o, none⟩))) (hc : Cells W H b o cs) (hz : ∀ w, (sizeOf T).run P w = .ok cs.length w) :
    Yields P W N (.load T x) T' L H (.agg cs.toArray) := Y.loadAgg ht hz hx hc
/-- Part of a row of cells. -/
theorem Cells.part {b o i : Nat} {cs ds : List Value} (h : Cells W H b o cs) (hd : ∀ j v, ds[j]? = some v → cs[i + j]? = some v) : Cells W H b (o + i) ds := fun j v hv => by
  have := h (i + j) v (hd j v hv)
  rwa [← Nat.add_assoc] at this
theorem Cells.part0 {b i : Nat} {cs ds : List Value} (h : Cells W H b 0 cs) (hd : (cs.drop i).take ds.length = ds) : Cells W H b i ds := fun j v hv => by
  have hj := (List.getElem?_eq_some_iff.1 hv).1
  have := h (i + j) v (by rw [← hd, List.getElem?_take_of_lt hj, List.getElem?_drop] at hv; exact hv)
  rwa [Nat.zero_add] at this

theorem Does.st {E : TypeId} {x y : Operand} {pos : String} {after : Array Edge} {guard : Option (Nat × Bool)} {b i : Nat} {v : Value} {cs : List Value} {H' : List HProp} (hz : ∀ w, (sizeOf E).run P w = .ok 1 w) (hx : ev L x = some (.pointer (some ⟨b, i, none⟩))) (hy : ev L y = some v) (hv : v.oneCell' = true)
    [h0 : HasArr H b 0 cs] [hr : SetArr H b 0 cs (cs.set i v) H'] (hi : Nat.blt i cs.length = true) :
    Does P W N ⟨none, .store E x y, T, pos, after, guard⟩ L H (fun L1 H1 => L1 = L ∧ H1 = H') :=
  Does.store0 hx hy hz hv hr.repl (Nat.blt_eq.mp hi)
theorem Does.sto {E : TypeId} {x y : Operand} {pos : String} {after : Array Edge} {guard : Option (Nat × Bool)} {b o i : Nat} {v : Value} {cs : List Value} {H' : List HProp} (hz : ∀ w, (sizeOf E).run P w = .ok 1 w) (hx : ev L x = some (.pointer (some ⟨b, o + i, none⟩))) (hy : ev L y = some v) (hv : v.oneCell' = true)
    [h0 : HasArr H b o cs] [hr : SetArr H b o cs (cs.set i v) H'] (hi : Nat.blt i cs.length = true) :
    Does P W N ⟨none, .store E x y, T, pos, after, guard⟩ L H (fun L1 H1 => L1 = L ∧ H1 = H') :=
  Does.store hx hy hz hv hr.repl (Nat.blt_eq.mp hi)
theorem Does.stz {E : TypeId} {x y : Operand} {pos : String} {after : Array Edge} {guard : Option (Nat × Bool)} {b o : Nat} {v : Value} {cs : List Value} {H' : List HProp} (hz : ∀ w, (sizeOf E).run P w = .ok 1 w) (hx : ev L x = some (.pointer (some ⟨b, o, none⟩))) (hy : ev L y = some v) (hv : v.oneCell' = true)
    [h0 : HasArr H b o cs] [hr : SetArr H b o cs (cs.set 0 v) H'] (hi : Nat.blt 0 cs.length = true) :
    Does P W N ⟨none, .store E x y, T, pos, after, guard⟩ L H (fun L1 H1 => L1 = L ∧ H1 = H') :=
  Does.storeH hx hy hz hv hr.repl (Nat.blt_eq.mp hi)
/-- A struct stored whole over its variable. -/
theorem Does.sta {E : TypeId} {x y : Operand} {pos : String} {after : Array Edge} {guard : Option (Nat × Bool)} {b o : Nat} {vs cs : List Value} {H' : List HProp} (hz : ∀ w, (sizeOf E).run P w = .ok vs.length w) (hx : ev L x = some (.pointer (some ⟨b, o, none⟩))) (hy : ev L y = some (.agg vs.toArray)) (hv : vs.all (·.oneCell') = true)
    [h0 : HasArr H b o cs] [hr : SetArr H b o cs vs H'] (hi : cs.length = vs.length) :
    Does P W N ⟨none, .store E x y, T, pos, after, guard⟩ L H (fun L1 H1 => L1 = L ∧ H1 = H') :=
  Does.storeAll hx hy hz (List.all_eq_true.1 hv) hr.repl hi
/-- A struct stored into a part of a greater one. -/
theorem Does.stp {E : TypeId} {x y : Operand} {pos : String} {after : Array Edge} {guard : Option (Nat × Bool)} {b i : Nat} {vs cs : List Value} {H' : List HProp} (hz : ∀ w, (sizeOf E).run P w = .ok vs.length w) (hx : ev L x = some (.pointer (some ⟨b, i, none⟩))) (hy : ev L y = some (.agg vs.toArray)) (hv : vs.all (·.oneCell') = true)
    [h0 : HasArr H b 0 cs] [hr : SetArr H b 0 cs (setFrom cs i vs) H'] (hi : Nat.ble (i + vs.length) cs.length = true) :
    Does P W N ⟨none, .store E x y, T, pos, after, guard⟩ L H (fun L1 H1 => L1 = L ∧ H1 = H') :=
  Does.storeAgg (o := 0) (i := i) (by rw [Nat.zero_add]; exact hx) hy hz (List.all_eq_true.1 hv) hr.repl (Nat.ble_eq.mp hi)

/-- A contract that needs nothing of what it reads. -/
theorem Fn.emp {f : FuncId} {args : List Value} {X : Type} {val : X → Value} {fact : X → Prop} (h : Fn P W f args [emp] X val fact (fun _ => [emp])) : Fn P W f args [] X val fact (fun _ => []) := fun F w hs =>
  (h F w (by simpa only [seps, sep_emp, emp_sep] using hs)).mono fun e w' ⟨x, he, hx, hs'⟩ => ⟨x, he, hx, by simpa only [seps, sep_emp, emp_sep] using hs'⟩

theorem fin {w : World} {A : List HProp} {F : HProp} {R : List HProp} (t : Takes H (A ++ [F]) R) (s : Sat W w (seps H)) : Sat W w (sep (seps A) F) := by
  rw [t.seps, seps_append] at s
  have := s.left
  rw [seps_append] at this
  exact this.eq (by simp only [seps, sep_emp])

theorem fins {w : World} {A R : List HProp} (t : Takes H A R) (s : Sat W w (seps H)) : Sat W w (seps A) := by
  rw [t.seps, seps_append] at s
  exact s.left

theorem Y.convI {src dst' : TypeId} {x : Operand} {j : IntKind} {n : Int} {d0 : TypeDesc} (hs : P.underlying src = some d0) (hu : P.underlying dst' = some (.int .i64)) (hx : ev L x = some (.int j n)) (h : -9223372036854775808 ≤ n ∧ n ≤ 9223372036854775807) : Yields P W N (.convert src dst' x) T L H (.int .i64 n) := by
  have := Y.conv (P := P) (W := W) (N := N) (H := H) (T := T) hs hu hx
  rwa [wrap_i64 h] at this
theorem Y.convU {src dst' : TypeId} {x : Operand} {j : IntKind} {n : Int} {d0 : TypeDesc} (hs : P.underlying src = some d0) (hu : P.underlying dst' = some (.int .u64)) (hx : ev L x = some (.int j n)) (h : 0 ≤ n ∧ n ≤ 18446744073709551615) : Yields P W N (.convert src dst' x) T L H (.int .u64 n) := by
  have := Y.conv (P := P) (W := W) (N := N) (H := H) (T := T) hs hu hx
  rwa [wrap_u64 h] at this
theorem Y.mulU {xT yT : TypeId} {x y : Operand} {m n : Int} (hx : ev L x = some (.int .u64 m)) (hy : ev L y = some (.int .u64 n)) (h : 0 ≤ m * n ∧ m * n ≤ 18446744073709551615) : Yields P W N (.binOp .mul xT x y yT) T L H (.int .u64 (m * n)) := by
  have := Y.mulW (P := P) (W := W) (N := N) (H := H) (T := T) (xT := xT) (yT := yT) hx hy
  rwa [wrap_u64 h] at this
theorem Y.subU {xT yT : TypeId} {x y : Operand} {m n : Int} (hx : ev L x = some (.int .u64 m)) (hy : ev L y = some (.int .u64 n)) (h : 0 ≤ m - n ∧ m - n ≤ 18446744073709551615) : Yields P W N (.binOp .sub xT x y yT) T L H (.int .u64 (m - n)) := by
  have := Y.subW (P := P) (W := W) (N := N) (H := H) (T := T) (xT := xT) (yT := yT) hx hy
  rwa [wrap_u64 h] at this

theorem Y.eqBool {xT yT : TypeId} {x y : Operand} {p q : Bool} (hu : P.underlying xT = some .bool) (hx : ev L x = some (.bool p)) (hy : ev L y = some (.bool q)) : Yields P W N (.binOp .eql xT x y yT) T L H (.bool (p == q)) :=
  Y.bin hx hy fun w => by
    have : (Op.equal xT (.bool p) (.bool q)).run P w = .ok (p == q) w := by
      show (Op.equalIn (9999 + 1) xT _ _).run P w = _
      unfold Op.equalIn
      simp [run_underlying hu]
    simp [eqGuard, binOp, this]
theorem Y.neqBool {xT yT : TypeId} {x y : Operand} {p q : Bool} (hu : P.underlying xT = some .bool) (hx : ev L x = some (.bool p)) (hy : ev L y = some (.bool q)) : Yields P W N (.binOp .neq xT x y yT) T L H (.bool (p != q)) :=
  Y.bin hx hy fun w => by
    have : (Op.equal xT (.bool p) (.bool q)).run P w = .ok (p == q) w := by
      show (Op.equalIn (9999 + 1) xT _ _).run P w = _
      unfold Op.equalIn
      simp [run_underlying hu]
    simp [eqGuard, binOp, this]
    cases p <;> cases q <;> rfl

end
end Go.SLYtkflpgknieoknaa
