/- Regions whose operations Go may carry out in more than one order, among them some that lay a fresh block beside a change: the walk goes in an order of its own, fresh blocks late; each change is shown beside whatever frame. Conditions: none, this text proves no statement. -/
import Derived.Test.YtkflpgknieoknaaSLh
namespace Go.SLYtkflpgknieoknaa
open Go Go.RowKit

abbrev Asn := HProp → Act → World → Prop
def Grows (S : Asn) : Prop := ∀ E a w (cs : List Value) T, S E a w → S (sep E (arr w.heap.size 0 cs)) a (w.alloc (.cells cs.toArray T))

section
variable (P : Program) (O : Array Oper) (C : World → Prop) (Q : Exit → Act → World → Prop)

def FreshAt (o : Oper) (a : Act) (f : Nat → Value) (cs : List Value) (T : TypeId) : Prop :=
  Region.wanted o (yielded O a.tmps) = true ∧ ∀ w, (execOp a.eval o).run P w = .ok (.value (f w.heap.size)) (w.alloc (.cells cs.toArray T))
def putQ (o : Oper) (S : Asn) : Asn := fun E a w => ∃ a0 v, a = a0.put o.dst v ∧ S E a0 w ∧ YieldsOn P O C o v a0
def putC (o : Oper) (v : Value) (S : Asn) : Asn := fun E a w => ∃ a0, a = a0.put o.dst v ∧ S E a0 w
def freshA (o : Oper) (S : Asn) : Asn := fun E a w => ∃ a0 f cs T b, FreshAt P O o a0 f cs T ∧ a = a0.put o.dst (f b) ∧ S (sep E (arr b 0 cs)) a0 w

def wpF (ks : Nat → Nat) : List Nat → Asn → Prop
  | [], S => ∀ a w, S emp a w → Q .normal a w
  | i :: rest, S => match O[i]? with
    | none => False
    | some o => match ks i with
      | 0 => (∀ E a w, S E a w → C w ∧ ∃ v, YieldsOn P O C o v a) ∧ wpF ks rest (putQ P O C o S)
      | 1 => ∃ v, (∀ E a w, S E a w → YieldsOn P O (fun w' => w' = w) o v a) ∧ wpF ks rest (putC o v S)
      | 4 => (∀ E a w, S E a w → C w ∧ ∃ f cs T, FreshAt P O o a f cs T) ∧ wpF ks rest (freshA P O o S)
      | k => ∃ (X : Type) (S' : X → Asn), (∀ x, Grows (S' x)) ∧
          (∀ E a w, S E a w → (k = 2 → C w) ∧ if Region.wanted o (yielded O a.tmps) = true then o.wp P a w (fun a' w' => (k = 2 → C w') ∧ ∃ x, S' x E a' w') QF else ∃ x, S' x E (a.put o.dst undef) w) ∧ ∀ x, wpF ks rest (S' x)
end

def compatF (x y : Nat) : Bool := compat x y || (Nat.beq x 0 && Nat.beq y 4) || (Nat.beq x 4 && Nat.beq y 0) || (Nat.beq x 4 && Nat.beq y 4) || (Nat.beq x 2 && Nat.beq y 4)

section
variable {P : Program} {O : Array Oper} {C : World → Prop} {Q : Exit → Act → World → Prop}

theorem Grows.putQ {o : Oper} {S : Asn} (h : Grows S) : Grows (putQ P O C o S) := fun E a w cs T ⟨a0, v, e, hs, hy⟩ => ⟨a0, v, e, h E a0 w cs T hs, hy⟩
theorem Grows.putC {o : Oper} {v : Value} {S : Asn} (h : Grows S) : Grows (putC o v S) := fun E a w cs T ⟨a0, e, hs⟩ => ⟨a0, e, h E a0 w cs T hs⟩
theorem sep_right_comm (A B D : HProp) : sep (sep A B) D = sep (sep A D) B := by rw [sep_assoc, sep_comm B D, ← sep_assoc]
theorem Grows.freshA {o : Oper} {S : Asn} (h : Grows S) : Grows (freshA P O o S) := fun E a w cs T ⟨a0, f, cs', T', b, hf, e, hs⟩ =>
  ⟨a0, f, cs', T', b, hf, e, by rw [sep_right_comm]; exact h _ a0 w cs T hs⟩

theorem putQ_mono {o : Oper} {S T : Asn} (h : ∀ E a w, T E a w → S E a w) : ∀ E a w, putQ P O C o T E a w → putQ P O C o S E a w := fun E a w ⟨a0, v, e, hs, hy⟩ => ⟨a0, v, e, h _ _ _ hs, hy⟩
theorem putC_mono {o : Oper} {v : Value} {S T : Asn} (h : ∀ E a w, T E a w → S E a w) : ∀ E a w, putC o v T E a w → putC o v S E a w := fun E a w ⟨a0, e, hs⟩ => ⟨a0, e, h _ _ _ hs⟩
theorem freshA_mono {o : Oper} {S T : Asn} (h : ∀ E a w, T E a w → S E a w) : ∀ E a w, freshA P O o T E a w → freshA P O o S E a w := fun E a w ⟨a0, f, cs, T', b, hf, e, hs⟩ => ⟨a0, f, cs, T', b, hf, e, h _ _ _ hs⟩

theorem wpF_anti {ks : Nat → Nat} : ∀ (l : List Nat) {S T : Asn}, (∀ E a w, T E a w → S E a w) → wpF P O C Q ks l S → wpF P O C Q ks l T
  | [], S, T, h, hh => fun a w ht => hh a w (h _ _ _ ht)
  | i :: l, S, T, h, hh => by
    cases ho : O[i]? with
    | none => simp only [wpF, ho] at hh
    | some o =>
      simp only [wpF, ho] at hh ⊢
      split at hh
      · exact ⟨fun E a w ht => hh.1 E a w (h _ _ _ ht), wpF_anti l (putQ_mono h) hh.2⟩
      · obtain ⟨v, h1, h2⟩ := hh; exact ⟨v, fun E a w ht => h1 E a w (h _ _ _ ht), wpF_anti l (putC_mono h) h2⟩
      · exact ⟨fun E a w ht => hh.1 E a w (h _ _ _ ht), wpF_anti l (freshA_mono h) hh.2⟩
      · obtain ⟨X, S', h1, h2, h3⟩ := hh
        exact ⟨X, S', h1, fun E a w ht => h2 E a w (h _ _ _ ht), h3⟩

theorem wpF_mono {ks : Nat → Nat} {i : Nat} {l l' : List Nat} (h : ∀ S, Grows S → wpF P O C Q ks l S → wpF P O C Q ks l' S) {S : Asn} (hg : Grows S) (hh : wpF P O C Q ks (i :: l) S) : wpF P O C Q ks (i :: l') S := by
  cases ho : O[i]? with
  | none => simp only [wpF, ho] at hh
  | some o =>
    simp only [wpF, ho] at hh ⊢
    split at hh
    · exact ⟨hh.1, h _ hg.putQ hh.2⟩
    · obtain ⟨v, h1, h2⟩ := hh; exact ⟨v, h1, h _ hg.putC h2⟩
    · exact ⟨hh.1, h _ hg.freshA hh.2⟩
    · obtain ⟨X, S', h1, h2, h3⟩ := hh
      exact ⟨X, S', h1, h2, fun x => h _ (h1 x) (h3 x)⟩

theorem FreshAt.put {o o' : Oper} {a : Act} {f : Nat → Value} {cs : List Value} {T : TypeId} (hs : ∀ cs b, o.op ≠ .select cs b) (u : Value) (h : ∀ d, o'.dst = some d → d ∉ o.looksAt O) :
    FreshAt P O o (a.put o'.dst u) f cs T ↔ FreshAt P O o a f cs T := by
  unfold FreshAt
  rw [execOp_put o hs a _ u h, wanted_put o a _ u h]
theorem FreshAt.withD {o : Oper} {a : Act} {f : Nat → Value} {cs : List Value} {T : TypeId} (ds : List Deferred) : FreshAt P O o (SLYtkflpgknieoknaa.withD a ds) f cs T ↔ FreshAt P O o a f cs T := by
  have e : (SLYtkflpgknieoknaa.withD a ds).eval = a.eval := by funext x; cases x <;> rfl
  unfold FreshAt
  rw [e]; rfl

theorem wpF_swap {ks : Nat → Nat} {i j : Nat} {oi oj : Oper} {rest : List Nat} (hi : O[i]? = some oi) (hj : O[j]? = some oj) (hsi : ∀ cs b, oi.op ≠ .select cs b) (hsj : ∀ cs b, oj.op ≠ .select cs b)
    (hap : oi.apart O oj = true) (hk : compatF (ks i) (ks j) = true) (hC : ∀ w (cs : List Value) T, C w → C (w.alloc (.cells cs.toArray T))) {S : Asn} (hg : Grows S) (hh : wpF P O C Q ks (i :: j :: rest) S) : wpF P O C Q ks (j :: i :: rest) S := by
  obtain ⟨h1, h2, h3⟩ := Oper.apart_spec hap
  have keepi : ∀ {C' : World → Prop} {v : Value} {a : Act} (u : Value), YieldsOn P O C' oi v a → YieldsOn P O C' oi v (a.put oj.dst u) := fun {C' v a} u hy => hy.kept (o' := oj) hsi a.defers u h3
  have keepj : ∀ {C' : World → Prop} {v : Value} {a : Act} (u : Value), YieldsOn P O C' oj v (a.put oi.dst u) → YieldsOn P O C' oj v a := fun {C' v a} u hy => YieldsOn.back (o' := oi) hsj a.defers u h1 hy
  have backi : ∀ {C' : World → Prop} {v : Value} {a : Act} (u : Value), YieldsOn P O C' oi v (a.put oj.dst u) → YieldsOn P O C' oi v a := fun {C' v a} u hy => YieldsOn.back (o' := oj) hsi a.defers u h3 hy
  have putj : ∀ {C' : World → Prop} {v : Value} {a : Act} (u : Value), YieldsOn P O C' oj v a → YieldsOn P O C' oj v (a.put oi.dst u) := fun {C' v a} u hy => hy.kept (o' := oi) hsj a.defers u h1
  simp only [wpF, hi, hj] at hh ⊢
  generalize ks i = ki at *
  generalize ks j = kj at *
  match ki, kj, hk with
  | 0, 0, _ =>
    obtain ⟨y1, y2, hr⟩ := hh
    refine ⟨fun E a w hs => ?_, fun E a w ⟨a0, v, e, hs, hy⟩ => ?_, wpF_anti rest ?_ hr⟩
    · obtain ⟨c1, v1, z1⟩ := y1 E a w hs
      obtain ⟨_, v2, z2⟩ := y2 E _ w ⟨a, v1, rfl, hs, z1⟩
      exact ⟨c1, v2, keepj _ z2⟩
    · subst e
      obtain ⟨c1, v1, z1⟩ := y1 E a0 w hs
      exact ⟨c1, v1, keepi _ z1⟩
    · rintro E a w ⟨a1, v1, rfl, ⟨a0, v2, rfl, hs, z2⟩, z1⟩
      exact ⟨a0.put oi.dst v1, v2, (put_comm' a0 v1 v2 h2).symm, ⟨a0, v1, rfl, hs, backi _ z1⟩, putj _ z2⟩
  | 0, 1, _ =>
    obtain ⟨y1, v2, y2, hr⟩ := hh
    refine ⟨v2, fun E a w hs => ?_, fun E a w ⟨a0, e, hs⟩ => ?_, wpF_anti rest ?_ hr⟩
    · obtain ⟨c1, v1, z1⟩ := y1 E a w hs
      exact keepj _ (y2 E _ w ⟨a, v1, rfl, hs, z1⟩)
    · subst e
      obtain ⟨c1, v1, z1⟩ := y1 E a0 w hs
      exact ⟨c1, v1, keepi _ z1⟩
    · rintro E a w ⟨a1, v1, rfl, ⟨a0, rfl, hs⟩, z1⟩
      exact ⟨a0.put oi.dst v1, (put_comm' a0 v1 v2 h2).symm, ⟨a0, v1, rfl, hs, backi _ z1⟩⟩
  | 1, 0, _ =>
    obtain ⟨v1, y1, y2, hr⟩ := hh
    refine ⟨fun E a w hs => ?_, v1, fun E a w ⟨a0, v, e, hs, hy⟩ => ?_, wpF_anti rest ?_ hr⟩
    · obtain ⟨c2, v2, z2⟩ := y2 E _ w ⟨a, rfl, hs⟩
      exact ⟨c2, v2, keepj _ z2⟩
    · subst e
      exact keepi _ (y1 E a0 w hs)
    · rintro E a w ⟨a1, rfl, ⟨a0, v2, rfl, hs, z2⟩⟩
      exact ⟨a0.put oi.dst v1, v2, (put_comm' a0 v1 v2 h2).symm, ⟨a0, rfl, hs⟩, putj _ z2⟩
  | 1, 1, _ =>
    obtain ⟨v1, y1, v2, y2, hr⟩ := hh
    refine ⟨v2, fun E a w hs => keepj _ (y2 E _ w ⟨a, rfl, hs⟩), v1, fun E a w ⟨a0, e, hs⟩ => ?_, wpF_anti rest ?_ hr⟩
    · subst e
      exact keepi _ (y1 E a0 w hs)
    · rintro E a w ⟨a1, rfl, ⟨a0, rfl, hs⟩⟩
      exact ⟨a0.put oi.dst v1, (put_comm' a0 v1 v2 h2).symm, ⟨a0, rfl, hs⟩⟩
  | 0, 4, _ =>
    obtain ⟨y1, y2, hr⟩ := hh
    refine ⟨fun E a w hs => ?_, fun E a w ⟨a0, f, cs, T, b, hf, e, hs⟩ => ?_, wpF_anti rest ?_ hr⟩
    · obtain ⟨c1, v1, z1⟩ := y1 E a w hs
      obtain ⟨_, f, cs, T, z2⟩ := y2 E _ w ⟨a, v1, rfl, hs, z1⟩
      exact ⟨c1, f, cs, T, (FreshAt.put hsj v1 h1).1 z2⟩
    · subst e
      obtain ⟨c1, v1, z1⟩ := y1 _ a0 w hs
      exact ⟨c1, v1, keepi _ z1⟩
    · rintro E a w ⟨a1, v1, rfl, ⟨a0, f, cs, T, b, hf, rfl, hs⟩, z1⟩
      exact ⟨a0.put oi.dst v1, f, cs, T, b, (FreshAt.put hsj v1 h1).2 hf, (put_comm' a0 v1 (f b) h2).symm, ⟨a0, v1, rfl, hs, backi _ z1⟩⟩
  | 4, 0, _ =>
    obtain ⟨y1, y2, hr⟩ := hh
    refine ⟨fun E a w hs => ?_, fun E a w ⟨a0, v, e, hs, hy⟩ => ?_, wpF_anti rest ?_ hr⟩
    · obtain ⟨c1, f, cs, T, z1⟩ := y1 E a w hs
      obtain ⟨_, v2, z2⟩ := y2 E _ _ ⟨a, f, cs, T, w.heap.size, z1, rfl, hg E a w cs T hs⟩
      exact ⟨c1, v2, keepj _ z2⟩
    · subst e
      obtain ⟨c1, f, cs, T, z1⟩ := y1 E a0 w hs
      exact ⟨c1, f, cs, T, (FreshAt.put hsi v h3).2 z1⟩
    · rintro E a w ⟨a1, f, cs, T, b, hf, rfl, ⟨a0, v2, rfl, hs, z2⟩⟩
      exact ⟨a0.put oi.dst (f b), v2, (put_comm' a0 (f b) v2 h2).symm, ⟨a0, f, cs, T, b, (FreshAt.put hsi v2 h3).1 hf, rfl, hs⟩, putj _ z2⟩
  | 4, 4, _ =>
    obtain ⟨y1, y2, hr⟩ := hh
    refine ⟨fun E a w hs => ?_, fun E a w ⟨a0, f, cs, T, b, hf, e, hs⟩ => ?_, wpF_anti rest ?_ hr⟩
    · obtain ⟨c1, f, cs, T, z1⟩ := y1 E a w hs
      obtain ⟨_, f2, cs2, T2, z2⟩ := y2 E _ _ ⟨a, f, cs, T, w.heap.size, z1, rfl, hg E a w cs T hs⟩
      exact ⟨c1, f2, cs2, T2, (FreshAt.put hsj (f w.heap.size) h1).1 z2⟩
    · subst e
      obtain ⟨c1, f1, cs1, T1, z1⟩ := y1 _ a0 w hs
      exact ⟨c1, f1, cs1, T1, (FreshAt.put hsi (f b) h3).2 z1⟩
    · rintro E a w ⟨a1, f1, cs1, T1, b1, hf1, rfl, ⟨a0, f2, cs2, T2, b2, hf2, rfl, hs⟩⟩
      exact ⟨a0.put oi.dst (f1 b1), f2, cs2, T2, b2, (FreshAt.put hsj (f1 b1) h1).2 hf2, (put_comm' a0 (f1 b1) (f2 b2) h2).symm,
        ⟨a0, f1, cs1, T1, b1, (FreshAt.put hsi (f2 b2) h3).1 hf1, rfl, by rw [sep_right_comm]; exact hs⟩⟩
  | 2, 0, _ =>
    obtain ⟨X, S', g1, y1, hx⟩ := hh
    refine ⟨fun E a w hs => ?_, X, fun x => putQ P O C oj (S' x), fun x => (g1 x).putQ, fun E a w ⟨a0, v, e, hs, hy⟩ => ?_, fun x => (hx x).2⟩
    · obtain ⟨c1, z⟩ := y1 E a w hs
      refine ⟨c1 rfl, ?_⟩
      split at z
      · obtain ⟨ds, u, w', _, x, sx⟩ := wp_some z
        obtain ⟨_, v, y⟩ := (hx x).1 E _ w' sx
        exact ⟨v, y.back hsj ds u h1⟩
      · obtain ⟨x, sx⟩ := z
        obtain ⟨_, v, y⟩ := (hx x).1 E _ w sx
        exact ⟨v, keepj _ y⟩
    · subst e
      obtain ⟨c1, z⟩ := y1 E a0 w hs
      refine ⟨fun _ => c1 rfl, ?_⟩
      rw [wanted_put oi a0 oj.dst v h3]
      split at z
      · rename_i hw
        rw [if_pos hw]
        refine wp_conv (execOp_put oi hsi a0 oj.dst v h3) (by cases oj.dst <;> rfl) (fun ds u w' ⟨x, y, sx⟩ => ⟨x, y, (withD a0 ds).put oi.dst u, v, ?_, sx, hy.kept hsj ds u h1⟩) z
        rw [put_withD, put_withD, put_withD, put_comm' a0 u v h2]
      · rename_i hw
        rw [if_neg hw]
        obtain ⟨x, sx⟩ := z
        exact ⟨x, a0.put oi.dst undef, v, (put_comm' a0 undef v h2).symm, sx, putj _ hy⟩
  | 0, 2, _ =>
    obtain ⟨y1, X, S', g1, y2, hx⟩ := hh
    refine ⟨X, fun x E a w => C w ∧ ∃ v1, YieldsOn P O C oi v1 a ∧ S' x E (a.put oi.dst v1) w, fun x E a w cs T ⟨c, v1, y, hs⟩ => ⟨hC _ _ _ c, v1, y, g1 x _ _ _ _ _ hs⟩, fun E a w hs => ?_, fun x => ⟨fun E a w ⟨c, v1, y, _⟩ => ⟨c, v1, y⟩, wpF_anti rest ?_ (hx x)⟩⟩
    · obtain ⟨c1, v1, z1⟩ := y1 E a w hs
      obtain ⟨_, z⟩ := y2 E _ w ⟨a, v1, rfl, hs, z1⟩
      refine ⟨fun _ => c1, ?_⟩
      rw [wanted_put oj a oi.dst v1 h1] at z
      split at z
      · rename_i hw
        rw [if_pos hw]
        refine wp_conv (execOp_put oj hsj a oi.dst v1 h1).symm (by cases oi.dst <;> rfl) (fun ds u w' ⟨c, x, sx⟩ => ⟨c, x, c rfl, v1, z1.kept hsi ds u h3, ?_⟩) z
        rw [put_withD, put_comm' a v1 u h2] at sx
        rw [put_withD, put_withD]
        exact sx
      · rename_i hw
        rw [if_neg hw]
        obtain ⟨x, sx⟩ := z
        exact ⟨x, c1, v1, keepi _ z1, by rw [← put_comm' a v1 undef h2]; exact sx⟩
    · rintro E a w ⟨a0, v, rfl, ⟨c, v1, y, hs⟩, hy⟩
      obtain rfl := y.unique c hy
      exact hs
  | 2, 4, _ =>
    obtain ⟨X, S', g1, y1, hx⟩ := hh
    refine ⟨fun E a w hs => ?_, X, fun x => freshA P O oj (S' x), fun x => (g1 x).freshA, fun E a w ⟨a0, f, cs, T, b, hf, e, hs⟩ => ?_, fun x => (hx x).2⟩
    · obtain ⟨c1, z⟩ := y1 E a w hs
      refine ⟨c1 rfl, ?_⟩
      split at z
      · obtain ⟨ds, u, w', _, x, sx⟩ := wp_some z
        obtain ⟨_, f, cs, T, y⟩ := (hx x).1 E _ w' sx
        exact ⟨f, cs, T, (FreshAt.withD ds).1 ((FreshAt.put hsj u h1).1 y)⟩
      · obtain ⟨x, sx⟩ := z
        obtain ⟨_, f, cs, T, y⟩ := (hx x).1 E _ w sx
        exact ⟨f, cs, T, (FreshAt.put hsj undef h1).1 y⟩
    · subst e
      obtain ⟨c1, z⟩ := y1 _ a0 w hs
      refine ⟨fun _ => c1 rfl, ?_⟩
      rw [wanted_put oi a0 oj.dst (f b) h3]
      split at z
      · rename_i hw
        rw [if_pos hw]
        refine wp_conv (execOp_put oi hsi a0 oj.dst (f b) h3) (by cases oj.dst <;> rfl) (fun ds u w' ⟨x, y, sx⟩ => ⟨x, y, (withD a0 ds).put oi.dst u, f, cs, T, b, (FreshAt.put hsj u h1).2 ((FreshAt.withD ds).2 hf), ?_, sx⟩) z
        rw [put_withD, put_withD, put_withD, put_comm' a0 u (f b) h2]
      · rename_i hw
        rw [if_neg hw]
        obtain ⟨x, sx⟩ := z
        exact ⟨x, a0.put oi.dst undef, f, cs, T, b, (FreshAt.put hsj undef h1).2 hf, (put_comm' a0 undef (f b) h2).symm, sx⟩

theorem wpF_bubble {ks : Nat → Nat} {i : Nat} {oi : Oper} (hi : O[i]? = some oi) (hsel : ∀ (j : Nat) (o : Oper) cs b, O[j]? = some o → o.op ≠ .select cs b) (hC : ∀ w (cs : List Value) T, C w → C (w.alloc (.cells cs.toArray T))) (post : List Nat) :
    ∀ (pre : List Nat) {S : Asn}, Grows S → (∀ j ∈ pre, ∃ oj, O[j]? = some oj ∧ oj.apart O oi = true ∧ compatF (ks j) (ks i) = true) → wpF P O C Q ks (pre ++ i :: post) S → wpF P O C Q ks (i :: (pre ++ post)) S
  | [], _, _, _, h => h
  | j :: pre, S, hg, hp, h => by
    obtain ⟨oj, hj, hap, hc⟩ := hp j (List.mem_cons_self ..)
    have h' : wpF P O C Q ks (j :: i :: (pre ++ post)) S := wpF_mono (fun S hg => wpF_bubble hi hsel hC post pre hg (fun x hx => hp x (List.mem_cons_of_mem _ hx))) hg h
    exact wpF_swap hj hi (fun cs b => hsel j oj cs b hj) (fun cs b => hsel i oi cs b hi) hap hc hC hg h'

theorem wpOp_of_wpF {ks : Nat → Nat} {i : Nat} {o : Oper} (ho : O[i]? = some o) {l : List Nat} {S : Asn} (hg : Grows S) {a : Act} {w : World} (hs : S emp a w) {K : Act → World → Prop} (h : ∀ S', Grows S' → wpF P O C Q ks l S' → ∀ a w, S' emp a w → K a w)
    (hh : wpF P O C Q ks (i :: l) S) : wpOp P O Q i K a w := by
  simp only [wpF, ho] at hh
  unfold wpOp
  rw [ho]
  simp only
  have yl : ∀ {C' : World → Prop} {v : Value}, C' w → YieldsOn P O C' o v a → K (a.put o.dst v) w → (if Region.wanted o (yielded O a.tmps) = true then o.wp P a w K Q ∨ (o.asks P a w ∧ LetsOut Q) else K (a.put o.dst undef) w) := fun {C' v} hc hy hr => by
    rcases hy with ⟨hw, hy⟩ | ⟨hw, rfl⟩
    · rw [if_pos hw]
      left
      unfold Oper.wp
      rw [hy w hc]
      exact hr
    · rw [if_neg (by rw [hw]; simp)]
      exact hr
  split at hh
  · obtain ⟨y, hr⟩ := hh
    obtain ⟨c, v, z⟩ := y emp a w hs
    exact yl c z (h _ hg.putQ hr _ _ ⟨a, v, rfl, hs, z⟩)
  · obtain ⟨v, y, hr⟩ := hh
    exact yl (C' := fun w' => w' = w) rfl (y emp a w hs) (h _ hg.putC hr _ _ ⟨a, rfl, hs⟩)
  · obtain ⟨y, hr⟩ := hh
    obtain ⟨c, f, cs, T, z⟩ := y emp a w hs
    rw [if_pos z.1]
    left
    unfold Oper.wp
    rw [z.2 w]
    exact h _ hg.freshA hr _ _ ⟨a, f, cs, T, w.heap.size, z, rfl, hg emp a w cs T hs⟩
  · obtain ⟨X, S', g1, y, hr⟩ := hh
    obtain ⟨_, z⟩ := y emp a w hs
    split at z
    · rename_i hw
      rw [if_pos hw]
      exact .inl (wp_conv rfl rfl (fun ds u w' ⟨_, x, sx⟩ => h _ (g1 x) (hr x) _ _ sx) z)
    · rename_i hw
      rw [if_neg hw]
      obtain ⟨x, sx⟩ := z
      exact h _ (g1 x) (hr x) _ _ sx

/-! ### The order of the walk -/
def pairF (O : Array Oper) (ks ms : List Nat) (j i : Nat) : Bool := match O[j]?, O[i]? with
  | some oj, some oi => (oj.after.toList.all fun e => !Region.binds .any e || !Nat.beq e.on i) && ((ms.getD (O.size - 1 - i) 0).testBit j || (oj.apart O oi && compatF (ks.getD j 1) (ks.getD i 1)))
  | _, _ => false
def ordF (O : Array Oper) (ks ms : List Nat) : List Nat → Bool
  | [] => true
  | j :: r => r.all (fun i => pairF O ks ms j i && !Nat.beq j i) && ordF O ks ms r
def lowsB : List Oper → Nat → Bool
  | [], _ => true
  | o :: r, k => lowB o k && lowsB r (k + 1)
def regionF (l : List Oper) (ks σ : List Nat) : Bool :=
  Region.noSelect l.toArray && lowsB l 0 && ordF l.toArray ks (masks l 0 []) σ && (List.range l.length).all (fun i => σ.elem i) && σ.all (fun i => Nat.blt i l.length)

theorem lowsB_spec : ∀ {l : List Oper} {k : Nat}, lowsB l k = true → ∀ j o, l[j]? = some o → lowB o (k + j) = true
  | [], _, _, _, _, h => by simp at h
  | x :: l, k, hB, j, o, h => by
    simp only [lowsB, Bool.and_eq_true] at hB
    cases j with
    | zero => simp at h; subst h; exact hB.1
    | succ j =>
      have := lowsB_spec hB.2 j o (by simpa using h)
      rwa [show k + 1 + j = k + (j + 1) from by omega] at this
theorem ordF_spec {ks ms : List Nat} : ∀ {σ : List Nat}, ordF O ks ms σ = true → σ.Pairwise (fun j i => pairF O ks ms j i = true ∧ j ≠ i)
  | [], _ => List.Pairwise.nil
  | j :: r, h => by
    simp only [ordF, Bool.and_eq_true, List.all_eq_true, Bool.not_eq_true'] at h
    refine List.Pairwise.cons (fun i hi => ⟨(h.1 i hi).1, fun e => ?_⟩) (ordF_spec h.2)
    have := (h.1 i hi).2
    subst e
    simp at this

theorem wpAny_of_wpF {ks ms : List Nat} (hsel : ∀ (j : Nat) (o : Oper) cs b, O[j]? = some o → o.op ≠ .select cs b) (hC : ∀ w (cs : List Value) T, C w → C (w.alloc (.cells cs.toArray T)))
    (hlow : ∀ j o, O[j]? = some o → lowB o j = true) (hm : ∀ i, i < O.size → MaskOk O i (ms.getD (O.size - 1 - i) 0)) :
    ∀ (n : Nat) (l : List Nat) (listed : Array Bool) (S : Asn) (a : Act) (w : World), l.length = n → l.Pairwise (fun j i => pairF O ks ms j i = true ∧ j ≠ i) → (∀ i, i ∈ l ↔ listed.getD i true = false) → listed.size = O.size → closedL O listed →
      Grows S → wpF P O C Q (fun i => ks.getD i 1) l S → S emp a w → wpAny P .any O Q n listed a w
  | 0, l, listed, S, a, w, hn, _, hl, hsz, _, _, h, hs0 => by
    obtain rfl : l = [] := List.eq_nil_of_length_eq_zero hn
    refine ⟨?_, h a w hs0⟩
    cases hr : Region.ready .any O listed with
    | nil => rfl
    | cons x xs =>
      have : x ∈ Region.ready .any O listed := by rw [hr]; exact List.mem_cons_self ..
      have := (hl x).2 (mem_ready.1 this).1
      cases this
  | n + 1, l, listed, S, a, w, hn, hs, hl, hsz, hc, hg, h, hs0 => by
    refine ⟨fun hr => ?_, fun i hi => ?_⟩
    · exfalso
      cases l with
      | nil => simp at hn
      | cons x l =>
        have hx := (hl x).1 (List.mem_cons_self ..)
        have hxs : x < O.size := by
          rcases Nat.lt_or_ge x O.size with h' | h'
          · exact h'
          · rw [Array.getD_eq_getD_getElem?, Array.getElem?_eq_none (by omega)] at hx; cases hx
        have ho : O[x]? = some O[x] := by simp [hxs]
        have : x ∈ Region.ready .any O listed := mem_ready.2 ⟨hx, _, ho, fun e he hb => by
          have h1 := hlow x _ ho
          unfold lowB at h1
          have h1 := List.all_eq_true.1 h1 e (by simpa using he)
          simp only [hb, Bool.not_true, Bool.false_or] at h1
          have h1 : e.on < x := by simpa using Nat.blt_eq.mp h1
          cases h2 : listed.getD e.on true with
          | false =>
            have := (hl e.on).2 h2
            cases List.mem_cons.1 this with
            | inl e' => omega
            | inr e' =>
              have h5 := ((List.pairwise_cons.1 hs).1 _ e').1
              have ho2 : O[e.on]? = some O[e.on] := by simp [show e.on < O.size by omega]
              unfold pairF at h5
              rw [ho, ho2] at h5
              simp only [Bool.and_eq_true] at h5
              have h6 := List.all_eq_true.1 h5.1 e (by simpa using he)
              simp [hb] at h6
          | true =>
            have h3 : e.on < listed.size := by omega
            simp [h3] at h2 ⊢
            exact h2⟩
        rw [hr] at this
        cases this
    · obtain ⟨hun, oi, hoi, hall⟩ := mem_ready.1 hi
      have himem := (hl i).2 hun
      obtain ⟨pre, post, rfl⟩ := List.append_of_mem himem
      have hiS : i < O.size := (Array.getElem?_eq_some_iff.1 hoi).1
      have hpw := List.pairwise_append.1 hs
      have hb := wpF_bubble hoi hsel hC post pre hg (fun j hj => by
        have hji := (hpw.2.2 j hj i (List.mem_cons_self ..)).1
        unfold pairF at hji
        rw [hoi] at hji
        cases hoj : O[j]? with
        | none => rw [hoj] at hji; cases hji
        | some oj =>
          rw [hoj] at hji
          simp only [Bool.and_eq_true, Bool.or_eq_true] at hji
          rcases hji.2 with h1 | h1
          · have h2 := hm i hiS oi listed hoi hc hall j h1
            have h3 := (hl j).1 (List.mem_append_left _ hj)
            have hjs : j < O.size := (Array.getElem?_eq_some_iff.1 hoj).1
            have h4 : j < listed.size := by omega
            simp [h4] at h2 h3
            rw [h2] at h3; cases h3
          · exact ⟨oj, rfl, h1.1, h1.2⟩) h
      refine wpOp_of_wpF hoi hg hs0 (fun S' hg' h' a' w' hs' => ?_) hb
      have hne : ∀ x ∈ pre ++ post, x ≠ i := fun x hx e => by
        subst e
        rcases List.mem_append.1 hx with h1 | h1
        · exact (hpw.2.2 x h1 x (List.mem_cons_self ..)).2 rfl
        · exact ((List.pairwise_cons.1 hpw.2.1).1 x h1).2 rfl
      refine wpAny_of_wpF hsel hC hlow hm n (pre ++ post) _ S' a' w' (by simp at hn ⊢; omega) ?_ ?_ (by simp [hsz]) ?_ hg' h' hs'
      · exact List.pairwise_append.2 ⟨hpw.1, (List.pairwise_cons.1 hpw.2.1).2, fun x hx y hy => hpw.2.2 x hx y (List.mem_cons_of_mem _ hy)⟩
      · intro x
        by_cases e : i = x
        · subst e
          have h4 : i < listed.size := by omega
          constructor
          · intro hx; exact absurd rfl (hne i hx)
          · intro hx; simp [h4] at hx
        · rw [getD_set_ne true e, ← hl x]
          simp [List.mem_append, List.mem_cons, Ne.symm e]
      · intro j oj hj hlj e he hb'
        by_cases e' : i = j
        · subst e'
          have : oj = oi := Option.some.inj (hj.symm.trans hoi)
          subst this
          exact getD_set_true (hall e he hb')
        · rw [getD_set_ne false e'] at hlj
          exact getD_set_true (hc j oj hj hlj e he hb')

theorem wp_region_f {id : Nat} {l : List Oper} {a : Act} {w : World} (ks σ : List Nat) (hm : P.follows .mixedOrders = true) (hB : regionF l ks σ = true) (hC : ∀ w (cs : List Value) T, C w → C (w.alloc (.cells cs.toArray T))) {S : Asn} (hg : Grows S)
    (hs : S emp a { w with drawn := w.drawn + 1 }) (h : wpF P l.toArray C Q (fun i => ks.getD i 1) σ S) : (Code.region id l.toArray true).wp P Q a w := by
  simp only [regionF, Bool.and_eq_true, List.all_eq_true] at hB
  obtain ⟨⟨⟨⟨b1, b2⟩, b3⟩, b4⟩, b5⟩ := hB
  refine wp_region_any hm ?_
  have hlow : ∀ j o, (l.toArray)[j]? = some o → lowB o j = true := fun j o ho => by simpa using lowsB_spec b2 j o (by simpa using ho)
  have hms := masks_ok l.toArray l 0 [] (by simp) rfl (fun i hi => by omega) (fun j o ho => by have := hlow j o (by simpa using ho); simpa using this) (Nat.zero_le _)
  have hp := ordF_spec b3
  have hnd : σ.Nodup := hp.imp fun h => h.2
  have hmem : ∀ i, i ∈ σ ↔ i < l.length := fun i => ⟨fun hi => Nat.blt_eq.mp (b5 i hi), fun hi => by
    have := b4 i (List.mem_range.2 hi)
    simpa using this⟩
  have hlen : σ.length = l.length := by
    have : σ.Perm (List.range l.length) := (List.perm_ext_iff_of_nodup hnd List.nodup_range).2 (fun i => by rw [hmem, List.mem_range])
    rw [this.length_eq, List.length_range]
  have hw := wpAny_of_wpF (ks := ks) (ms := masks l 0 []) (Region.noSelect_spec b1) hC hlow (fun i hi => by simpa using hms i (by simpa using hi))
    l.toArray.size σ (Array.replicate l.toArray.size false) S a _ (by simp [hlen]) hp ?_ (by simp) (fun j oj hj hlj => ?_) hg h hs
  · exact hw
  · intro i
    rw [hmem]
    by_cases hi : i < l.length
    · simp [hi]
    · simp [hi]
  · have key : ∀ m j : Nat, (Array.replicate m false).getD j false = false := fun m j => by
      rw [Array.getD_eq_getD_getElem?, Array.getElem?_replicate]
      split <;> rfl
    rw [key] at hlj; cases hlj
end
end Go.SLYtkflpgknieoknaa
