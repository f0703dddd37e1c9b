/- Walks of functions, and what they compute. Conditions: none, this text proves no statement. -/
import Derived.Test.YtkflpgknieoknaaProg
import Derived.Test.YtkflpgknieoknaaK5
import Derived.KernelRfl
namespace Go.SLYtkflpgknieoknaa
open Go Go.RowKit Go.Proofs

set_option maxRecDepth 20000 in
theorem CloneI {W : World} {A : HProp} {v : Value} {xs : List Int} (hr : Rd W [A] intE 1 v xs) (hl : xs.length ≤ 1000000000) : Fn Try.prog W 81 [v] [A] Value (fun u => u) (fun _ => True) (fun u => [sl intE 1 u xs, A]) := by
  refine Fn.intro (N := 8) Try.func81 rfl Try.ntmps81 rfl fun F => ?_
  haveI hRI : ∀ (H : List HProp) [HasH H A], ReadsC W H v intE 1 xs := fun H h => ⟨hr.at h.has⟩
  show GoC _ _ _ _ _ _ [A, F]
  refine GoC.seq ?_
  refine GoC.region ?_
  refine GoL.y rfl (Y.assign rfl) ?_
  refine GoL.nil ?_
  refine GoE.then_normal ?_
  refine GoC.seq ?_
  refine GoC.seq ?_
  refine GoC.region ?_
  refine GoL.y rfl (Y.move rfl) ?_
  refine GoL.y rfl (Y.eqSlN Try.underlying23 rfl rfl Rd.s) ?_
  refine GoL.nil ?_
  refine GoE.then_normal ?_
  refine GoC.cond rfl (fun h4 => ?_) (fun h4 => ?_)
  · refine GoC.seq ?_
    refine GoC.region ?_
    refine GoL.y rfl (Y.assign rfl) ?_
    refine GoL.nil ?_
    refine GoE.then_normal ?_
    refine GoC.ret ?_
    refine GoE.then_ret ?_
    refine GoE.know (fun w s => Rd.nilS' Rd.s h4 w s) fun hn => ?_
    subst hn
    refine GoE.to (A := sl intE 1 (.slice none 0 0) ([] : List Int)) (Bs := []) .nil (fun h e => .inl ⟨⟨_, rfl⟩, rfl, e⟩) ?_
    refine GoE.ret1 rfl rfl fun w s => ⟨_, ?_, trivial, finE (by repeat (first | exact Ent.nil | (apply Ent.cons; · repeat (first | exact Take.here | apply Take.there)) | apply Ent.opt0 | apply Ent.opt1 | apply Ent.void | apply Ent.emp0 | apply Ent.two | (apply Ent.allV; · exact sl_void) | (apply Ent.allM; · exact fun _ => sl_void) | apply Ent.f1 rfl | apply Ent.f2 rfl | apply Ent.f3 rfl | apply Ent.f4 rfl | apply Ent.f10 rfl | apply Ent.grp | assumption | exact trivial | rfl | omega)) s⟩
    rfl
  · refine GoC.skip ?_
    refine GoE.then_normal ?_
    refine GoC.seq ?_
    refine GoC.region ?_
    refine GoL.does rfl (Does.bsl 3 rfl rfl (by kernel_rfl)) ?_
    rintro _ _ ⟨b5, rfl, rfl⟩
    refine GoL.y rfl (Y.move rfl) ?_
    refine GoL.to (A := sl intE 1 (.slice (some ⟨b5, 0, none⟩) 0 0) ([] : List Int)) (Bs := []) .nil (fun h e => .inl ⟨⟨_, rfl⟩, rfl, e⟩) ?_
    refine GoL.does rfl (Does.append rfl Try.underlying23 Try.underlying23 Try.typeInfo3 rfl rfl rfl (by decide) rfl rfl (by repeat (first | exact Take.here | apply Take.there)) Rd.s (by simp; omega) (intE_one _)) ?_
    rintro _ _ ⟨v7, rfl, rfl⟩
    refine GoL.y rfl (Y.assign rfl) ?_
    refine GoL.nil ?_
    refine GoE.then_normal ?_
    refine GoC.ret ?_
    refine GoE.ret1 rfl rfl fun w s => ⟨_, ?_, trivial, finE (by repeat (first | exact Ent.nil | (apply Ent.cons; · repeat (first | exact Take.here | apply Take.there)) | apply Ent.opt0 | apply Ent.opt1 | apply Ent.void | apply Ent.emp0 | apply Ent.two | (apply Ent.allV; · exact sl_void) | (apply Ent.allM; · exact fun _ => sl_void) | apply Ent.f1 rfl | apply Ent.f2 rfl | apply Ent.f3 rfl | apply Ent.f4 rfl | apply Ent.f10 rfl | apply Ent.grp | assumption | exact trivial | rfl | omega)) s⟩
    rfl

set_option maxRecDepth 20000 in
theorem ClipI {W : World} {v : Value} {xs : List Int} : Fn Try.prog W 80 [v] [sl intE 1 v xs] Value (fun u => u) (fun _ => True) (fun u => [sl intE 1 u xs]) := by
  refine Fn.intro (N := 9) Try.func80 rfl Try.ntmps80 rfl fun F => ?_
  show GoC _ _ _ _ _ _ [sl intE 1 v xs, F]
  refine GoC.know (fun w s => (Rd.sl (W := W) .here w s).1) fun hr => ?_
  obtain ⟨a, cap, rfl, hle, -⟩ := hr
  refine GoC.seq ?_
  refine GoC.region ?_
  refine GoL.y rfl (Y.assign rfl) ?_
  refine GoL.nil ?_
  refine GoE.then_normal ?_
  refine GoC.seq ?_
  refine GoC.region ?_
  refine GoL.y rfl (Y.move rfl) ?_
  refine GoL.y rfl (Y.move rfl) ?_
  first
    | refine GoL.y rfl (Y.lenRd Try.underlying23 rfl Rd.s) ?_
    | refine GoL.y rfl (Y.lenRd Try.underlying23 rfl ‹_›) ?_
    | refine GoL.y rfl (Y.lenSlice Try.underlying23 rfl) ?_
  refine GoL.y rfl (Y.move rfl) ?_
  first
    | refine GoL.y rfl (Y.lenRd Try.underlying23 rfl Rd.s) ?_
    | refine GoL.y rfl (Y.lenRd Try.underlying23 rfl ‹_›) ?_
    | refine GoL.y rfl (Y.lenSlice Try.underlying23 rfl) ?_
  refine GoL.y rfl (Y.slice03 xs.length xs.length Try.underlying23 Try.sizeOf3 rfl rfl rfl rfl rfl (Nat.le_refl _) hle) ?_
  refine GoL.y rfl (Y.assign rfl) ?_
  refine GoL.nil ?_
  refine GoE.then_normal ?_
  refine GoC.ret ?_
  refine GoE.fx (by repeat (first | exact Take.here | apply Take.there)) sl_clip ?_
  rintro J -
  refine GoE.ret1 rfl rfl fun w s => ⟨_, ?_, trivial, finE (by repeat (first | exact Ent.nil | (apply Ent.cons; · repeat (first | exact Take.here | apply Take.there)) | apply Ent.opt0 | apply Ent.opt1 | apply Ent.void | apply Ent.emp0 | apply Ent.two | (apply Ent.allV; · exact sl_void) | (apply Ent.allM; · exact fun _ => sl_void) | apply Ent.f1 rfl | apply Ent.f2 rfl | apply Ent.f3 rfl | apply Ent.f4 rfl | apply Ent.f10 rfl | apply Ent.grp | assumption | exact trivial | rfl | omega)) s⟩
  rfl

set_option maxRecDepth 20000 in
theorem CloneE {W : World} {A : HProp} {v : Value} {xs : List Ev} (hr : Rd W [A] evE 3 v xs) (hl : xs.length ≤ 1000000000) : Fn Try.prog W 65 [v] [A] Value (fun u => u) (fun _ => True) (fun u => [sl evE 3 u xs, A]) := by
  refine Fn.intro (N := 8) Try.func65 rfl Try.ntmps65 rfl fun F => ?_
  haveI hRI : ∀ (H : List HProp) [HasH H A], ReadsC W H v evE 3 xs := fun H h => ⟨hr.at h.has⟩
  show GoC _ _ _ _ _ _ [A, F]
  refine GoC.seq ?_
  refine GoC.region ?_
  refine GoL.y rfl (Y.assign rfl) ?_
  refine GoL.nil ?_
  refine GoE.then_normal ?_
  refine GoC.seq ?_
  refine GoC.seq ?_
  refine GoC.region ?_
  refine GoL.y rfl (Y.move rfl) ?_
  refine GoL.y rfl (Y.eqSlN Try.underlying79 rfl rfl Rd.s) ?_
  refine GoL.nil ?_
  refine GoE.then_normal ?_
  refine GoC.cond rfl (fun h4 => ?_) (fun h4 => ?_)
  · refine GoC.seq ?_
    refine GoC.region ?_
    refine GoL.y rfl (Y.assign rfl) ?_
    refine GoL.nil ?_
    refine GoE.then_normal ?_
    refine GoC.ret ?_
    refine GoE.then_ret ?_
    refine GoE.know (fun w s => Rd.nilS' Rd.s h4 w s) fun hn => ?_
    subst hn
    refine GoE.to (A := sl evE 3 (.slice none 0 0) ([] : List Ev)) (Bs := []) .nil (fun h e => .inl ⟨⟨_, rfl⟩, rfl, e⟩) ?_
    refine GoE.ret1 rfl rfl fun w s => ⟨_, ?_, trivial, finE (by repeat (first | exact Ent.nil | (apply Ent.cons; · repeat (first | exact Take.here | apply Take.there)) | apply Ent.opt0 | apply Ent.opt1 | apply Ent.void | apply Ent.emp0 | apply Ent.two | (apply Ent.allV; · exact sl_void) | (apply Ent.allM; · exact fun _ => sl_void) | apply Ent.f1 rfl | apply Ent.f2 rfl | apply Ent.f3 rfl | apply Ent.f4 rfl | apply Ent.f10 rfl | apply Ent.grp | assumption | exact trivial | rfl | omega)) s⟩
    rfl
  · refine GoC.skip ?_
    refine GoE.then_normal ?_
    refine GoC.seq ?_
    refine GoC.region ?_
    refine GoL.does rfl (Does.bsl 131 rfl rfl (by kernel_rfl)) ?_
    rintro _ _ ⟨b5, rfl, rfl⟩
    refine GoL.y rfl (Y.move rfl) ?_
    refine GoL.to (A := sl evE 3 (.slice (some ⟨b5, 0, none⟩) 0 0) ([] : List Ev)) (Bs := []) .nil (fun h e => .inl ⟨⟨_, rfl⟩, rfl, e⟩) ?_
    refine GoL.does rfl (Does.append rfl Try.underlying79 Try.underlying79 Try.typeInfo131 rfl rfl rfl (by decide) rfl rfl (by repeat (first | exact Take.here | apply Take.there)) Rd.s (by simp; omega) (evE_one _)) ?_
    rintro _ _ ⟨v7, rfl, rfl⟩
    refine GoL.y rfl (Y.assign rfl) ?_
    refine GoL.nil ?_
    refine GoE.then_normal ?_
    refine GoC.ret ?_
    refine GoE.ret1 rfl rfl fun w s => ⟨_, ?_, trivial, finE (by repeat (first | exact Ent.nil | (apply Ent.cons; · repeat (first | exact Take.here | apply Take.there)) | apply Ent.opt0 | apply Ent.opt1 | apply Ent.void | apply Ent.emp0 | apply Ent.two | (apply Ent.allV; · exact sl_void) | (apply Ent.allM; · exact fun _ => sl_void) | apply Ent.f1 rfl | apply Ent.f2 rfl | apply Ent.f3 rfl | apply Ent.f4 rfl | apply Ent.f10 rfl | apply Ent.grp | assumption | exact trivial | rfl | omega)) s⟩
    rfl

set_option maxRecDepth 20000 in
theorem ClipE {W : World} {v : Value} {xs : List Ev} : Fn Try.prog W 64 [v] [sl evE 3 v xs] Value (fun u => u) (fun _ => True) (fun u => [sl evE 3 u xs]) := by
  refine Fn.intro (N := 9) Try.func64 rfl Try.ntmps64 rfl fun F => ?_
  show GoC _ _ _ _ _ _ [sl evE 3 v xs, F]
  refine GoC.know (fun w s => (Rd.sl (W := W) .here w s).1) fun hr => ?_
  obtain ⟨a, cap, rfl, hle, -⟩ := hr
  refine GoC.seq ?_
  refine GoC.region ?_
  refine GoL.y rfl (Y.assign rfl) ?_
  refine GoL.nil ?_
  refine GoE.then_normal ?_
  refine GoC.seq ?_
  refine GoC.region ?_
  refine GoL.y rfl (Y.move rfl) ?_
  refine GoL.y rfl (Y.move rfl) ?_
  first
    | refine GoL.y rfl (Y.lenRd Try.underlying79 rfl Rd.s) ?_
    | refine GoL.y rfl (Y.lenRd Try.underlying79 rfl ‹_›) ?_
    | refine GoL.y rfl (Y.lenSlice Try.underlying79 rfl) ?_
  refine GoL.y rfl (Y.move rfl) ?_
  first
    | refine GoL.y rfl (Y.lenRd Try.underlying79 rfl Rd.s) ?_
    | refine GoL.y rfl (Y.lenRd Try.underlying79 rfl ‹_›) ?_
    | refine GoL.y rfl (Y.lenSlice Try.underlying79 rfl) ?_
  refine GoL.y rfl (Y.slice03 xs.length xs.length Try.underlying79 Try.sizeOf131 rfl rfl rfl rfl rfl (Nat.le_refl _) hle) ?_
  refine GoL.y rfl (Y.assign rfl) ?_
  refine GoL.nil ?_
  refine GoE.then_normal ?_
  refine GoC.ret ?_
  refine GoE.fx (by repeat (first | exact Take.here | apply Take.there)) sl_clip ?_
  rintro J -
  refine GoE.ret1 rfl rfl fun w s => ⟨_, ?_, trivial, finE (by repeat (first | exact Ent.nil | (apply Ent.cons; · repeat (first | exact Take.here | apply Take.there)) | apply Ent.opt0 | apply Ent.opt1 | apply Ent.void | apply Ent.emp0 | apply Ent.two | (apply Ent.allV; · exact sl_void) | (apply Ent.allM; · exact fun _ => sl_void) | apply Ent.f1 rfl | apply Ent.f2 rfl | apply Ent.f3 rfl | apply Ent.f4 rfl | apply Ent.f10 rfl | apply Ent.grp | assumption | exact trivial | rfl | omega)) s⟩
  rfl

set_option maxRecDepth 20000 in
theorem CloneN {W : World} {A : HProp} {v : Value} {xs : List Ins} (hr : Rd W [A] insE 5 v xs) (hl : xs.length ≤ 1000000000) : Fn Try.prog W 49 [v] [A] Value (fun u => u) (fun _ => True) (fun u => [sl insE 5 u xs, A]) := by
  refine Fn.intro (N := 8) Try.func49 rfl Try.ntmps49 rfl fun F => ?_
  haveI hRI : ∀ (H : List HProp) [HasH H A], ReadsC W H v insE 5 xs := fun H h => ⟨hr.at h.has⟩
  show GoC _ _ _ _ _ _ [A, F]
  refine GoC.seq ?_
  refine GoC.region ?_
  refine GoL.y rfl (Y.assign rfl) ?_
  refine GoL.nil ?_
  refine GoE.then_normal ?_
  refine GoC.seq ?_
  refine GoC.seq ?_
  refine GoC.region ?_
  refine GoL.y rfl (Y.move rfl) ?_
  refine GoL.y rfl (Y.eqSlN Try.underlying56 rfl rfl Rd.s) ?_
  refine GoL.nil ?_
  refine GoE.then_normal ?_
  refine GoC.cond rfl (fun h4 => ?_) (fun h4 => ?_)
  · refine GoC.seq ?_
    refine GoC.region ?_
    refine GoL.y rfl (Y.assign rfl) ?_
    refine GoL.nil ?_
    refine GoE.then_normal ?_
    refine GoC.ret ?_
    refine GoE.then_ret ?_
    refine GoE.know (fun w s => Rd.nilS' Rd.s h4 w s) fun hn => ?_
    subst hn
    refine GoE.to (A := sl insE 5 (.slice none 0 0) ([] : List Ins)) (Bs := []) .nil (fun h e => .inl ⟨⟨_, rfl⟩, rfl, e⟩) ?_
    refine GoE.ret1 rfl rfl fun w s => ⟨_, ?_, trivial, finE (by repeat (first | exact Ent.nil | (apply Ent.cons; · repeat (first | exact Take.here | apply Take.there)) | apply Ent.opt0 | apply Ent.opt1 | apply Ent.void | apply Ent.emp0 | apply Ent.two | (apply Ent.allV; · exact sl_void) | (apply Ent.allM; · exact fun _ => sl_void) | apply Ent.f1 rfl | apply Ent.f2 rfl | apply Ent.f3 rfl | apply Ent.f4 rfl | apply Ent.f10 rfl | apply Ent.grp | assumption | exact trivial | rfl | omega)) s⟩
    rfl
  · refine GoC.skip ?_
    refine GoE.then_normal ?_
    refine GoC.seq ?_
    refine GoC.region ?_
    refine GoL.does rfl (Does.bsl 55 rfl rfl (by kernel_rfl)) ?_
    rintro _ _ ⟨b5, rfl, rfl⟩
    refine GoL.y rfl (Y.move rfl) ?_
    refine GoL.to (A := sl insE 5 (.slice (some ⟨b5, 0, none⟩) 0 0) ([] : List Ins)) (Bs := []) .nil (fun h e => .inl ⟨⟨_, rfl⟩, rfl, e⟩) ?_
    refine GoL.does rfl (Does.append rfl Try.underlying56 Try.underlying56 Try.typeInfo55 rfl rfl rfl (by decide) rfl rfl (by repeat (first | exact Take.here | apply Take.there)) Rd.s (by simp; omega) (insE_one _)) ?_
    rintro _ _ ⟨v7, rfl, rfl⟩
    refine GoL.y rfl (Y.assign rfl) ?_
    refine GoL.nil ?_
    refine GoE.then_normal ?_
    refine GoC.ret ?_
    refine GoE.ret1 rfl rfl fun w s => ⟨_, ?_, trivial, finE (by repeat (first | exact Ent.nil | (apply Ent.cons; · repeat (first | exact Take.here | apply Take.there)) | apply Ent.opt0 | apply Ent.opt1 | apply Ent.void | apply Ent.emp0 | apply Ent.two | (apply Ent.allV; · exact sl_void) | (apply Ent.allM; · exact fun _ => sl_void) | apply Ent.f1 rfl | apply Ent.f2 rfl | apply Ent.f3 rfl | apply Ent.f4 rfl | apply Ent.f10 rfl | apply Ent.grp | assumption | exact trivial | rfl | omega)) s⟩
    rfl

set_option maxRecDepth 20000 in
theorem CloneNN {W : World} {A : HProp} {v : Value} {xs : List (Value × List Ins)} (hr : Rd W [A] fstE 1 v xs) (hl : xs.length ≤ 1000000000) (hone : ∀ y ∈ xs, ∀ c ∈ fstE y, c.oneCell' = true) : Fn Try.prog W 48 [v] [A] Value (fun u => u) (fun _ => True) (fun u => [sl fstE 1 u xs, A]) := by
  refine Fn.intro (N := 8) Try.func48 rfl Try.ntmps48 rfl fun F => ?_
  haveI hRI : ∀ (H : List HProp) [HasH H A], ReadsC W H v fstE 1 xs := fun H h => ⟨hr.at h.has⟩
  show GoC _ _ _ _ _ _ [A, F]
  refine GoC.seq ?_
  refine GoC.region ?_
  refine GoL.y rfl (Y.assign rfl) ?_
  refine GoL.nil ?_
  refine GoE.then_normal ?_
  refine GoC.seq ?_
  refine GoC.seq ?_
  refine GoC.region ?_
  refine GoL.y rfl (Y.move rfl) ?_
  refine GoL.y rfl (Y.eqSlN Try.underlying45 rfl rfl Rd.s) ?_
  refine GoL.nil ?_
  refine GoE.then_normal ?_
  refine GoC.cond rfl (fun h4 => ?_) (fun h4 => ?_)
  · refine GoC.seq ?_
    refine GoC.region ?_
    refine GoL.y rfl (Y.assign rfl) ?_
    refine GoL.nil ?_
    refine GoE.then_normal ?_
    refine GoC.ret ?_
    refine GoE.then_ret ?_
    refine GoE.know (fun w s => Rd.nilS' Rd.s h4 w s) fun hn => ?_
    subst hn
    refine GoE.to (A := sl fstE 1 (.slice none 0 0) ([] : List (Value × List Ins))) (Bs := []) .nil (fun h e => .inl ⟨⟨_, rfl⟩, rfl, e⟩) ?_
    refine GoE.ret1 rfl rfl fun w s => ⟨_, ?_, trivial, finE (by repeat (first | exact Ent.nil | (apply Ent.cons; · repeat (first | exact Take.here | apply Take.there)) | apply Ent.opt0 | apply Ent.opt1 | apply Ent.void | apply Ent.emp0 | apply Ent.two | (apply Ent.allV; · exact sl_void) | (apply Ent.allM; · exact fun _ => sl_void) | apply Ent.f1 rfl | apply Ent.f2 rfl | apply Ent.f3 rfl | apply Ent.f4 rfl | apply Ent.f10 rfl | apply Ent.grp | assumption | exact trivial | rfl | omega)) s⟩
    rfl
  · refine GoC.skip ?_
    refine GoE.then_normal ?_
    refine GoC.seq ?_
    refine GoC.region ?_
    refine GoL.does rfl (Does.bsl 56 rfl rfl (by kernel_rfl)) ?_
    rintro _ _ ⟨b5, rfl, rfl⟩
    refine GoL.y rfl (Y.move rfl) ?_
    refine GoL.to (A := sl fstE 1 (.slice (some ⟨b5, 0, none⟩) 0 0) ([] : List (Value × List Ins))) (Bs := []) .nil (fun h e => .inl ⟨⟨_, rfl⟩, rfl, e⟩) ?_
    refine GoL.does rfl (Does.append rfl Try.underlying45 Try.underlying45 Try.typeInfo56 rfl rfl rfl (by decide) rfl rfl (by repeat (first | exact Take.here | apply Take.there)) Rd.s (by simp; omega) hone) ?_
    rintro _ _ ⟨v7, rfl, rfl⟩
    refine GoL.y rfl (Y.assign rfl) ?_
    refine GoL.nil ?_
    refine GoE.then_normal ?_
    refine GoC.ret ?_
    refine GoE.ret1 rfl rfl fun w s => ⟨_, ?_, trivial, finE (by repeat (first | exact Ent.nil | (apply Ent.cons; · repeat (first | exact Take.here | apply Take.there)) | apply Ent.opt0 | apply Ent.opt1 | apply Ent.void | apply Ent.emp0 | apply Ent.two | (apply Ent.allV; · exact sl_void) | (apply Ent.allM; · exact fun _ => sl_void) | apply Ent.f1 rfl | apply Ent.f2 rfl | apply Ent.f3 rfl | apply Ent.f4 rfl | apply Ent.f10 rfl | apply Ent.grp | assumption | exact trivial | rfl | omega)) s⟩
    rfl

set_option maxRecDepth 20000 in
theorem IndexI {W : World} {A : HProp} {v : Value} {xs : List Int} {x : Int} (hr : Rd W [A] intE 1 v xs) (hl : xs.length ≤ 1000000000) : Fn Try.prog W 66 [v, .int .i64 x] [A] Unit (fun _ => .int .i64 (idxOf x xs)) (fun _ => True) (fun _ => [A]) := by
  refine Fn.intro (N := 19) Try.func66 rfl Try.ntmps66 rfl fun F => ?_
  haveI hRI : ∀ (H : List HProp) [HasH H A], ReadsC W H v intE 1 xs := fun H h => ⟨hr.at h.has⟩
  show GoC _ _ _ _ _ _ [A, F]
  refine GoC.seq ?_
  refine GoC.region ?_
  refine GoL.y rfl (Y.assign rfl) ?_
  refine GoL.nil ?_
  refine GoE.then_normal ?_
  refine GoC.seq ?_
  refine GoC.seq ?_
  refine GoC.region ?_
  refine GoL.y rfl (Y.move rfl) ?_
  first
    | refine GoL.y rfl (Y.lenRd Try.underlying23 rfl Rd.s) ?_
    | refine GoL.y rfl (Y.lenRd Try.underlying23 rfl ‹_›) ?_
    | refine GoL.y rfl (Y.lenSlice Try.underlying23 rfl) ?_
  refine GoL.y rfl (Y.move rfl) ?_
  refine GoL.nil ?_
  refine GoE.then_normal ?_
  refine GoC.block ?_
  refine GoC.loopK (X := Nat) [4, 5, 8, 9, 10, 11, 12, 13, 14, 15, 16, 17, 18] (fun k => xs.length - k) (fun k => k ≤ xs.length ∧ idxOf x xs = idxFrom x (xs.drop k) k) (fun k => [(8, some (.int .i64 (k : Int)))]) (fun k => [A, F]) 0 ?_ ?_ ?_ ?_
  · exact ⟨Nat.zero_le _, by simp [idxOf]⟩
  · exact ⟨rfl, trivial⟩
  · exact fun w s => Ent.kept (by repeat (first | exact Ent.nil | (apply Ent.cons; · repeat (first | exact Take.here | apply Take.there)) | apply Ent.opt0 | apply Ent.opt1 | apply Ent.void | apply Ent.emp0 | apply Ent.two | (apply Ent.allV; · exact sl_void) | (apply Ent.allM; · exact fun _ => sl_void) | apply Ent.f1 rfl | apply Ent.f2 rfl | apply Ent.f3 rfl | apply Ent.f4 rfl | apply Ent.f10 rfl | apply Ent.grp | assumption | exact trivial | rfl | omega)) w s
  rintro k ⟨hk, hn⟩
  refine GoC.seq ?_
  refine GoC.region ?_
  refine GoL.y rfl (Y.lss rfl rfl) ?_
  refine GoL.nil ?_
  refine GoE.then_normal ?_
  refine GoC.seq ?_
  refine GoC.condD rfl (fun h9 => ?_) (fun h9 => ?_)
  · refine GoC.skip ?_
    refine GoE.then_normal ?_
    refine GoC.seq ?_
    refine GoC.block ?_
    refine GoC.seq ?_
    refine GoC.region ?_
    refine GoL.y rfl (Y.move rfl) ?_
    refine GoL.y rfl (Y.assign rfl) ?_
    refine GoL.nil ?_
    refine GoE.then_normal ?_
    refine GoC.seq ?_
    refine GoC.region ?_
    refine GoL.y rfl (Y.move rfl) ?_
    refine GoL.y rfl (Y.move rfl) ?_
    refine GoL.y rfl (Y.move rfl) ?_
    obtain ⟨y, hy⟩ := at_some (show k < xs.length by omega)
    first
      | refine GoL.y rfl (Y.ixRd _ Try.underlying23 Try.sizeOf3 rfl rfl Rd.s rfl (by first | omega | decide)) ?_
      | refine GoL.y rfl (Y.ixRd _ Try.underlying23 Try.sizeOf3 rfl rfl ‹_› rfl (by first | omega | decide)) ?_
    first
      | refine GoL.y rfl (Y.load Try.isAgg3 rfl (Cell.a (by rfl))) ?_
      | refine GoL.y rfl (Y.load Try.isAgg3 rfl (Cell.rd0 Rd.s ‹_› (by rfl))) ?_
      | refine GoL.y rfl (Y.load Try.isAgg3 rfl (Cell.rd Rd.s ‹_› (by rfl))) ?_
      | refine GoL.y rfl (Y.load Try.isAgg3 rfl (Cell.ao (by rfl))) ?_
      | refine GoL.y rfl (Y.load Try.isAgg3 rfl (Cell.az (by rfl))) ?_
      | refine GoL.y rfl (Y.load Try.isAgg3 rfl (Cell.a ‹_›)) ?_
      | refine GoL.y rfl (Y.load Try.isAgg3 rfl (Cell.rd0 ‹_› ‹_› (by rfl))) ?_
      | refine GoL.y rfl (Y.load Try.isAgg3 rfl (Cell.rd ‹_› ‹_› (by rfl))) ?_
    refine GoL.y rfl (Y.eql rfl rfl) ?_
    refine GoL.nil ?_
    refine GoE.then_normal ?_
    refine GoC.condD rfl (fun h => ?_) (fun h => ?_)
    · refine GoC.seq ?_
      refine GoC.region ?_
      refine GoL.y rfl (Y.move rfl) ?_
      refine GoL.y rfl (Y.assign rfl) ?_
      refine GoL.nil ?_
      refine GoE.then_normal ?_
      refine GoC.ret ?_
      refine GoE.block_ret (GoE.then_ret (GoE.then_ret (GoE.block_ret (GoE.then_ret ?_))))
      refine GoE.ret1 rfl rfl fun w s => ⟨(), ?_, trivial, finE (by repeat (first | exact Ent.nil | (apply Ent.cons; · repeat (first | exact Take.here | apply Take.there)) | apply Ent.opt0 | apply Ent.opt1 | apply Ent.void | apply Ent.emp0 | apply Ent.two | (apply Ent.allV; · exact sl_void) | (apply Ent.allM; · exact fun _ => sl_void) | apply Ent.f1 rfl | apply Ent.f2 rfl | apply Ent.f3 rfl | apply Ent.f4 rfl | apply Ent.f10 rfl | apply Ent.grp | assumption | exact trivial | rfl | omega)) s⟩
      rw [hn, idx_hit hy h]
    · refine GoC.skip ?_
      refine GoE.block_normal (GoE.then_normal ?_)
      refine GoC.region ?_
      first
        | refine GoL.y rfl (Y.inc rfl rfl (by omega)) ?_
        | refine GoL.y rfl (Y.add rfl rfl (by omega)) ?_
      refine GoL.y rfl (Y.move rfl) ?_
      refine GoL.nil ?_
      refine GoE.againK (k + 1) (by repeat (first | exact Top.base | refine Top.cons rfl ?_)) rfl ?_ ?_ ?_ ?_
      · first | omega | (dsimp only; omega)
      · exact ⟨by omega, hn.trans (idx_miss hy h)⟩
      · exact ⟨rfl, trivial⟩
      · exact fun w s => Ent.kept (by repeat (first | exact Ent.nil | (apply Ent.cons; · repeat (first | exact Take.here | apply Take.there)) | apply Ent.opt0 | apply Ent.opt1 | apply Ent.void | apply Ent.emp0 | apply Ent.two | (apply Ent.allV; · exact sl_void) | (apply Ent.allM; · exact fun _ => sl_void) | apply Ent.f1 rfl | apply Ent.f2 rfl | apply Ent.f3 rfl | apply Ent.f4 rfl | apply Ent.f10 rfl | apply Ent.grp | assumption | exact trivial | rfl | omega)) w s
  · refine GoC.exit ?_
    refine GoE.then_exit (GoE.then_exit (GoE.block_here (GoE.then_normal ?_)))
    refine GoC.seq ?_
    refine GoC.region ?_
    refine GoL.y rfl (Y.assign rfl) ?_
    refine GoL.nil ?_
    refine GoE.then_normal ?_
    refine GoC.ret ?_
    refine GoE.ret1 rfl rfl fun w s => ⟨(), ?_, trivial, finE (by repeat (first | exact Ent.nil | (apply Ent.cons; · repeat (first | exact Take.here | apply Take.there)) | apply Ent.opt0 | apply Ent.opt1 | apply Ent.void | apply Ent.emp0 | apply Ent.two | (apply Ent.allV; · exact sl_void) | (apply Ent.allM; · exact fun _ => sl_void) | apply Ent.f1 rfl | apply Ent.f2 rfl | apply Ent.f3 rfl | apply Ent.f4 rfl | apply Ent.f10 rfl | apply Ent.grp | assumption | exact trivial | rfl | omega)) s⟩
    rw [hn, idx_end (by omega)]

set_option maxRecDepth 20000 in
theorem ContainsI {W : World} {A : HProp} {v : Value} {xs : List Int} {x : Int} (hr : Rd W [A] intE 1 v xs) (hl : xs.length ≤ 1000000000) : Fn Try.prog W 40 [v, .int .i64 x] [A] Unit (fun _ => .bool (xs.contains x)) (fun _ => True) (fun _ => [A]) := by
  refine Fn.intro (N := 9) Try.func40 rfl Try.ntmps40 rfl fun F => ?_
  show GoC _ _ _ _ _ _ [A, F]
  refine GoC.seq ?_
  refine GoC.region ?_
  refine GoL.y rfl (Y.assign rfl) ?_
  refine GoL.nil ?_
  refine GoE.then_normal ?_
  refine GoC.seq ?_
  refine GoC.region ?_
  refine GoL.y rfl (Y.move rfl) ?_
  refine GoL.y rfl (Y.move rfl) ?_
  refine GoL.does rfl (Does.callE rfl Try.call66 rfl (IndexI hr hl) (by repeat (first | exact Ent.nil | (apply Ent.cons; · repeat (first | exact Take.here | apply Take.there)) | apply Ent.opt0 | apply Ent.opt1 | apply Ent.void | apply Ent.emp0 | apply Ent.two | (apply Ent.allV; · exact sl_void) | (apply Ent.allM; · exact fun _ => sl_void) | apply Ent.f1 rfl | apply Ent.f2 rfl | apply Ent.f3 rfl | apply Ent.f4 rfl | apply Ent.f10 rfl | apply Ent.grp | assumption | exact trivial | rfl | omega))) ?_
  rintro _ _ ⟨⟨⟩, -, rfl, rfl⟩
  refine GoL.y rfl (Y.geq rfl rfl) ?_
  refine GoL.y rfl (Y.assign rfl) ?_
  refine GoL.nil ?_
  refine GoE.then_normal ?_
  refine GoC.ret ?_
  refine GoE.ret1 rfl rfl fun w s => ⟨(), ?_, trivial, finE (by repeat (first | exact Ent.nil | (apply Ent.cons; · repeat (first | exact Take.here | apply Take.there)) | apply Ent.opt0 | apply Ent.opt1 | apply Ent.void | apply Ent.emp0 | apply Ent.two | (apply Ent.allV; · exact sl_void) | (apply Ent.allM; · exact fun _ => sl_void) | apply Ent.f1 rfl | apply Ent.f2 rfl | apply Ent.f3 rfl | apply Ent.f4 rfl | apply Ent.f10 rfl | apply Ent.grp | assumption | exact trivial | rfl | omega)) s⟩
  rw [idxOf, idx_contains]

set_option maxRecDepth 20000 in
theorem MinI {W : World} {A : HProp} {v : Value} {xs : List Int} (hr : Rd W [A] intE 1 v xs) (hl : xs.length ≤ 1000000000) (h0 : 0 < xs.length) : Fn Try.prog W 24 [v] [A] Unit (fun _ => .int .i64 (minOf xs)) (fun _ => True) (fun _ => [A]) := by
  refine Fn.intro (N := 25) Try.func24 rfl Try.ntmps24 rfl fun F => ?_
  haveI hRI : ∀ (H : List HProp) [HasH H A], ReadsC W H v intE 1 xs := fun H h => ⟨hr.at h.has⟩
  obtain ⟨y0, ys, rfl⟩ : ∃ y ys, xs = y :: ys := by cases xs with | nil => simp at h0 | cons y ys => exact ⟨y, ys, rfl⟩
  show GoC _ _ _ _ _ _ [A, F]
  refine GoC.seq ?_
  refine GoC.region ?_
  refine GoL.y rfl (Y.assign rfl) ?_
  refine GoL.nil ?_
  refine GoE.then_normal ?_
  refine GoC.seq ?_
  refine GoC.seq ?_
  refine GoC.region ?_
  refine GoL.y rfl (Y.move rfl) ?_
  first
    | refine GoL.y rfl (Y.lenRd Try.underlying23 rfl Rd.s) ?_
    | refine GoL.y rfl (Y.lenRd Try.underlying23 rfl ‹_›) ?_
    | refine GoL.y rfl (Y.lenSlice Try.underlying23 rfl) ?_
  refine GoL.y rfl (Y.lss rfl rfl) ?_
  refine GoL.nil ?_
  refine GoE.then_normal ?_
  refine GoC.condD rfl (fun h7 => ?_) (fun h7 => ?_)
  · exact absurd h7 (by simp; omega)
  · refine GoC.skip ?_
    refine GoE.then_normal ?_
    refine GoC.seq ?_
    refine GoC.region ?_
    refine GoL.y rfl (Y.move rfl) ?_
    have hy0 : (y0 :: ys)[0]? = some y0 := rfl
    refine GoL.y rfl (Y.ixRd 0 Try.underlying23 Try.sizeOf3 rfl rfl Rd.s rfl (by simp)) ?_
    first
      | refine GoL.y rfl (Y.load Try.isAgg3 rfl (Cell.a (by rfl))) ?_
      | refine GoL.y rfl (Y.load Try.isAgg3 rfl (Cell.rd0 Rd.s ‹_› (by rfl))) ?_
      | refine GoL.y rfl (Y.load Try.isAgg3 rfl (Cell.rd Rd.s ‹_› (by rfl))) ?_
      | refine GoL.y rfl (Y.load Try.isAgg3 rfl (Cell.ao (by rfl))) ?_
      | refine GoL.y rfl (Y.load Try.isAgg3 rfl (Cell.az (by rfl))) ?_
      | refine GoL.y rfl (Y.load Try.isAgg3 rfl (Cell.a ‹_›)) ?_
      | refine GoL.y rfl (Y.load Try.isAgg3 rfl (Cell.rd0 ‹_› ‹_› (by rfl))) ?_
      | refine GoL.y rfl (Y.load Try.isAgg3 rfl (Cell.rd ‹_› ‹_› (by rfl))) ?_
    refine GoL.y rfl (Y.assign rfl) ?_
    refine GoL.nil ?_
    refine GoE.then_normal ?_
    refine GoC.seq ?_
    refine GoC.seq ?_
    refine GoC.region ?_
    refine GoL.y rfl (Y.assign rfl) ?_
    refine GoL.nil ?_
    refine GoE.then_normal ?_
    refine GoC.block ?_
    refine GoC.loopK (X := Nat) [3, 4, 12, 13, 14, 15, 16, 17, 18, 19, 20, 21, 22, 23] (fun k => ys.length - k) (fun k => k ≤ ys.length) (fun k => [(4, some (.int .i64 ((k + 1 : Nat) : Int))), (3, some (.int .i64 ((ys.take k).foldl min y0)))]) (fun k => [A, F]) 0 ?_ ?_ ?_ ?_
    · exact Nat.zero_le _
    · exact ⟨rfl, rfl, trivial⟩
    · exact fun w s => Ent.kept (by repeat (first | exact Ent.nil | (apply Ent.cons; · repeat (first | exact Take.here | apply Take.there)) | apply Ent.opt0 | apply Ent.opt1 | apply Ent.void | apply Ent.emp0 | apply Ent.two | (apply Ent.allV; · exact sl_void) | (apply Ent.allM; · exact fun _ => sl_void) | apply Ent.f1 rfl | apply Ent.f2 rfl | apply Ent.f3 rfl | apply Ent.f4 rfl | apply Ent.f10 rfl | apply Ent.grp | assumption | exact trivial | rfl | omega)) w s
    rintro k hk
    refine GoC.seq ?_
    refine GoC.seq ?_
    refine GoC.region ?_
    refine GoL.y rfl (Y.move rfl) ?_
    refine GoL.y rfl (Y.move rfl) ?_
    first
      | refine GoL.y rfl (Y.lenRd Try.underlying23 rfl Rd.s) ?_
      | refine GoL.y rfl (Y.lenRd Try.underlying23 rfl ‹_›) ?_
      | refine GoL.y rfl (Y.lenSlice Try.underlying23 rfl) ?_
    refine GoL.y rfl (Y.lss rfl rfl) ?_
    refine GoL.nil ?_
    refine GoE.then_normal ?_
    refine GoC.condD rfl (fun h15 => ?_) (fun h15 => ?_)
    · refine GoC.skip ?_
      refine GoE.then_normal ?_
      refine GoC.seq ?_
      refine GoC.block ?_
      refine GoC.region ?_
      refine GoL.y rfl (Y.move rfl) ?_
      refine GoL.y rfl (Y.move rfl) ?_
      refine GoL.y rfl (Y.move rfl) ?_
      obtain ⟨y, hy⟩ := at_some (show k + 1 < (y0 :: ys).length by omega)
      first
        | refine GoL.y rfl (Y.ixRd _ Try.underlying23 Try.sizeOf3 rfl rfl Rd.s rfl (by first | omega | decide)) ?_
        | refine GoL.y rfl (Y.ixRd _ Try.underlying23 Try.sizeOf3 rfl rfl ‹_› rfl (by first | omega | decide)) ?_
      first
        | refine GoL.y rfl (Y.load Try.isAgg3 rfl (Cell.a (by rfl))) ?_
        | refine GoL.y rfl (Y.load Try.isAgg3 rfl (Cell.rd0 Rd.s ‹_› (by rfl))) ?_
        | refine GoL.y rfl (Y.load Try.isAgg3 rfl (Cell.rd Rd.s ‹_› (by rfl))) ?_
        | refine GoL.y rfl (Y.load Try.isAgg3 rfl (Cell.ao (by rfl))) ?_
        | refine GoL.y rfl (Y.load Try.isAgg3 rfl (Cell.az (by rfl))) ?_
        | refine GoL.y rfl (Y.load Try.isAgg3 rfl (Cell.a ‹_›)) ?_
        | refine GoL.y rfl (Y.load Try.isAgg3 rfl (Cell.rd0 ‹_› ‹_› (by rfl))) ?_
        | refine GoL.y rfl (Y.load Try.isAgg3 rfl (Cell.rd ‹_› ‹_› (by rfl))) ?_
      refine GoL.y rfl (Y.min2m rfl rfl) ?_
      refine GoL.y rfl (Y.assign rfl) ?_
      refine GoL.nil ?_
      refine GoE.block_normal (GoE.then_normal ?_)
      refine GoC.region ?_
      refine GoL.y rfl (Y.move rfl) ?_
      first
        | refine GoL.y rfl (Y.inc rfl rfl (by omega)) ?_
        | refine GoL.y rfl (Y.add rfl rfl (by omega)) ?_
      refine GoL.y rfl (Y.assign rfl) ?_
      refine GoL.nil ?_
      refine GoE.againK (k + 1) (by repeat (first | exact Top.base | refine Top.cons rfl ?_)) rfl ?_ ?_ ?_ ?_
      · simp only [List.length_cons] at h15; omega
      · simp only [List.length_cons] at h15; omega
      · refine ⟨rfl, ?_, trivial⟩
        have : ys[k]? = some y := by simpa using hy
        rw [take_snoc this, List.foldl_append]; rfl
      · exact fun w s => Ent.kept (by repeat (first | exact Ent.nil | (apply Ent.cons; · repeat (first | exact Take.here | apply Take.there)) | apply Ent.opt0 | apply Ent.opt1 | apply Ent.void | apply Ent.emp0 | apply Ent.two | (apply Ent.allV; · exact sl_void) | (apply Ent.allM; · exact fun _ => sl_void) | apply Ent.f1 rfl | apply Ent.f2 rfl | apply Ent.f3 rfl | apply Ent.f4 rfl | apply Ent.f10 rfl | apply Ent.grp | assumption | exact trivial | rfl | omega)) w s
    · refine GoC.exit ?_
      refine GoE.then_exit (GoE.then_exit (GoE.block_here (GoE.then_normal ?_)))
      refine GoC.seq ?_
      refine GoC.region ?_
      refine GoL.y rfl (Y.move rfl) ?_
      refine GoL.y rfl (Y.assign rfl) ?_
      refine GoL.nil ?_
      refine GoE.then_normal ?_
      refine GoC.ret ?_
      obtain rfl : k = ys.length := by simp only [List.length_cons] at h15; omega
      refine GoE.ret1 rfl rfl fun w s => ⟨(), ?_, trivial, finE (by repeat (first | exact Ent.nil | (apply Ent.cons; · repeat (first | exact Take.here | apply Take.there)) | apply Ent.opt0 | apply Ent.opt1 | apply Ent.void | apply Ent.emp0 | apply Ent.two | (apply Ent.allV; · exact sl_void) | (apply Ent.allM; · exact fun _ => sl_void) | apply Ent.f1 rfl | apply Ent.f2 rfl | apply Ent.f3 rfl | apply Ent.f4 rfl | apply Ent.f10 rfl | apply Ent.grp | assumption | exact trivial | rfl | omega)) s⟩
      rw [List.take_length]; rfl

set_option maxRecDepth 20000 in
theorem GrowE {W : World} {n : Nat} (hn : n ≤ 1000000000) : Fn Try.prog W 92 [.slice none 0 0, .int .i64 (n : Int)] [] Value (fun u => u) (fun _ => True) (fun u => [sl evE 3 u ([] : List Ev)]) := by
  refine Fn.intro (N := 27) Try.func92 rfl Try.ntmps92 rfl fun F => ?_
  show GoC _ _ _ _ _ _ [F]
  refine GoC.seq ?_
  refine GoC.region ?_
  refine GoL.y rfl (Y.assign rfl) ?_
  refine GoL.nil ?_
  refine GoE.then_normal ?_
  refine GoC.seq ?_
  refine GoC.seq ?_
  refine GoC.region ?_
  refine GoL.y rfl (Y.move rfl) ?_
  refine GoL.y rfl (Y.lss rfl rfl) ?_
  refine GoL.nil ?_
  refine GoE.then_normal ?_
  refine GoC.condD rfl (fun h6 => ?_) (fun h6 => ?_)
  · omega
  · refine GoC.skip ?_
    refine GoE.then_normal ?_
    refine GoC.seq ?_
    refine GoC.seq ?_
    refine GoC.region ?_
    refine GoL.y rfl (Y.move rfl) ?_
    refine GoL.y rfl (Y.move rfl) ?_
    refine GoL.y rfl (Y.capSlice Try.underlying79 rfl) ?_
    refine GoL.y rfl (Y.move rfl) ?_
    first
      | refine GoL.y rfl (Y.lenRd Try.underlying79 rfl Rd.s) ?_
      | refine GoL.y rfl (Y.lenRd Try.underlying79 rfl ‹_›) ?_
      | refine GoL.y rfl (Y.lenSlice Try.underlying79 rfl) ?_
    refine GoL.y rfl (Y.sub rfl rfl (by omega)) ?_
    refine GoL.y rfl (Y.sub rfl rfl (by omega)) ?_
    refine GoL.y rfl (Y.assign rfl) ?_
    refine GoL.nil ?_
    refine GoE.then_normal ?_
    refine GoC.seq ?_
    refine GoC.region ?_
    refine GoL.y rfl (Y.move rfl) ?_
    refine GoL.y rfl (Y.gtr rfl rfl) ?_
    refine GoL.nil ?_
    refine GoE.then_normal ?_
    refine GoC.condD rfl (fun h16 => ?_) (fun h16 => ?_)
    · refine GoC.region ?_
      refine GoL.y rfl (Y.move rfl) ?_
      refine GoL.y rfl (Y.move rfl) ?_
      refine GoL.y rfl (Y.capSlice Try.underlying79 rfl) ?_
      refine GoL.y rfl (Y.slice0X 0 Try.underlying79 Try.sizeOf131 rfl rfl rfl (Nat.le_refl _)) ?_
      refine GoL.y rfl (Y.move rfl) ?_
      refine GoL.does rfl (Does.appendMake (enc := evE) (k := 3) ⟨0, 0, 0⟩ n rfl Try.underlying79 Try.underlying3 Try.typeInfo131 rfl rfl rfl rfl (by decide) (by decide) rfl rfl (by omega) (by omega)) ?_
      rintro _ _ ⟨⟨b22, c22⟩, hc22, rfl, rfl⟩
      refine GoL.y rfl (Y.move rfl) ?_
      first
        | refine GoL.y rfl (Y.lenRd Try.underlying79 rfl Rd.s) ?_
        | refine GoL.y rfl (Y.lenRd Try.underlying79 rfl ‹_›) ?_
        | refine GoL.y rfl (Y.lenSlice Try.underlying79 rfl) ?_
      refine GoL.y rfl (Y.slice0X 0 Try.underlying79 Try.sizeOf131 rfl rfl rfl (Nat.zero_le _)) ?_
      refine GoL.y rfl (Y.assign rfl) ?_
      refine GoL.nil ?_
      refine GoE.then_normal ?_
      refine GoC.seq ?_
      refine GoC.region ?_
      refine GoL.y rfl (Y.move rfl) ?_
      refine GoL.y rfl (Y.assign rfl) ?_
      refine GoL.nil ?_
      refine GoE.then_normal ?_
      refine GoC.ret ?_
      refine GoE.fr (by repeat (first | exact Take.here | apply Take.there)) (sl_shrink 0 (Nat.zero_le _)) ?_
      refine GoE.ret1 rfl rfl fun w s => ⟨_, ?_, trivial, finE (by repeat (first | exact Ent.nil | (apply Ent.cons; · repeat (first | exact Take.here | apply Take.there)) | apply Ent.opt0 | apply Ent.opt1 | apply Ent.void | apply Ent.emp0 | apply Ent.two | (apply Ent.allV; · exact sl_void) | (apply Ent.allM; · exact fun _ => sl_void) | apply Ent.f1 rfl | apply Ent.f2 rfl | apply Ent.f3 rfl | apply Ent.f4 rfl | apply Ent.f10 rfl | apply Ent.grp | assumption | exact trivial | rfl | omega)) s⟩
      rfl
    · refine GoC.skip ?_
      refine GoE.then_normal ?_
      refine GoC.seq ?_
      refine GoC.region ?_
      refine GoL.y rfl (Y.move rfl) ?_
      refine GoL.y rfl (Y.assign rfl) ?_
      refine GoL.nil ?_
      refine GoE.then_normal ?_
      refine GoC.ret ?_
      refine GoE.to (A := sl evE 3 (.slice none 0 0) ([] : List Ev)) (Bs := []) .nil (fun h e => .inl ⟨⟨_, rfl⟩, rfl, e⟩) ?_
      refine GoE.ret1 rfl rfl fun w s => ⟨_, ?_, trivial, finE (by repeat (first | exact Ent.nil | (apply Ent.cons; · repeat (first | exact Take.here | apply Take.there)) | apply Ent.opt0 | apply Ent.opt1 | apply Ent.void | apply Ent.emp0 | apply Ent.two | (apply Ent.allV; · exact sl_void) | (apply Ent.allM; · exact fun _ => sl_void) | apply Ent.f1 rfl | apply Ent.f2 rfl | apply Ent.f3 rfl | apply Ent.f4 rfl | apply Ent.f10 rfl | apply Ent.grp | assumption | exact trivial | rfl | omega)) s⟩
      rfl

set_option maxRecDepth 20000 in
theorem ConcatE {W : World} {A : HProp} {v : Value} {qs : List (Value × List Ev)} (hr : Rd W [A] fstE 1 v qs) (hq : ∀ q ∈ qs, Rd W [A] evE 3 q.1 q.2) (hl : qs.length ≤ 1000000) (hs : (qs.flatMap (·.2)).length ≤ 1000000000) : Fn Try.prog W 91 [v] [A] Value (fun u => u) (fun _ => True) (fun u => [sl evE 3 u (qs.flatMap (·.2)), A]) := by
  refine Fn.intro (N := 36) Try.func91 rfl Try.ntmps91 rfl fun F => ?_
  haveI hRI : ∀ (H : List HProp) [HasH H A], ReadsC W H v fstE 1 qs := fun H h => ⟨hr.at h.has⟩
  show GoC _ _ _ _ _ _ [A, F]
  refine GoC.seq ?_
  refine GoC.region ?_
  refine GoL.y rfl (Y.assign rfl) ?_
  refine GoL.nil ?_
  refine GoE.then_normal ?_
  refine GoC.seq ?_
  refine GoC.region ?_
  refine GoL.y rfl (Y.assign rfl) ?_
  refine GoL.nil ?_
  refine GoE.then_normal ?_
  refine GoC.seq ?_
  refine GoC.seq ?_
  refine GoC.region ?_
  refine GoL.y rfl (Y.move rfl) ?_
  first
    | refine GoL.y rfl (Y.lenRd Try.underlying193 rfl Rd.s) ?_
    | refine GoL.y rfl (Y.lenRd Try.underlying193 rfl ‹_›) ?_
    | refine GoL.y rfl (Y.lenSlice Try.underlying193 rfl) ?_
  refine GoL.y rfl (Y.move rfl) ?_
  refine GoL.nil ?_
  refine GoE.then_normal ?_
  refine GoC.block ?_
  refine GoC.loopK (X := Nat) [3, 5, 11, 12, 13, 14, 15, 16, 17, 18, 19, 20, 21, 22] (fun k => qs.length - k) (fun k => k ≤ qs.length) (fun k => [(11, some (.int .i64 (k : Int))), (3, some (.int .i64 ((((qs.take k).flatMap (·.2)).length : Nat) : Int)))]) (fun k => [A, F]) 0 ?_ ?_ ?_ ?_
  · exact Nat.zero_le _
  · exact ⟨rfl, rfl, trivial⟩
  · exact fun w s => Ent.kept (by repeat (first | exact Ent.nil | (apply Ent.cons; · repeat (first | exact Take.here | apply Take.there)) | apply Ent.opt0 | apply Ent.opt1 | apply Ent.void | apply Ent.emp0 | apply Ent.two | (apply Ent.allV; · exact sl_void) | (apply Ent.allM; · exact fun _ => sl_void) | apply Ent.f1 rfl | apply Ent.f2 rfl | apply Ent.f3 rfl | apply Ent.f4 rfl | apply Ent.f10 rfl | apply Ent.grp | assumption | exact trivial | rfl | omega)) w s
  rintro k hk
  refine GoC.seq ?_
  refine GoC.region ?_
  refine GoL.y rfl (Y.lss rfl rfl) ?_
  refine GoL.nil ?_
  refine GoE.then_normal ?_
  refine GoC.seq ?_
  refine GoC.condD rfl (fun h12 => ?_) (fun h12 => ?_)
  · refine GoC.skip ?_
    refine GoE.then_normal ?_
    refine GoC.seq ?_
    refine GoC.block ?_
    refine GoC.seq ?_
    refine GoC.region ?_
    obtain ⟨q, hx⟩ := at_some (show k < qs.length by omega)
    have hqr := hq q (List.mem_of_getElem? hx)
    have hRq : ∀ (H : List HProp) [HasH H A], ReadsC W H q.1 evE 3 q.2 := fun H h => ⟨hqr.at h.has⟩
    have hle := flat_le (f := fun q : Value × List Ev => q.2) qs (k + 1)
    rw [flat_snoc hx, List.length_append] at hle
    first
      | refine GoL.y rfl (Y.ixRd _ Try.underlying193 Try.sizeOf79 rfl rfl Rd.s rfl (by first | omega | decide)) ?_
      | refine GoL.y rfl (Y.ixRd _ Try.underlying193 Try.sizeOf79 rfl rfl ‹_› rfl (by first | omega | decide)) ?_
    first
      | refine GoL.y rfl (Y.load Try.isAgg79 rfl (Cell.a (by rfl))) ?_
      | refine GoL.y rfl (Y.load Try.isAgg79 rfl (Cell.rd0 Rd.s ‹_› (by rfl))) ?_
      | refine GoL.y rfl (Y.load Try.isAgg79 rfl (Cell.rd Rd.s ‹_› (by rfl))) ?_
      | refine GoL.y rfl (Y.load Try.isAgg79 rfl (Cell.ao (by rfl))) ?_
      | refine GoL.y rfl (Y.load Try.isAgg79 rfl (Cell.az (by rfl))) ?_
      | refine GoL.y rfl (Y.load Try.isAgg79 rfl (Cell.a ‹_›)) ?_
      | refine GoL.y rfl (Y.load Try.isAgg79 rfl (Cell.rd0 ‹_› ‹_› (by rfl))) ?_
      | refine GoL.y rfl (Y.load Try.isAgg79 rfl (Cell.rd ‹_› ‹_› (by rfl))) ?_
    refine GoL.y rfl (Y.assign rfl) ?_
    refine GoL.nil ?_
    refine GoE.then_normal ?_
    refine GoC.seq ?_
    refine GoC.region ?_
    refine GoL.y rfl (Y.move rfl) ?_
    refine GoL.y rfl (Y.move rfl) ?_
    first
      | refine GoL.y rfl (Y.lenRd Try.underlying79 rfl Rd.s) ?_
      | refine GoL.y rfl (Y.lenRd Try.underlying79 rfl ‹_›) ?_
      | refine GoL.y rfl (Y.lenSlice Try.underlying79 rfl) ?_
    first
      | refine GoL.y rfl (Y.inc rfl rfl (by omega)) ?_
      | refine GoL.y rfl (Y.add rfl rfl (by omega)) ?_
    refine GoL.y rfl (Y.assign rfl) ?_
    refine GoL.nil ?_
    refine GoE.then_normal ?_
    refine GoC.seq ?_
    refine GoC.region ?_
    refine GoL.y rfl (Y.move rfl) ?_
    refine GoL.y rfl (Y.lss rfl rfl) ?_
    refine GoL.nil ?_
    refine GoE.then_normal ?_
    refine GoC.condD rfl (fun h20 => ?_) (fun h20 => ?_)
    · omega
    · refine GoC.skip ?_
      refine GoE.block_normal (GoE.then_normal ?_)
      refine GoC.region ?_
      first
        | refine GoL.y rfl (Y.inc rfl rfl (by omega)) ?_
        | refine GoL.y rfl (Y.add rfl rfl (by omega)) ?_
      refine GoL.y rfl (Y.move rfl) ?_
      refine GoL.nil ?_
      refine GoE.againK (k + 1) (by repeat (first | exact Top.base | refine Top.cons rfl ?_)) rfl ?_ ?_ ?_ ?_
      · first | omega | (dsimp only; omega)
      · omega
      · refine ⟨rfl, ?_, trivial⟩
        rw [flat_snoc hx, List.length_append, Int.natCast_add]; rfl
      · exact fun w s => Ent.kept (by repeat (first | exact Ent.nil | (apply Ent.cons; · repeat (first | exact Take.here | apply Take.there)) | apply Ent.opt0 | apply Ent.opt1 | apply Ent.void | apply Ent.emp0 | apply Ent.two | (apply Ent.allV; · exact sl_void) | (apply Ent.allM; · exact fun _ => sl_void) | apply Ent.f1 rfl | apply Ent.f2 rfl | apply Ent.f3 rfl | apply Ent.f4 rfl | apply Ent.f10 rfl | apply Ent.grp | assumption | exact trivial | rfl | omega)) w s
  · refine GoC.exit ?_
    refine GoE.then_exit (GoE.then_exit (GoE.block_here (GoE.then_normal ?_)))
    refine GoC.seq ?_
    refine GoC.region ?_
    refine GoL.y rfl (Y.move rfl) ?_
    obtain rfl : k = qs.length := by omega
    rw [List.take_length]
    refine GoL.does rfl (Does.callE rfl Try.call92 rfl (GrowE hs) (by repeat (first | exact Ent.nil | (apply Ent.cons; · repeat (first | exact Take.here | apply Take.there)) | apply Ent.opt0 | apply Ent.opt1 | apply Ent.void | apply Ent.emp0 | apply Ent.two | (apply Ent.allV; · exact sl_void) | (apply Ent.allM; · exact fun _ => sl_void) | apply Ent.f1 rfl | apply Ent.f2 rfl | apply Ent.f3 rfl | apply Ent.f4 rfl | apply Ent.f10 rfl | apply Ent.grp | assumption | exact trivial | rfl | omega))) ?_
    rintro _ _ ⟨u, -, rfl, rfl⟩
    refine GoL.y rfl (Y.assign rfl) ?_
    refine GoL.nil ?_
    refine GoE.then_normal ?_
    refine GoC.seq ?_
    refine GoC.seq ?_
    refine GoC.region ?_
    refine GoL.y rfl (Y.move rfl) ?_
    first
      | refine GoL.y rfl (Y.lenRd Try.underlying193 rfl Rd.s) ?_
      | refine GoL.y rfl (Y.lenRd Try.underlying193 rfl ‹_›) ?_
      | refine GoL.y rfl (Y.lenSlice Try.underlying193 rfl) ?_
    refine GoL.y rfl (Y.move rfl) ?_
    refine GoL.nil ?_
    refine GoE.then_normal ?_
    refine GoC.block ?_
    refine GoC.loopK (X := Nat × Value) [6, 8, 27, 28, 29, 30, 31, 32, 33, 34] (fun z => qs.length - z.1) (fun z => z.1 ≤ qs.length) (fun z => [(27, some (.int .i64 (z.1 : Int))), (6, some z.2)]) (fun z => [sl evE 3 z.2 ((qs.take z.1).flatMap (·.2)), A, F]) (0, u) ?_ ?_ ?_ ?_
    · exact Nat.zero_le _
    · exact ⟨rfl, rfl, trivial⟩
    · exact fun w s => Ent.kept (by repeat (first | exact Ent.nil | (apply Ent.cons; · repeat (first | exact Take.here | apply Take.there)) | apply Ent.opt0 | apply Ent.opt1 | apply Ent.void | apply Ent.emp0 | apply Ent.two | (apply Ent.allV; · exact sl_void) | (apply Ent.allM; · exact fun _ => sl_void) | apply Ent.f1 rfl | apply Ent.f2 rfl | apply Ent.f3 rfl | apply Ent.f4 rfl | apply Ent.f10 rfl | apply Ent.grp | assumption | exact trivial | rfl | omega)) w s
    rintro ⟨k, u⟩ hk
    simp only at hk
    refine GoC.seq ?_
    refine GoC.region ?_
    refine GoL.y rfl (Y.lss rfl rfl) ?_
    refine GoL.nil ?_
    refine GoE.then_normal ?_
    refine GoC.seq ?_
    refine GoC.condD rfl (fun h28 => ?_) (fun h28 => ?_)
    · refine GoC.skip ?_
      refine GoE.then_normal ?_
      refine GoC.seq ?_
      refine GoC.block ?_
      refine GoC.seq ?_
      refine GoC.region ?_
      obtain ⟨q, hx⟩ := at_some (show k < qs.length by omega)
      have hqr := hq q (List.mem_of_getElem? hx)
      have hRq : ∀ (H : List HProp) [HasH H A], ReadsC W H q.1 evE 3 q.2 := fun H h => ⟨hqr.at h.has⟩
      have hle := flat_le (f := fun q : Value × List Ev => q.2) qs (k + 1)
      rw [flat_snoc hx, List.length_append] at hle
      first
        | refine GoL.y rfl (Y.ixRd _ Try.underlying193 Try.sizeOf79 rfl rfl Rd.s rfl (by first | omega | decide)) ?_
        | refine GoL.y rfl (Y.ixRd _ Try.underlying193 Try.sizeOf79 rfl rfl ‹_› rfl (by first | omega | decide)) ?_
      first
        | refine GoL.y rfl (Y.load Try.isAgg79 rfl (Cell.a (by rfl))) ?_
        | refine GoL.y rfl (Y.load Try.isAgg79 rfl (Cell.rd0 Rd.s ‹_› (by rfl))) ?_
        | refine GoL.y rfl (Y.load Try.isAgg79 rfl (Cell.rd Rd.s ‹_› (by rfl))) ?_
        | refine GoL.y rfl (Y.load Try.isAgg79 rfl (Cell.ao (by rfl))) ?_
        | refine GoL.y rfl (Y.load Try.isAgg79 rfl (Cell.az (by rfl))) ?_
        | refine GoL.y rfl (Y.load Try.isAgg79 rfl (Cell.a ‹_›)) ?_
        | refine GoL.y rfl (Y.load Try.isAgg79 rfl (Cell.rd0 ‹_› ‹_› (by rfl))) ?_
        | refine GoL.y rfl (Y.load Try.isAgg79 rfl (Cell.rd ‹_› ‹_› (by rfl))) ?_
      refine GoL.y rfl (Y.assign rfl) ?_
      refine GoL.nil ?_
      refine GoE.then_normal ?_
      refine GoC.region ?_
      refine GoL.y rfl (Y.move rfl) ?_
      refine GoL.y rfl (Y.move rfl) ?_
      refine GoL.does rfl (Does.append rfl Try.underlying79 Try.underlying79 Try.typeInfo131 rfl rfl rfl (by decide) rfl rfl (by repeat (first | exact Take.here | apply Take.there)) Rd.s (by dsimp only; omega) (evE_one _)) ?_
      rintro _ _ ⟨v33, rfl, rfl⟩
      refine GoL.y rfl (Y.assign rfl) ?_
      refine GoL.nil ?_
      refine GoE.block_normal (GoE.then_normal ?_)
      refine GoC.region ?_
      first
        | refine GoL.y rfl (Y.inc rfl rfl (by omega)) ?_
        | refine GoL.y rfl (Y.add rfl rfl (by omega)) ?_
      refine GoL.y rfl (Y.move rfl) ?_
      refine GoL.nil ?_
      refine GoE.againK (k + 1, v33) (by repeat (first | exact Top.base | refine Top.cons rfl ?_)) rfl ?_ ?_ ?_ ?_
      · show qs.length - (k + 1) < qs.length - k; omega
      · show k + 1 ≤ qs.length; omega
      · exact ⟨rfl, rfl, trivial⟩
      · show ∀ w, Sat _ w _ → Sat _ w (seps [sl evE 3 v33 ((qs.take (k + 1)).flatMap (·.2)), A, F])
        rw [flat_snoc hx]
        exact fun w s => Ent.kept (by repeat (first | exact Ent.nil | (apply Ent.cons; · repeat (first | exact Take.here | apply Take.there)) | apply Ent.opt0 | apply Ent.opt1 | apply Ent.void | apply Ent.emp0 | apply Ent.two | (apply Ent.allV; · exact sl_void) | (apply Ent.allM; · exact fun _ => sl_void) | apply Ent.f1 rfl | apply Ent.f2 rfl | apply Ent.f3 rfl | apply Ent.f4 rfl | apply Ent.f10 rfl | apply Ent.grp | assumption | exact trivial | rfl | omega)) w s
    · refine GoC.exit ?_
      refine GoE.then_exit (GoE.then_exit (GoE.block_here (GoE.then_normal ?_)))
      refine GoC.seq ?_
      refine GoC.region ?_
      refine GoL.y rfl (Y.move rfl) ?_
      refine GoL.y rfl (Y.assign rfl) ?_
      refine GoL.nil ?_
      refine GoE.then_normal ?_
      refine GoC.ret ?_
      obtain rfl : k = qs.length := by omega
      rw [List.take_length]
      refine GoE.ret1 rfl rfl fun w s => ⟨_, ?_, trivial, finE (by repeat (first | exact Ent.nil | (apply Ent.cons; · repeat (first | exact Take.here | apply Take.there)) | apply Ent.opt0 | apply Ent.opt1 | apply Ent.void | apply Ent.emp0 | apply Ent.two | (apply Ent.allV; · exact sl_void) | (apply Ent.allM; · exact fun _ => sl_void) | apply Ent.f1 rfl | apply Ent.f2 rfl | apply Ent.f3 rfl | apply Ent.f4 rfl | apply Ent.f10 rfl | apply Ent.grp | assumption | exact trivial | rfl | omega)) s⟩
      rfl

set_option maxRecDepth 20000 in
theorem JoinE {W : World} {A : HProp} {va vb : Value} {xs ys : List Ev} (ha : Rd W [A] evE 3 va xs) (hb : Rd W [A] evE 3 vb ys) (hl : xs.length + ys.length ≤ 1000000000) : Fn Try.prog W 78 [va, vb] [A] Value (fun u => u) (fun _ => True) (fun u => [sl evE 3 u (xs ++ ys), A]) := by
  refine Fn.intro (N := 9) Try.func78 rfl Try.ntmps78 rfl fun F => ?_
  show GoC _ _ _ _ _ _ [A, F]
  refine GoC.know (fun w s => Rd.shape (ha.at .here) w s) fun e => ?_
  obtain ⟨a1, c1, rfl⟩ := e
  refine GoC.know (fun w s => Rd.shape (hb.at .here) w s) fun e => ?_
  obtain ⟨a2, c2, rfl⟩ := e
  refine GoC.seq ?_
  refine GoC.region ?_
  refine GoL.y rfl (Y.assign rfl) ?_
  refine GoL.nil ?_
  refine GoE.then_normal ?_
  refine GoC.seq ?_
  refine GoC.region ?_
  refine GoL.y rfl (Y.move rfl) ?_
  refine GoL.y rfl (Y.move rfl) ?_
  refine GoL.does rfl (Does.bsl 79 rfl rfl (by kernel_rfl)) ?_
  rintro _ _ ⟨b7, rfl, rfl⟩
  refine GoL.does rfl (Does.callE rfl Try.call91 rfl (ConcatE (A := seps [arr b7 0 [.slice a1 xs.length c1, .slice a2 ys.length c2], A]) (qs := [(.slice a1 xs.length c1, xs), (.slice a2 ys.length c2, ys)]) (Rd.grp (Rd.lit .here rfl (fun _ _ => rfl) rfl)) (by
      intro q hq
      simp only [List.mem_cons, List.not_mem_nil, or_false] at hq
      rcases hq with rfl | rfl
      · exact Rd.grp (Rd.at ha (.there .here))
      · exact Rd.grp (Rd.at hb (.there .here))) (by simp) (by simpa using hl)) (by repeat (first | exact Ent.nil | (apply Ent.cons; · repeat (first | exact Take.here | apply Take.there)) | apply Ent.opt0 | apply Ent.opt1 | apply Ent.void | apply Ent.emp0 | apply Ent.two | (apply Ent.allV; · exact sl_void) | (apply Ent.allM; · exact fun _ => sl_void) | apply Ent.f1 rfl | apply Ent.f2 rfl | apply Ent.f3 rfl | apply Ent.f4 rfl | apply Ent.f10 rfl | apply Ent.grp | assumption | exact trivial | rfl | omega))) ?_
  rintro _ _ ⟨u, -, rfl, rfl⟩
  rw [show [(Value.slice a1 xs.length c1, xs), (.slice a2 ys.length c2, ys)].flatMap (fun q : Value × List Ev => q.2) = xs ++ ys from by simp]
  refine GoL.ungrp (by repeat (first | exact Take.here | apply Take.there)) ?_
  refine GoL.y rfl (Y.assign rfl) ?_
  refine GoL.nil ?_
  refine GoE.then_normal ?_
  refine GoC.ret ?_
  refine GoE.ret1 rfl rfl fun w s => ⟨_, ?_, trivial, finE (by repeat (first | exact Ent.nil | (apply Ent.cons; · repeat (first | exact Take.here | apply Take.there)) | apply Ent.opt0 | apply Ent.opt1 | apply Ent.void | apply Ent.emp0 | apply Ent.two | (apply Ent.allV; · exact sl_void) | (apply Ent.allM; · exact fun _ => sl_void) | apply Ent.f1 rfl | apply Ent.f2 rfl | apply Ent.f3 rfl | apply Ent.f4 rfl | apply Ent.f10 rfl | apply Ent.grp | assumption | exact trivial | rfl | omega)) s⟩
  rfl

set_option maxRecDepth 20000 in
theorem Mul64 {W : World} {n : Int} (hn : 0 ≤ n ∧ n ≤ 64) : Fn Try.prog W 68 [.int .u64 1, .int .u64 n] [] Unit (fun _ => .tuple #[.int .u64 0, .int .u64 n]) (fun _ => True) (fun _ => []) := by
  refine Fn.intro (N := 51) Try.func68 rfl Try.ntmps68 rfl fun F => ?_
  show GoC _ _ _ _ _ _ [F]
  refine GoC.seq ?_
  refine GoC.region ?_
  refine GoL.y rfl (Y.assign rfl) ?_
  refine GoL.y rfl (Y.assign rfl) ?_
  refine GoL.nil ?_
  refine GoE.then_normal ?_
  refine GoC.seq ?_
  refine GoC.region ?_
  refine GoL.y rfl (Y.move rfl) ?_
  refine GoL.y rfl (Y.valW (Y.andB rfl rfl) (bAnd_mask (by omega))) ?_
  refine GoL.y rfl (Y.assign rfl) ?_
  refine GoL.nil ?_
  refine GoE.then_normal ?_
  refine GoC.seq ?_
  refine GoC.region ?_
  refine GoL.y rfl (Y.move rfl) ?_
  refine GoL.y rfl (Y.valW (Y.shrB rfl rfl (by omega)) (bShr_small (by omega))) ?_
  refine GoL.y rfl (Y.assign rfl) ?_
  refine GoL.nil ?_
  refine GoE.then_normal ?_
  refine GoC.seq ?_
  refine GoC.region ?_
  refine GoL.y rfl (Y.move rfl) ?_
  refine GoL.y rfl (Y.valW (Y.andB rfl rfl) (bAnd_mask (by omega))) ?_
  refine GoL.y rfl (Y.assign rfl) ?_
  refine GoL.nil ?_
  refine GoE.then_normal ?_
  refine GoC.seq ?_
  refine GoC.region ?_
  refine GoL.y rfl (Y.move rfl) ?_
  refine GoL.y rfl (Y.valW (Y.shrB rfl rfl (by omega)) (bShr_small (by omega))) ?_
  refine GoL.y rfl (Y.assign rfl) ?_
  refine GoL.nil ?_
  refine GoE.then_normal ?_
  refine GoC.seq ?_
  refine GoC.region ?_
  refine GoL.y rfl (Y.move rfl) ?_
  refine GoL.y rfl (Y.move rfl) ?_
  first
    | refine GoL.y rfl (Y.mulU rfl rfl (by omega)) ?_
    | refine GoL.y rfl (Y.mulW rfl rfl) ?_
  refine GoL.y rfl (Y.assign rfl) ?_
  refine GoL.nil ?_
  refine GoE.then_normal ?_
  refine GoC.seq ?_
  refine GoC.region ?_
  refine GoL.y rfl (Y.move rfl) ?_
  refine GoL.y rfl (Y.move rfl) ?_
  first
    | refine GoL.y rfl (Y.mulU rfl rfl (by omega)) ?_
    | refine GoL.y rfl (Y.mulW rfl rfl) ?_
  refine GoL.y rfl (Y.move rfl) ?_
  refine GoL.y rfl (Y.valW (Y.shrB rfl rfl (by omega)) (bShr_small (by omega))) ?_
  first
    | refine GoL.y rfl (Y.addU rfl rfl (by omega)) ?_
    | refine GoL.y rfl (Y.addW rfl rfl) ?_
  refine GoL.y rfl (Y.assign rfl) ?_
  refine GoL.nil ?_
  refine GoE.then_normal ?_
  refine GoC.seq ?_
  refine GoC.region ?_
  refine GoL.y rfl (Y.move rfl) ?_
  refine GoL.y rfl (Y.valW (Y.andB rfl rfl) (bAnd_mask (by omega))) ?_
  refine GoL.y rfl (Y.assign rfl) ?_
  refine GoL.nil ?_
  refine GoE.then_normal ?_
  refine GoC.seq ?_
  refine GoC.region ?_
  refine GoL.y rfl (Y.move rfl) ?_
  refine GoL.y rfl (Y.valW (Y.shrB rfl rfl (by omega)) (bShr_small (by omega))) ?_
  refine GoL.y rfl (Y.assign rfl) ?_
  refine GoL.nil ?_
  refine GoE.then_normal ?_
  refine GoC.seq ?_
  refine GoC.region ?_
  refine GoL.y rfl (Y.move rfl) ?_
  refine GoL.y rfl (Y.move rfl) ?_
  refine GoL.y rfl (Y.move rfl) ?_
  first
    | refine GoL.y rfl (Y.mulU rfl rfl (by omega)) ?_
    | refine GoL.y rfl (Y.mulW rfl rfl) ?_
  first
    | refine GoL.y rfl (Y.addU rfl rfl (by omega)) ?_
    | refine GoL.y rfl (Y.addW rfl rfl) ?_
  refine GoL.y rfl (Y.assign rfl) ?_
  refine GoL.nil ?_
  refine GoE.then_normal ?_
  refine GoC.seq ?_
  refine GoC.region ?_
  refine GoL.y rfl (Y.move rfl) ?_
  refine GoL.y rfl (Y.move rfl) ?_
  first
    | refine GoL.y rfl (Y.mulU rfl rfl (by omega)) ?_
    | refine GoL.y rfl (Y.mulW rfl rfl) ?_
  refine GoL.y rfl (Y.move rfl) ?_
  first
    | refine GoL.y rfl (Y.addU rfl rfl (by omega)) ?_
    | refine GoL.y rfl (Y.addW rfl rfl) ?_
  refine GoL.y rfl (Y.move rfl) ?_
  refine GoL.y rfl (Y.valW (Y.shrB rfl rfl (by omega)) (bShr_small (by omega))) ?_
  first
    | refine GoL.y rfl (Y.addU rfl rfl (by omega)) ?_
    | refine GoL.y rfl (Y.addW rfl rfl) ?_
  refine GoL.y rfl (Y.assign rfl) ?_
  refine GoL.nil ?_
  refine GoE.then_normal ?_
  refine GoC.seq ?_
  refine GoC.region ?_
  refine GoL.y rfl (Y.move rfl) ?_
  refine GoL.y rfl (Y.move rfl) ?_
  first
    | refine GoL.y rfl (Y.mulU rfl rfl (by omega)) ?_
    | refine GoL.y rfl (Y.mulW rfl rfl) ?_
  refine GoL.y rfl (Y.assign rfl) ?_
  refine GoL.nil ?_
  refine GoE.then_normal ?_
  refine GoC.ret ?_
  refine GoE.ret2 rfl rfl rfl fun w s => ⟨(), ?_, trivial, finE (by repeat (first | exact Ent.nil | (apply Ent.cons; · repeat (first | exact Take.here | apply Take.there)) | apply Ent.opt0 | apply Ent.opt1 | apply Ent.void | apply Ent.emp0 | apply Ent.two | (apply Ent.allV; · exact sl_void) | (apply Ent.allM; · exact fun _ => sl_void) | apply Ent.f1 rfl | apply Ent.f2 rfl | apply Ent.f3 rfl | apply Ent.f4 rfl | apply Ent.f10 rfl | apply Ent.grp | assumption | exact trivial | rfl | omega)) s⟩
  simp

set_option maxRecDepth 20000 in
theorem MulB {W : World} {n : Int} (hn : 0 ≤ n ∧ n ≤ 64) : Fn Try.prog W 42 [.int .u64 1, .int .u64 n] [] Unit (fun _ => .tuple #[.int .u64 0, .int .u64 n]) (fun _ => True) (fun _ => []) := by
  refine Fn.intro (N := 30) Try.func42 rfl Try.ntmps42 rfl fun F => ?_
  show GoC _ _ _ _ _ _ [F]
  refine GoC.seq ?_
  refine GoC.region ?_
  refine GoL.y rfl (Y.assign rfl) ?_
  refine GoL.y rfl (Y.assign rfl) ?_
  refine GoL.nil ?_
  refine GoE.then_normal ?_
  refine GoC.seq ?_
  refine GoC.condF rfl ?_
  refine GoC.skip ?_
  refine GoE.then_normal ?_
  refine GoC.seq ?_
  refine GoC.region ?_
  refine GoL.y rfl (Y.move rfl) ?_
  refine GoL.y rfl (Y.move rfl) ?_
  refine GoL.does rfl (Does.callE rfl Try.call68 rfl (Mul64 hn) (by repeat (first | exact Ent.nil | (apply Ent.cons; · repeat (first | exact Take.here | apply Take.there)) | apply Ent.opt0 | apply Ent.opt1 | apply Ent.void | apply Ent.emp0 | apply Ent.two | (apply Ent.allV; · exact sl_void) | (apply Ent.allM; · exact fun _ => sl_void) | apply Ent.f1 rfl | apply Ent.f2 rfl | apply Ent.f3 rfl | apply Ent.f4 rfl | apply Ent.f10 rfl | apply Ent.grp | assumption | exact trivial | rfl | omega))) ?_
  rintro _ _ ⟨⟨⟩, -, rfl, rfl⟩
  refine GoL.y rfl (Y.move rfl) ?_
  refine GoL.y rfl (Y.extract rfl rfl) ?_
  refine GoL.y rfl (Y.extract rfl rfl) ?_
  refine GoL.y rfl (Y.assign rfl) ?_
  refine GoL.y rfl (Y.assign rfl) ?_
  refine GoL.nil ?_
  refine GoE.then_normal ?_
  refine GoC.seq ?_
  refine GoC.region ?_
  refine GoL.y rfl (Y.move rfl) ?_
  refine GoL.y rfl (Y.move rfl) ?_
  refine GoL.y rfl (Y.assign rfl) ?_
  refine GoL.y rfl (Y.assign rfl) ?_
  refine GoL.nil ?_
  refine GoE.then_normal ?_
  refine GoC.ret ?_
  refine GoE.ret2 rfl rfl rfl fun w s => ⟨(), ?_, trivial, finE (by repeat (first | exact Ent.nil | (apply Ent.cons; · repeat (first | exact Take.here | apply Take.there)) | apply Ent.opt0 | apply Ent.opt1 | apply Ent.void | apply Ent.emp0 | apply Ent.two | (apply Ent.allV; · exact sl_void) | (apply Ent.allM; · exact fun _ => sl_void) | apply Ent.f1 rfl | apply Ent.f2 rfl | apply Ent.f3 rfl | apply Ent.f4 rfl | apply Ent.f10 rfl | apply Ent.grp | assumption | exact trivial | rfl | omega)) s⟩
  rfl

set_option maxRecDepth 20000 in
theorem RepeatI {W : World} {A : HProp} {v : Value} {a : Int} {n : Nat} (hr : Rd W [A] intE 1 v [a]) (hn : 1 ≤ n ∧ n ≤ 64) : Fn Try.prog W 16 [v, .int .i64 (n : Int)] [A] Value (fun u => u) (fun _ => True) (fun u => [sl intE 1 u (List.replicate n a), A]) := by
  refine Fn.intro (N := 48) Try.func16 rfl Try.ntmps16 rfl fun F => ?_
  haveI hRI : ∀ (H : List HProp) [HasH H A], ReadsC W H v intE 1 [a] := fun H h => ⟨hr.at h.has⟩
  show GoC _ _ _ _ _ _ [A, F]
  refine GoC.seq ?_
  refine GoC.region ?_
  refine GoL.y rfl (Y.assign rfl) ?_
  refine GoL.nil ?_
  refine GoE.then_normal ?_
  refine GoC.seq ?_
  refine GoC.seq ?_
  refine GoC.region ?_
  refine GoL.y rfl (Y.move rfl) ?_
  refine GoL.y rfl (Y.lss rfl rfl) ?_
  refine GoL.nil ?_
  refine GoE.then_normal ?_
  refine GoC.condD rfl (fun h10 => ?_) (fun h10 => ?_)
  · omega
  · refine GoC.skip ?_
    refine GoE.then_normal ?_
    refine GoC.seq ?_
    refine GoC.region ?_
    refine GoL.y rfl (Y.move rfl) ?_
    first
      | refine GoL.y rfl (Y.lenRd Try.underlying23 rfl Rd.s) ?_
      | refine GoL.y rfl (Y.lenRd Try.underlying23 rfl ‹_›) ?_
      | refine GoL.y rfl (Y.lenSlice Try.underlying23 rfl) ?_
    first
      | refine GoL.y rfl (Y.convU Try.underlying3 Try.underlying83 rfl (by omega)) ?_
      | refine GoL.y rfl (Y.conv Try.underlying3 Try.underlying83 rfl) ?_
    refine GoL.y rfl (Y.move rfl) ?_
    first
      | refine GoL.y rfl (Y.convU Try.underlying3 Try.underlying83 rfl (by omega)) ?_
      | refine GoL.y rfl (Y.conv Try.underlying3 Try.underlying83 rfl) ?_
    refine GoL.does rfl (Does.callE rfl Try.call42 rfl (MulB (n := (n : Int)) (by omega)) (by repeat (first | exact Ent.nil | (apply Ent.cons; · repeat (first | exact Take.here | apply Take.there)) | apply Ent.opt0 | apply Ent.opt1 | apply Ent.void | apply Ent.emp0 | apply Ent.two | (apply Ent.allV; · exact sl_void) | (apply Ent.allM; · exact fun _ => sl_void) | apply Ent.f1 rfl | apply Ent.f2 rfl | apply Ent.f3 rfl | apply Ent.f4 rfl | apply Ent.f10 rfl | apply Ent.grp | assumption | exact trivial | rfl | omega))) ?_
    rintro _ _ ⟨⟨⟩, -, rfl, rfl⟩
    refine GoL.y rfl (Y.move rfl) ?_
    refine GoL.y rfl (Y.extract rfl rfl) ?_
    refine GoL.y rfl (Y.extract rfl rfl) ?_
    refine GoL.y rfl (Y.assign rfl) ?_
    refine GoL.y rfl (Y.assign rfl) ?_
    refine GoL.nil ?_
    refine GoE.then_normal ?_
    refine GoC.seq ?_
    refine GoC.seq ?_
    refine GoC.region ?_
    refine GoL.y rfl (Y.move rfl) ?_
    refine GoL.y rfl (Y.gtr rfl rfl) ?_
    refine GoL.y rfl (Y.move rfl) ?_
    refine GoL.partD (t := 23) rfl (fun h22 => ?_) (fun h22 => ?_)
    · omega
    · refine GoL.yg rfl rfl rfl (Y.move rfl) ?_
      refine GoL.yg rfl rfl rfl (Y.gtr rfl rfl) ?_
      refine GoL.y rfl (Y.pickF rfl rfl) ?_
      refine GoL.nil ?_
      refine GoE.then_normal ?_
      refine GoC.condD rfl (fun h26 => ?_) (fun h26 => ?_)
      · omega
      · refine GoC.skip ?_
        refine GoE.then_normal ?_
        refine GoC.seq ?_
        refine GoC.region ?_
        refine GoL.y rfl (Y.move rfl) ?_
        first
          | refine GoL.y rfl (Y.convI Try.underlying83 Try.underlying3 rfl (by omega)) ?_
          | refine GoL.y rfl (Y.conv Try.underlying83 Try.underlying3 rfl) ?_
        refine GoL.does rfl (Does.mkSl (enc := intE) (k := 1) 0 n rfl Try.underlying23 Try.typeInfo3 rfl rfl rfl rfl (by decide) (by decide) rfl rfl rfl rfl (by omega)) ?_
        rintro _ _ ⟨b30, rfl, rfl⟩
        refine GoL.y rfl (Y.assign rfl) ?_
        refine GoL.nil ?_
        refine GoE.then_normal ?_
        refine GoC.seq ?_
        refine GoC.region ?_
        refine GoL.y rfl (Y.move rfl) ?_
        refine GoL.y rfl (Y.move rfl) ?_
        refine GoL.does rfl (Does.copyIn (i := 0) rfl Try.underlying23 Try.sizeOf3 rfl rfl Rd.s (by repeat (first | exact Take.here | apply Take.there)) (by simp) (Nat.zero_le _) (by omega) (intE_one _)) ?_
        rintro _ _ ⟨rfl, rfl⟩
        rw [show min [a].length (n - 0) = 1 from by simp; omega, show (List.replicate n (0 : Int)).take 0 ++ ([a].take 1 ++ (List.replicate n 0).drop (0 + 1)) = List.replicate 1 a ++ List.replicate (n - 1) 0 from by simp]
        refine GoL.y rfl (Y.assign rfl) ?_
        refine GoL.nil ?_
        refine GoE.then_normal ?_
        refine GoC.seq ?_
        refine GoC.block ?_
        refine GoC.loopK (X := Nat) [8, 34, 35, 36, 37, 38, 39, 40, 41, 42, 43, 44, 45, 46] (fun j => n - j) (fun j => 1 ≤ j ∧ j ≤ n) (fun j => [(8, some (.int .i64 (j : Int)))]) (fun j => [sl intE 1 (.slice (some ⟨b30, 0, none⟩) n n) (List.replicate j a ++ List.replicate (n - j) 0), A, F]) 1 ?_ ?_ ?_ ?_
        · exact ⟨Nat.le_refl _, hn.1⟩
        · exact ⟨rfl, trivial⟩
        · exact fun w s => Ent.kept (by repeat (first | exact Ent.nil | (apply Ent.cons; · repeat (first | exact Take.here | apply Take.there)) | apply Ent.opt0 | apply Ent.opt1 | apply Ent.void | apply Ent.emp0 | apply Ent.two | (apply Ent.allV; · exact sl_void) | (apply Ent.allM; · exact fun _ => sl_void) | apply Ent.f1 rfl | apply Ent.f2 rfl | apply Ent.f3 rfl | apply Ent.f4 rfl | apply Ent.f10 rfl | apply Ent.grp | assumption | exact trivial | rfl | omega)) w s
        rintro j hj
        refine GoC.seq ?_
        refine GoC.seq ?_
        refine GoC.region ?_
        refine GoL.y rfl (Y.move rfl) ?_
        refine GoL.y rfl (Y.move rfl) ?_
        refine GoL.y rfl (Y.lenSlice Try.underlying23 rfl) ?_
        refine GoL.y rfl (Y.lss rfl rfl) ?_
        refine GoL.nil ?_
        refine GoE.then_normal ?_
        refine GoC.condD rfl (fun h37 => ?_) (fun h37 => ?_)
        · refine GoC.skip ?_
          refine GoE.then_normal ?_
          refine GoC.block ?_
          refine GoC.draw [] [0, 1, 1, 1, 1, 1, 1, 2, 1, 1] rfl (by kernel_rfl) ?_
          refine GoK.k rfl (Kept.ok (by repeat (first | exact Kept.nil | exact Take.here | apply Take.there | apply Kept.take))) (Y.move rfl) ?_
          refine GoK.s rfl (Y.move rfl) ?_
          refine GoK.s rfl (Y.move rfl) ?_
          refine GoK.s rfl (Y.sliceFrm j Try.underlying23 Try.sizeOf3 rfl rfl rfl (by omega) (by omega)) ?_
          refine GoK.s rfl (Y.move rfl) ?_
          refine GoK.s rfl (Y.move rfl) ?_
          refine GoK.s rfl (Y.slice0X j Try.underlying23 Try.sizeOf3 rfl rfl rfl (by omega)) ?_
          refine GoK.d2 rfl (Kept.ok (by repeat (first | exact Kept.nil | exact Take.here | apply Take.there | apply Kept.take))) (Does.copyIn (enc := intE) (i := j) (ys := List.replicate j a) rfl Try.underlying23 Try.sizeOf3 rfl rfl (Rd.rep hj.2 Rd.s) (by repeat (first | exact Take.here | apply Take.there)) (by simp; omega) (by omega) (by omega) (intE_one _)) (by rintro _ _ ⟨rfl, rfl⟩; exact (Kept.ok (by repeat (first | exact Kept.nil | exact Take.here | apply Take.there | apply Kept.take)))) ?_
          rintro _ _ ⟨rfl, rfl⟩
          first
            | refine GoK.s rfl (Y.inc rfl rfl (by omega)) ?_
            | refine GoK.s rfl (Y.add rfl rfl (by omega)) ?_
          refine GoK.s rfl (Y.assign rfl) ?_
          refine GoK.nil ?_
          refine GoE.block_normal ?_
          refine GoE.againK (j + min j (n - j)) (by repeat (first | exact Top.base | refine Top.cons rfl ?_)) rfl ?_ ?_ ?_ ?_
          · omega
          · omega
          · refine ⟨?_, trivial⟩
            rw [show (List.replicate j a).length = j from by simp]; rfl
          · show ∀ w, Sat _ w _ → Sat _ w (seps [sl intE 1 _ (List.replicate (j + min j (n - j)) a ++ List.replicate (n - (j + min j (n - j))) 0), A, F])
            rw [← rep_step j n a hj.2]
            exact fun w s => Ent.kept (by repeat (first | exact Ent.nil | (apply Ent.cons; · repeat (first | exact Take.here | apply Take.there)) | apply Ent.opt0 | apply Ent.opt1 | apply Ent.void | apply Ent.emp0 | apply Ent.two | (apply Ent.allV; · exact sl_void) | (apply Ent.allM; · exact fun _ => sl_void) | apply Ent.f1 rfl | apply Ent.f2 rfl | apply Ent.f3 rfl | apply Ent.f4 rfl | apply Ent.f10 rfl | apply Ent.grp | assumption | exact trivial | rfl | omega)) w s
        · refine GoC.exit ?_
          refine GoE.then_exit (GoE.then_exit (GoE.block_here (GoE.then_normal ?_)))
          refine GoC.seq ?_
          refine GoC.region ?_
          refine GoL.y rfl (Y.move rfl) ?_
          refine GoL.y rfl (Y.assign rfl) ?_
          refine GoL.nil ?_
          refine GoE.then_normal ?_
          refine GoC.ret ?_
          obtain rfl : j = n := by omega
          rw [Nat.sub_self, List.replicate_zero, List.append_nil]
          refine GoE.ret1 rfl rfl fun w s => ⟨_, ?_, trivial, finE (by repeat (first | exact Ent.nil | (apply Ent.cons; · repeat (first | exact Take.here | apply Take.there)) | apply Ent.opt0 | apply Ent.opt1 | apply Ent.void | apply Ent.emp0 | apply Ent.two | (apply Ent.allV; · exact sl_void) | (apply Ent.allM; · exact fun _ => sl_void) | apply Ent.f1 rfl | apply Ent.f2 rfl | apply Ent.f3 rfl | apply Ent.f4 rfl | apply Ent.f10 rfl | apply Ent.grp | assumption | exact trivial | rfl | omega)) s⟩
          rfl

end Go.SLYtkflpgknieoknaa
