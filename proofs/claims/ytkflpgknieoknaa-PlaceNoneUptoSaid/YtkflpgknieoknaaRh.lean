/- Walks of functions, and what they compute. Conditions: none, this text proves no statement. -/
import Derived.Test.YtkflpgknieoknaaProg
import Derived.Test.YtkflpgknieoknaaRg
import Derived.Test.YtkflpgknieoknaaK7
import Derived.KernelRfl
namespace Go.SLYtkflpgknieoknaa
open Go Go.RowKit Go.Proofs

set_option maxRecDepth 20000 in
theorem ref_Ints {W : World} {A : HProp} {v u : Value} {xs ys : List Int} (hv : Rd W [A] intE 1 v xs) (hu : Rd W [A] intE 1 u ys) (hl : xs.length ≤ 1000000000) : Fn Try.prog W 10 [v, u] [A] Unit (fun _ => .bool (decide (xs = ys))) (fun _ => True) (fun _ => [A]) := by
  refine Fn.intro (N := 26) Try.func10 rfl Try.ntmps10 rfl fun F => ?_
  haveI hRI : ∀ (H : List HProp) [HasH H A], ReadsC W H v intE 1 xs := fun H h => ⟨hv.at h.has⟩
  haveI hRJ : ∀ (H : List HProp) [HasH H A], ReadsC W H u intE 1 ys := fun H h => ⟨hu.at h.has⟩
  show GoC _ _ _ _ _ _ [A, F]
  refine GoC.seq ?_
  refine GoC.region ?_
  refine GoL.y rfl (Y.assign rfl) ?_
  refine GoL.nil ?_
  refine GoE.then_normal ?_
  refine GoC.seq ?_
  refine GoC.seq ?_
  refine GoC.region ?_
  refine GoL.y rfl (Y.move rfl) ?_
  first
    | refine GoL.y rfl (Y.lenRd Try.underlying23 rfl Rd.s) ?_
    | refine GoL.y rfl (Y.lenRd Try.underlying23 rfl ‹_›) ?_
    | refine GoL.y rfl (Y.lenSlice Try.underlying23 rfl) ?_
  refine GoL.y rfl (Y.move rfl) ?_
  first
    | refine GoL.y rfl (Y.lenRd Try.underlying23 rfl Rd.s) ?_
    | refine GoL.y rfl (Y.lenRd Try.underlying23 rfl ‹_›) ?_
    | refine GoL.y rfl (Y.lenSlice Try.underlying23 rfl) ?_
  refine GoL.y rfl (Y.neq rfl rfl) ?_
  refine GoL.nil ?_
  refine GoE.then_normal ?_
  refine GoC.condD rfl (fun h10 => ?_) (fun h10 => ?_)
  · refine GoC.seq ?_
    refine GoC.region ?_
    refine GoL.y rfl (Y.assign rfl) ?_
    refine GoL.nil ?_
    refine GoE.then_normal ?_
    refine GoC.ret ?_
    refine GoE.then_ret ?_
    refine GoE.ret1 rfl rfl fun w s => ⟨(), ?_, trivial, finE (by repeat (first | exact Ent.nil | (apply Ent.cons; · repeat (first | exact Take.here | apply Take.there)) | apply Ent.opt0 | apply Ent.opt1 | apply Ent.void | apply Ent.emp0 | apply Ent.two | (apply Ent.allV; · exact sl_void) | (apply Ent.allM; · exact fun _ => sl_void) | apply Ent.f1 rfl | apply Ent.f2 rfl | apply Ent.f3 rfl | apply Ent.f4 rfl | apply Ent.f10 rfl | apply Ent.grp | assumption | exact trivial | rfl | omega)) s⟩
    rw [decide_eq_false (fun e => h10 (by rw [e]))]
  · refine GoC.skip ?_
    refine GoE.then_normal ?_
    refine GoC.seq ?_
    refine GoC.seq ?_
    refine GoC.region ?_
    refine GoL.y rfl (Y.assign rfl) ?_
    refine GoL.nil ?_
    refine GoE.then_normal ?_
    refine GoC.block ?_
    refine GoC.loopK (X := Nat) [4, 5, 11, 12, 13, 14, 15, 16, 17, 18, 19, 20, 21, 22, 23, 24, 25] (fun k => xs.length - k) (fun k => k ≤ xs.length ∧ xs.take k = ys.take k) (fun k => [(5, some (.int .i64 (k : Int)))]) (fun k => [A, F]) 0 ?_ ?_ ?_ ?_
    · exact ⟨Nat.zero_le _, rfl⟩
    · exact ⟨rfl, trivial⟩
    · exact fun w s => Ent.kept (by repeat (first | exact Ent.nil | (apply Ent.cons; · repeat (first | exact Take.here | apply Take.there)) | apply Ent.opt0 | apply Ent.opt1 | apply Ent.void | apply Ent.emp0 | apply Ent.two | (apply Ent.allV; · exact sl_void) | (apply Ent.allM; · exact fun _ => sl_void) | apply Ent.f1 rfl | apply Ent.f2 rfl | apply Ent.f3 rfl | apply Ent.f4 rfl | apply Ent.f10 rfl | apply Ent.grp | assumption | exact trivial | rfl | omega)) w s
    rintro k ⟨hk, hn⟩
    refine GoC.seq ?_
    refine GoC.seq ?_
    refine GoC.region ?_
    refine GoL.y rfl (Y.move rfl) ?_
    refine GoL.y rfl (Y.move rfl) ?_
    first
      | refine GoL.y rfl (Y.lenRd Try.underlying23 rfl Rd.s) ?_
      | refine GoL.y rfl (Y.lenRd Try.underlying23 rfl ‹_›) ?_
      | refine GoL.y rfl (Y.lenSlice Try.underlying23 rfl) ?_
    refine GoL.y rfl (Y.lss rfl rfl) ?_
    refine GoL.nil ?_
    refine GoE.then_normal ?_
    refine GoC.condD rfl (fun h14 => ?_) (fun h14 => ?_)
    · refine GoC.skip ?_
      refine GoE.then_normal ?_
      refine GoC.seq ?_
      refine GoC.block ?_
      refine GoC.seq ?_
      refine GoC.draw [] [1, 1, 1, 1, 1, 1, 1, 1, 1] rfl (by kernel_rfl) ?_
      obtain ⟨x, hx⟩ := at_some (show k < xs.length by omega)
      obtain ⟨y, hy⟩ := at_some (show k < ys.length by omega)
      refine GoK.s rfl (Y.move rfl) ?_
      refine GoK.s rfl (Y.move rfl) ?_
      first
        | refine GoK.s rfl (Y.ixRd _ Try.underlying23 Try.sizeOf3 rfl rfl Rd.s rfl (by first | omega | decide)) ?_
        | refine GoK.s rfl (Y.ixRd _ Try.underlying23 Try.sizeOf3 rfl rfl ‹_› rfl (by first | omega | decide)) ?_
      refine GoK.s rfl (Y.load Try.isAgg3 rfl (Cell.rd0 Rd.s hx rfl)) ?_
      refine GoK.s rfl (Y.move rfl) ?_
      refine GoK.s rfl (Y.move rfl) ?_
      first
        | refine GoK.s rfl (Y.ixRd _ Try.underlying23 Try.sizeOf3 rfl rfl Rd.s rfl (by first | omega | decide)) ?_
        | refine GoK.s rfl (Y.ixRd _ Try.underlying23 Try.sizeOf3 rfl rfl ‹_› rfl (by first | omega | decide)) ?_
      refine GoK.s rfl (Y.load Try.isAgg3 rfl (Cell.rd0 Rd.s hy rfl)) ?_
      refine GoK.s rfl (Y.neq rfl rfl) ?_
      refine GoK.nil ?_
      refine GoE.then_normal ?_
      refine GoC.condD rfl (fun h25 => ?_) (fun h25 => ?_)
      · refine GoC.seq ?_
        refine GoC.region ?_
        refine GoL.y rfl (Y.assign rfl) ?_
        refine GoL.nil ?_
        refine GoE.then_normal ?_
        refine GoC.ret ?_
        refine GoE.block_ret (GoE.then_ret (GoE.then_ret (GoE.block_ret (GoE.then_ret ?_))))
        refine GoE.ret1 rfl rfl fun w s => ⟨(), ?_, trivial, finE (by repeat (first | exact Ent.nil | (apply Ent.cons; · repeat (first | exact Take.here | apply Take.there)) | apply Ent.opt0 | apply Ent.opt1 | apply Ent.void | apply Ent.emp0 | apply Ent.two | (apply Ent.allV; · exact sl_void) | (apply Ent.allM; · exact fun _ => sl_void) | apply Ent.f1 rfl | apply Ent.f2 rfl | apply Ent.f3 rfl | apply Ent.f4 rfl | apply Ent.f10 rfl | apply Ent.grp | assumption | exact trivial | rfl | omega)) s⟩
        rw [decide_eq_false (fun e => h25 (by rw [e] at hx; exact Option.some.inj (hx.symm.trans hy)))]
      · refine GoC.skip ?_
        refine GoE.block_normal (GoE.then_normal ?_)
        refine GoC.region ?_
        refine GoL.y rfl (Y.move rfl) ?_
        first
          | refine GoL.y rfl (Y.inc rfl rfl (by omega)) ?_
          | refine GoL.y rfl (Y.add rfl rfl (by omega)) ?_
        refine GoL.y rfl (Y.assign rfl) ?_
        refine GoL.nil ?_
        refine GoE.againK (k + 1) (by repeat (first | exact Top.base | refine Top.cons rfl ?_)) rfl ?_ ?_ ?_ ?_
        · first | omega | (dsimp only; omega)
        · exact ⟨by omega, by rw [take_snoc hx, take_snoc hy, hn, Decidable.of_not_not h25]⟩
        · exact ⟨rfl, trivial⟩
        · exact fun w s => Ent.kept (by repeat (first | exact Ent.nil | (apply Ent.cons; · repeat (first | exact Take.here | apply Take.there)) | apply Ent.opt0 | apply Ent.opt1 | apply Ent.void | apply Ent.emp0 | apply Ent.two | (apply Ent.allV; · exact sl_void) | (apply Ent.allM; · exact fun _ => sl_void) | apply Ent.f1 rfl | apply Ent.f2 rfl | apply Ent.f3 rfl | apply Ent.f4 rfl | apply Ent.f10 rfl | apply Ent.grp | assumption | exact trivial | rfl | omega)) w s
    · refine GoC.exit ?_
      refine GoE.then_exit (GoE.then_exit (GoE.block_here (GoE.then_normal ?_)))
      refine GoC.seq ?_
      refine GoC.region ?_
      refine GoL.y rfl (Y.assign rfl) ?_
      refine GoL.nil ?_
      refine GoE.then_normal ?_
      refine GoC.ret ?_
      obtain rfl : k = xs.length := by omega
      rw [List.take_length, List.take_of_length_le (by omega)] at hn
      refine GoE.ret1 rfl rfl fun w s => ⟨(), ?_, trivial, finE (by repeat (first | exact Ent.nil | (apply Ent.cons; · repeat (first | exact Take.here | apply Take.there)) | apply Ent.opt0 | apply Ent.opt1 | apply Ent.void | apply Ent.emp0 | apply Ent.two | (apply Ent.allV; · exact sl_void) | (apply Ent.allM; · exact fun _ => sl_void) | apply Ent.f1 rfl | apply Ent.f2 rfl | apply Ent.f3 rfl | apply Ent.f4 rfl | apply Ent.f10 rfl | apply Ent.grp | assumption | exact trivial | rfl | omega)) s⟩
      rw [decide_eq_true hn]

set_option maxRecDepth 20000 in
theorem kern_New {W : World} {A : HProp} {v : Value} {ps : List PrgV} {procs : Int} (hr : Rd W [A] prgE 8 v ps) (hp : ∀ p ∈ ps, PrgRd W [A] p) (hb : ps.length ≤ 1000000000 ∧ ∀ p ∈ ps, p.fs.length ≤ 1000000000 ∧ p.sems.length ≤ 1000000000 ∧ p.pipes.length ≤ 1000000000) : Fn Try.prog W 6 [.int .i64 procs, v] [A] (Option Nat) (fun o => .tuple #[ptrO o, .int .i64 (krnErr procs (ps.map PrgV.p))]) (fun o => o.isSome = decide (krnErr procs (ps.map PrgV.p) = 0)) (fun o => [optH (fun b => krnH b (Krn.new procs (ps.map PrgV.p))) o, A]) := by
  refine Fn.intro (N := 60) Try.func6 rfl Try.ntmps6 rfl fun F => ?_
  haveI hRI : ∀ (H : List HProp) [HasH H A], ReadsC W H v prgE 8 ps := fun H h => ⟨hr.at h.has⟩
  show GoC _ _ _ _ _ _ [A, F]
  have hml : (ps.map PrgV.p).length = ps.length := List.length_map ..
  refine GoC.seq ?_
  refine GoC.region ?_
  refine GoL.y rfl (Y.assign rfl) ?_
  refine GoL.y rfl (Y.assign rfl) ?_
  refine GoL.nil ?_
  refine GoE.then_normal ?_
  refine GoC.seq ?_
  refine GoC.seq ?_
  refine GoC.region ?_
  refine GoL.y rfl (Y.move rfl) ?_
  refine GoL.y rfl (Y.lss rfl rfl) ?_
  refine GoL.y rfl (Y.move rfl) ?_
  first
    | apply GoL.segOD 3 16 13 [13, 14, 15, 16] rfl
    | apply GoL.segO 3 16 13 [13, 14, 15, 16] rfl
  · intro h13
    refine GoL.yg rfl rfl rfl (Y.move rfl) ?_
    refine GoL.yg rfl rfl rfl (Y.gtr rfl rfl) ?_
    refine GoL.y rfl (Y.pickF rfl rfl) ?_
    refine GoL.nil ?_
    refine GoE.seg (by repeat (first | exact Top.base | refine Top.cons rfl ?_)) rfl (by first | exact fun _ h => h | exact Ent.kept (by repeat (first | exact Ent.nil | (apply Ent.cons; · repeat (first | exact Take.here | apply Take.there)) | apply Ent.opt0 | apply Ent.opt1 | apply Ent.void | apply Ent.emp0 | apply Ent.two | (apply Ent.allV; · exact sl_void) | (apply Ent.allM; · exact fun _ => sl_void) | apply Ent.f1 rfl | apply Ent.f2 rfl | apply Ent.f3 rfl | apply Ent.f4 rfl | apply Ent.f10 rfl | apply Ent.grp | assumption | exact trivial | rfl | omega)))
  · intro h13
    refine GoL.skip rfl rfl rfl rfl ?_
    refine GoL.skip rfl rfl rfl rfl ?_
    refine GoL.y rfl (Y.pickT rfl rfl) ?_
    refine GoL.nil ?_
    refine GoE.seg (by repeat (first | exact Top.base | refine Top.cons rfl ?_)) rfl (by first | exact fun _ h => h | exact Ent.kept (by repeat (first | exact Ent.nil | (apply Ent.cons; · repeat (first | exact Take.here | apply Take.there)) | apply Ent.opt0 | apply Ent.opt1 | apply Ent.void | apply Ent.emp0 | apply Ent.two | (apply Ent.allV; · exact sl_void) | (apply Ent.allM; · exact fun _ => sl_void) | apply Ent.f1 rfl | apply Ent.f2 rfl | apply Ent.f3 rfl | apply Ent.f4 rfl | apply Ent.f10 rfl | apply Ent.grp | assumption | exact trivial | rfl | omega)))
  refine GoL.y rfl (Y.move rfl) ?_
  first
    | apply GoL.segOD 4 21 17 [17, 18, 19, 20, 21] rfl
    | apply GoL.segO 4 21 17 [17, 18, 19, 20, 21] rfl
  · intro h17
    refine GoL.yg rfl rfl rfl (Y.move rfl) ?_
    first
      | refine GoL.yg rfl rfl rfl (Y.lenRd Try.underlying22 rfl Rd.s) ?_
      | refine GoL.yg rfl rfl rfl (Y.lenRd Try.underlying22 rfl ‹_›) ?_
      | refine GoL.yg rfl rfl rfl (Y.lenSlice Try.underlying22 rfl) ?_
    refine GoL.yg rfl rfl rfl (Y.lss rfl rfl) ?_
    refine GoL.y rfl (Y.pickF rfl rfl) ?_
    refine GoL.nil ?_
    refine GoE.seg (by repeat (first | exact Top.base | refine Top.cons rfl ?_)) rfl (by first | exact fun _ h => h | exact Ent.kept (by repeat (first | exact Ent.nil | (apply Ent.cons; · repeat (first | exact Take.here | apply Take.there)) | apply Ent.opt0 | apply Ent.opt1 | apply Ent.void | apply Ent.emp0 | apply Ent.two | (apply Ent.allV; · exact sl_void) | (apply Ent.allM; · exact fun _ => sl_void) | apply Ent.f1 rfl | apply Ent.f2 rfl | apply Ent.f3 rfl | apply Ent.f4 rfl | apply Ent.f10 rfl | apply Ent.grp | assumption | exact trivial | rfl | omega)))
  · intro h17
    refine GoL.skip rfl rfl rfl rfl ?_
    refine GoL.skip rfl rfl rfl rfl ?_
    refine GoL.skip rfl rfl rfl rfl ?_
    refine GoL.y rfl (Y.pickT rfl rfl) ?_
    refine GoL.nil ?_
    refine GoE.seg (by repeat (first | exact Top.base | refine Top.cons rfl ?_)) rfl (by first | exact fun _ h => h | exact Ent.kept (by repeat (first | exact Ent.nil | (apply Ent.cons; · repeat (first | exact Take.here | apply Take.there)) | apply Ent.opt0 | apply Ent.opt1 | apply Ent.void | apply Ent.emp0 | apply Ent.two | (apply Ent.allV; · exact sl_void) | (apply Ent.allM; · exact fun _ => sl_void) | apply Ent.f1 rfl | apply Ent.f2 rfl | apply Ent.f3 rfl | apply Ent.f4 rfl | apply Ent.f10 rfl | apply Ent.grp | assumption | exact trivial | rfl | omega)))
  refine GoL.y rfl (Y.move rfl) ?_
  first
    | apply GoL.segOD 4 26 22 [22, 23, 24, 25, 26] rfl
    | apply GoL.segO 4 26 22 [22, 23, 24, 25, 26] rfl
  · intro h22
    refine GoL.yg rfl rfl rfl (Y.move rfl) ?_
    first
      | refine GoL.yg rfl rfl rfl (Y.lenRd Try.underlying22 rfl Rd.s) ?_
      | refine GoL.yg rfl rfl rfl (Y.lenRd Try.underlying22 rfl ‹_›) ?_
      | refine GoL.yg rfl rfl rfl (Y.lenSlice Try.underlying22 rfl) ?_
    refine GoL.yg rfl rfl rfl (Y.gtr rfl rfl) ?_
    refine GoL.y rfl (Y.pickF rfl rfl) ?_
    refine GoL.nil ?_
    refine GoE.seg (by repeat (first | exact Top.base | refine Top.cons rfl ?_)) rfl (by first | exact fun _ h => h | exact Ent.kept (by repeat (first | exact Ent.nil | (apply Ent.cons; · repeat (first | exact Take.here | apply Take.there)) | apply Ent.opt0 | apply Ent.opt1 | apply Ent.void | apply Ent.emp0 | apply Ent.two | (apply Ent.allV; · exact sl_void) | (apply Ent.allM; · exact fun _ => sl_void) | apply Ent.f1 rfl | apply Ent.f2 rfl | apply Ent.f3 rfl | apply Ent.f4 rfl | apply Ent.f10 rfl | apply Ent.grp | assumption | exact trivial | rfl | omega)))
  · intro h22
    refine GoL.skip rfl rfl rfl rfl ?_
    refine GoL.skip rfl rfl rfl rfl ?_
    refine GoL.skip rfl rfl rfl rfl ?_
    refine GoL.y rfl (Y.pickT rfl rfl) ?_
    refine GoL.nil ?_
    refine GoE.seg (by repeat (first | exact Top.base | refine Top.cons rfl ?_)) rfl (by first | exact fun _ h => h | exact Ent.kept (by repeat (first | exact Ent.nil | (apply Ent.cons; · repeat (first | exact Take.here | apply Take.there)) | apply Ent.opt0 | apply Ent.opt1 | apply Ent.void | apply Ent.emp0 | apply Ent.two | (apply Ent.allV; · exact sl_void) | (apply Ent.allM; · exact fun _ => sl_void) | apply Ent.f1 rfl | apply Ent.f2 rfl | apply Ent.f3 rfl | apply Ent.f4 rfl | apply Ent.f10 rfl | apply Ent.grp | assumption | exact trivial | rfl | omega)))
  refine GoL.nil ?_
  refine GoE.then_normal ?_
  refine GoC.cond rfl (fun h26 => ?_) (fun h26 => ?_)
  · simp only [Bool.and_eq_true, Bool.or_eq_true, Bool.and_eq_false_iff, Bool.or_eq_false_iff, decide_eq_true_eq, decide_eq_false_iff_not, Bool.not_eq_true', Bool.not_eq_false'] at h26
    refine GoC.seq ?_
    refine GoC.region ?_
    refine GoL.y rfl (Y.assign rfl) ?_
    refine GoL.y rfl (Y.assign rfl) ?_
    refine GoL.nil ?_
    refine GoE.then_normal ?_
    refine GoC.ret ?_
    refine GoE.then_ret ?_
    refine GoE.ret2 rfl rfl rfl fun w s => ⟨none, ?_, by rw [kerr_bad (by rw [hml]; exact h26)]; rfl, finE (by repeat (first | exact Ent.nil | (apply Ent.cons; · repeat (first | exact Take.here | apply Take.there)) | apply Ent.opt0 | apply Ent.opt1 | apply Ent.void | apply Ent.emp0 | apply Ent.two | (apply Ent.allV; · exact sl_void) | (apply Ent.allM; · exact fun _ => sl_void) | apply Ent.f1 rfl | apply Ent.f2 rfl | apply Ent.f3 rfl | apply Ent.f4 rfl | apply Ent.f10 rfl | apply Ent.grp | assumption | exact trivial | rfl | omega)) s⟩
    rw [kerr_bad (by rw [hml]; exact h26)]; rfl
  · simp only [Bool.and_eq_true, Bool.or_eq_true, Bool.and_eq_false_iff, Bool.or_eq_false_iff, decide_eq_true_eq, decide_eq_false_iff_not, Bool.not_eq_true', Bool.not_eq_false'] at h26
    refine GoC.skip ?_
    refine GoE.then_normal ?_
    refine GoC.seq ?_
    refine GoC.region ?_
    have hbd : 1 ≤ procs ∧ procs ≤ 64 ∧ 1 ≤ (ps.map PrgV.p).length ∧ (ps.map PrgV.p).length ≤ 8 := by rw [hml]; omega
    obtain ⟨N, rfl⟩ : ∃ N : Nat, procs = (N : Int) := ⟨procs.toNat, by omega⟩
    have hke := kerr_ok hbd
    refine GoL.does rfl (Does.bsl 3 rfl rfl (by kernel_rfl)) ?_
    rintro _ _ ⟨b27, rfl, rfl⟩
    refine GoL.y rfl (Y.move rfl) ?_
    refine GoL.does rfl (Does.callE rfl Try.call16 rfl (RepeatI (A := arr b27 0 [.int .i64 (-1)]) (a := -1) (Rd.lit .here rfl (fun _ _ => rfl) rfl) (by omega)) (by repeat (first | exact Ent.nil | (apply Ent.cons; · repeat (first | exact Take.here | apply Take.there)) | apply Ent.opt0 | apply Ent.opt1 | apply Ent.void | apply Ent.emp0 | apply Ent.two | (apply Ent.allV; · exact sl_void) | (apply Ent.allM; · exact fun _ => sl_void) | apply Ent.f1 rfl | apply Ent.f2 rfl | apply Ent.f3 rfl | apply Ent.f4 rfl | apply Ent.f10 rfl | apply Ent.grp | assumption | exact trivial | rfl | omega))) ?_
    rintro _ _ ⟨u29, -, rfl, rfl⟩
    refine GoL.know (fun w s => Rd.shape (Rd.sl (by repeat (first | exact At.here | refine At.there ?_))) w s) fun e => ?_
    obtain ⟨a29, c29, rfl⟩ := e
    rw [show (List.replicate N (-1 : Int)).length = N from List.length_replicate ..]
    refine GoL.y rfl (Y.bld1 (fun v1 => [v1, (.slice none 0 0)]) rfl (by kernel_rfl)) ?_
    refine GoL.does rfl (Does.box rfl rfl rfl) ?_
    rintro _ _ ⟨b31, rfl, rfl⟩
    refine GoL.y rfl (Y.assign rfl) ?_
    refine GoL.nil ?_
    refine GoE.then_normal ?_
    refine GoC.seq ?_
    refine GoC.seq ?_
    refine GoC.region ?_
    refine GoL.y rfl (Y.move rfl) ?_
    first
      | refine GoL.y rfl (Y.lenRd Try.underlying22 rfl Rd.s) ?_
      | refine GoL.y rfl (Y.lenRd Try.underlying22 rfl ‹_›) ?_
      | refine GoL.y rfl (Y.lenSlice Try.underlying22 rfl) ?_
    refine GoL.y rfl (Y.move rfl) ?_
    refine GoL.nil ?_
    refine GoE.then_normal ?_
    refine GoC.block ?_
    refine GoC.loopK (X := Nat × Value × List (Nat × Lib)) [4, 5, 8, 9, 10, 34, 35, 36, 37, 38, 39, 40, 41, 42, 43, 44, 45, 46, 47, 48, 49, 50, 51, 52, 53, 54, 55, 56, 57, 58] (fun z => ps.length - z.1) (fun z => z.1 ≤ ps.length ∧ z.2.2.length = z.1 ∧ z.2.2.map (·.2) = ((ps.map PrgV.p).take z.1).map (fun p => Lib.new (Spc.new p) N) ∧ checkAll (ps.map PrgV.p) = checkAll ((ps.map PrgV.p).drop z.1)) (fun z => [(34, some (.int .i64 (z.1 : Int)))]) (fun z => [arr b31 0 [.slice a29 N c29, z.2.1], sl intE 1 (.slice a29 N c29) (List.replicate N (-1)), sl ptrE 1 z.2.1 z.2.2, allH (fun x : Nat × Lib => libH x.1 x.2) z.2.2, A, F]) (0, .slice none 0 0, []) ?_ ?_ ?_ ?_
    · exact ⟨Nat.zero_le _, rfl, rfl, rfl⟩
    · exact ⟨rfl, trivial⟩
    · exact fun w s => Ent.kept (by repeat (first | exact Ent.nil | (apply Ent.cons; · repeat (first | exact Take.here | apply Take.there)) | apply Ent.opt0 | apply Ent.opt1 | apply Ent.void | apply Ent.emp0 | apply Ent.two | (apply Ent.allV; · exact sl_void) | (apply Ent.allM; · exact fun _ => sl_void) | apply Ent.f1 rfl | apply Ent.f2 rfl | apply Ent.f3 rfl | apply Ent.f4 rfl | apply Ent.f10 rfl | apply Ent.grp | assumption | exact trivial | rfl | omega)) w s
    rintro ⟨n, vl, xs⟩ ⟨hk, hxl, hxm0, hck⟩
    simp only at hk hxl hxm0 hck
    refine GoC.seq ?_
    refine GoC.region ?_
    refine GoL.y rfl (Y.lss rfl rfl) ?_
    refine GoL.nil ?_
    refine GoE.then_normal ?_
    refine GoC.seq ?_
    refine GoC.condD rfl (fun h35 => ?_) (fun h35 => ?_)
    · refine GoC.skip ?_
      refine GoE.then_normal ?_
      refine GoC.seq ?_
      refine GoC.block ?_
      refine GoC.seq ?_
      refine GoC.region ?_
      obtain ⟨x, hx⟩ := at_some (show n < ps.length by omega)
      have hxm : (ps.map PrgV.p)[n]? = some x.p := by rw [List.getElem?_map, hx]; rfl
      have hpx := hp x (List.mem_of_getElem? hx)
      have hbx := hb.2 x (List.mem_of_getElem? hx)
      refine GoL.know (fun w s => prg_all hpx (by repeat (first | exact At.here | refine At.there ?_)) w s) fun hone => ?_
      first
        | refine GoL.y rfl (Y.ixRd _ Try.underlying22 Try.sizeOf47 rfl rfl Rd.s rfl (by first | omega | decide)) ?_
        | refine GoL.y rfl (Y.ixRd _ Try.underlying22 Try.sizeOf47 rfl rfl ‹_› rfl (by first | omega | decide)) ?_
      refine GoL.y rfl (Y.lda Try.isAgg47 rfl (Cells.rd Rd.s hx) (by exact Try.sizeOf47)) ?_
      refine GoL.does rfl (Does.alloc rfl Try.zeroValue47 rfl) ?_
      rintro _ _ ⟨b8, rfl, rfl⟩
      refine GoL.does rfl (Does.stp (by exact Try.sizeOf47) rfl rfl hone rfl) ?_
      rintro _ _ ⟨rfl, rfl⟩
      refine GoL.nil ?_
      refine GoE.then_normal ?_
      refine GoC.seq ?_
      refine GoC.region ?_
      first
        | refine GoL.y rfl (Y.lda Try.isAgg47 rfl Cells.a (by exact Try.sizeOf47)) ?_
        | refine GoL.y rfl (Y.lda Try.isAgg47 rfl (Cells.rd ‹_› ‹_›) (by exact Try.sizeOf47)) ?_
        | refine GoL.y rfl (Y.lda Try.isAgg47 rfl (Cells.rd Rd.s ‹_›) (by exact Try.sizeOf47)) ?_
        | refine GoL.y rfl (Y.lda Try.isAgg47 rfl (Cells.part0 Cells.a rfl) (by exact Try.sizeOf47)) ?_
      refine GoL.does rfl (Does.callE rfl Try.call17 rfl (core_New hpx hbx) (by repeat (first | exact Ent.nil | (apply Ent.cons; · repeat (first | exact Take.here | apply Take.there)) | apply Ent.opt0 | apply Ent.opt1 | apply Ent.void | apply Ent.emp0 | apply Ent.two | (apply Ent.allV; · exact sl_void) | (apply Ent.allM; · exact fun _ => sl_void) | apply Ent.f1 rfl | apply Ent.f2 rfl | apply Ent.f3 rfl | apply Ent.f4 rfl | apply Ent.f10 rfl | apply Ent.grp | assumption | exact trivial | rfl | omega))) ?_
      rintro _ _ ⟨o, ho, rfl, rfl⟩
      refine GoL.y rfl (Y.move rfl) ?_
      refine GoL.y rfl (Y.extract rfl rfl) ?_
      refine GoL.y rfl (Y.extract rfl rfl) ?_
      refine GoL.y rfl (Y.assign rfl) ?_
      refine GoL.y rfl (Y.assign rfl) ?_
      refine GoL.nil ?_
      refine GoE.then_normal ?_
      refine GoC.seq ?_
      refine GoC.seq ?_
      refine GoC.region ?_
      refine GoL.y rfl (Y.move rfl) ?_
      refine GoL.y rfl (Y.neq rfl rfl) ?_
      refine GoL.nil ?_
      refine GoE.then_normal ?_
      refine GoC.condD rfl (fun h44 => ?_) (fun h44 => ?_)
      · refine GoC.seq ?_
        refine GoC.region ?_
        refine GoL.y rfl (Y.move rfl) ?_
        refine GoL.y rfl (Y.assign rfl) ?_
        refine GoL.y rfl (Y.assign rfl) ?_
        refine GoL.nil ?_
        refine GoE.then_normal ?_
        refine GoC.ret ?_
        refine GoE.then_ret (GoE.block_ret (GoE.then_ret (GoE.then_ret (GoE.block_ret (GoE.then_ret ?_)))))
        refine GoE.ret2 rfl rfl rfl fun w s => ⟨none, ?_, by rw [hke, hck, check_stop hxm h44]; exact (decide_eq_false h44).symm, finE (by repeat (first | exact Ent.nil | (apply Ent.cons; · repeat (first | exact Take.here | apply Take.there)) | apply Ent.opt0 | apply Ent.opt1 | apply Ent.void | apply Ent.emp0 | apply Ent.two | (apply Ent.allV; · exact sl_void) | (apply Ent.allM; · exact fun _ => sl_void) | apply Ent.f1 rfl | apply Ent.f2 rfl | apply Ent.f3 rfl | apply Ent.f4 rfl | apply Ent.f10 rfl | apply Ent.grp | assumption | exact trivial | rfl | omega)) s⟩
        rw [hke, hck, check_stop hxm h44]; rfl
      · have h44 := Decidable.of_not_not h44
        obtain ⟨bs, rfl⟩ := Option.isSome_iff_exists.1 (ho.trans (decide_eq_true h44))
        refine GoC.fr (A := optH (fun b => spcH b (Spc.new x.p)) (some bs)) (Bs := [spcH bs (Spc.new x.p)]) (by repeat (first | exact Take.here | apply Take.there)) opt_some ?_
        refine GoC.o1 (C := spcH bs (Spc.new x.p)) (by repeat (first | exact Take.here | apply Take.there)) rfl ?_
        rintro pt -
        refine GoC.skip ?_
        refine GoE.then_normal ?_
        refine GoC.draw [arr b31 0 [.slice a29 N c29, vl]] [0, 0, 0, 0, 0, 1, 1, 2, 2, 2, 1, 1, 3] rfl (by kernel_rfl) ?_
        refine GoK.k rfl (Kept.ok (by repeat (first | exact Kept.nil | exact Take.here | apply Take.there | apply Kept.take))) (Y.move rfl) ?_
        refine GoK.k rfl (Kept.ok (by repeat (first | exact Kept.nil | exact Take.here | apply Take.there | apply Kept.take))) (Y.move rfl) ?_
        refine GoK.k rfl (Kept.ok (by repeat (first | exact Kept.nil | exact Take.here | apply Take.there | apply Kept.take))) (Y.nilCheck rfl) ?_
        first
          | refine GoK.k rfl (Kept.ok (by repeat (first | exact Kept.nil | exact Take.here | apply Take.there | apply Kept.take))) (Y.fieldAddr0 1 42 Try.underlying44 rfl Try.sizeOf42 rfl) ?_
          | refine GoK.k rfl (Kept.ok (by repeat (first | exact Kept.nil | exact Take.here | apply Take.there | apply Kept.take))) (Y.fieldAddr 1 42 Try.underlying44 rfl Try.sizeOf42 rfl) ?_
        first
          | refine GoK.k rfl (Kept.ok (by repeat (first | exact Kept.nil | exact Take.here | apply Take.there | apply Kept.take))) (Y.load Try.isAgg42 rfl (Cell.a (by rfl))) ?_
          | refine GoK.k rfl (Kept.ok (by repeat (first | exact Kept.nil | exact Take.here | apply Take.there | apply Kept.take))) (Y.load Try.isAgg42 rfl (Cell.rd0 Rd.s ‹_› (by rfl))) ?_
          | refine GoK.k rfl (Kept.ok (by repeat (first | exact Kept.nil | exact Take.here | apply Take.there | apply Kept.take))) (Y.load Try.isAgg42 rfl (Cell.rd Rd.s ‹_› (by rfl))) ?_
          | refine GoK.k rfl (Kept.ok (by repeat (first | exact Kept.nil | exact Take.here | apply Take.there | apply Kept.take))) (Y.load Try.isAgg42 rfl (Cell.ao (by rfl))) ?_
          | refine GoK.k rfl (Kept.ok (by repeat (first | exact Kept.nil | exact Take.here | apply Take.there | apply Kept.take))) (Y.load Try.isAgg42 rfl (Cell.az (by rfl))) ?_
          | refine GoK.k rfl (Kept.ok (by repeat (first | exact Kept.nil | exact Take.here | apply Take.there | apply Kept.take))) (Y.load Try.isAgg42 rfl (Cell.a ‹_›)) ?_
          | refine GoK.k rfl (Kept.ok (by repeat (first | exact Kept.nil | exact Take.here | apply Take.there | apply Kept.take))) (Y.load Try.isAgg42 rfl (Cell.rd0 ‹_› ‹_› (by rfl))) ?_
          | refine GoK.k rfl (Kept.ok (by repeat (first | exact Kept.nil | exact Take.here | apply Take.there | apply Kept.take))) (Y.load Try.isAgg42 rfl (Cell.rd ‹_› ‹_› (by rfl))) ?_
        refine GoK.s rfl (Y.move rfl) ?_
        refine GoK.s rfl (Y.move rfl) ?_
        refine GoK.d2 rfl (Kept.ok (by repeat (first | exact Kept.nil | exact Take.here | apply Take.there | apply Kept.take))) (Does.callE rfl Try.call18 rfl (lib_New (bs := bs) (ps := pt) (s := Spc.new x.p) (p := (N : Int)) (new_thr _)) (by repeat (first | exact Ent.nil | (apply Ent.cons; · repeat (first | exact Take.here | apply Take.there)) | apply Ent.opt0 | apply Ent.opt1 | apply Ent.void | apply Ent.emp0 | apply Ent.two | (apply Ent.allV; · exact sl_void) | (apply Ent.allM; · exact fun _ => sl_void) | apply Ent.f1 rfl | apply Ent.f2 rfl | apply Ent.f3 rfl | apply Ent.f4 rfl | apply Ent.f10 rfl | apply Ent.grp | assumption | exact trivial | rfl | omega))) (by rintro _ _ ⟨x53, -, rfl, rfl⟩; exact (Kept.ok (by repeat (first | exact Kept.nil | exact Take.here | apply Take.there | apply Kept.take)))) ?_
        rintro _ _ ⟨x53, -, rfl, rfl⟩
        refine GoK.d2 rfl (Kept.ok (by repeat (first | exact Kept.nil | exact Take.here | apply Take.there | apply Kept.take))) (Does.bsl 51 rfl rfl (by kernel_rfl)) (by rintro _ _ ⟨b54, rfl, rfl⟩; exact (Kept.ok (by repeat (first | exact Kept.nil | exact Take.here | apply Take.there | apply Kept.take)))) ?_
        rintro _ _ ⟨b54, rfl, rfl⟩
        refine GoK.d2 rfl (Kept.ok (by repeat (first | exact Kept.nil | exact Take.here | apply Take.there | apply Kept.take))) (Does.app1 (enc := ptrE) (k := 1) ((x53, Lib.new (Spc.new x.p) N) : Nat × Lib) rfl Try.underlying42 Try.underlying42 Try.typeInfo51 rfl rfl rfl (by decide) rfl rfl rfl (by repeat (first | exact At.here | refine At.there ?_)) rfl (by repeat (first | exact Take.here | apply Take.there)) (by first | omega | (dsimp only; omega)) rfl) (by rintro _ _ ⟨v55, rfl, rfl⟩; exact (Kept.ok (by repeat (first | exact Kept.nil | exact Take.here | apply Take.there | apply Kept.take)))) ?_
        rintro _ _ ⟨v55, rfl, rfl⟩
        refine GoK.s rfl (Y.nilCheck rfl) ?_
        first
          | refine GoK.s rfl (Y.fieldAddr0 1 42 Try.underlying44 rfl Try.sizeOf42 rfl) ?_
          | refine GoK.s rfl (Y.fieldAddr 1 42 Try.underlying44 rfl Try.sizeOf42 rfl) ?_
        first
          | refine GoK.d3 rfl (Does.stS Try.sizeOf42 rfl rfl rfl) ?_
          | refine GoK.d3 rfl (Does.st Try.sizeOf42 rfl rfl rfl rfl) ?_
          | refine GoK.d3 rfl (Does.stoS Try.sizeOf42 rfl rfl rfl) ?_
          | refine GoK.d3 rfl (Does.stzS Try.sizeOf42 rfl rfl rfl) ?_
        rintro _ _ ⟨rfl, rfl⟩
        refine GoK.nil ?_
        refine GoE.block_normal (GoE.then_normal ?_)
        refine GoC.region ?_
        first
          | refine GoL.y rfl (Y.inc rfl rfl (by omega)) ?_
          | refine GoL.y rfl (Y.add rfl rfl (by omega)) ?_
        refine GoL.y rfl (Y.move rfl) ?_
        refine GoL.nil ?_
        refine GoE.againK (n + 1, v55, xs ++ [(x53, Lib.new (Spc.new x.p) N)]) (by repeat (first | exact Top.base | refine Top.cons rfl ?_)) rfl ?_ ?_ ?_ ?_
        · show ps.length - (n + 1) < ps.length - n; omega
        · exact ⟨by show n + 1 ≤ _; omega, by simp [hxl], by rw [take_snoc hxm]; simp [hxm0], by rw [hck, check_snoc hxm h44]⟩
        · exact ⟨rfl, trivial⟩
        · show ∀ w, Sat _ w _ → Sat _ w (seps [_, _, sl ptrE 1 v55 (xs ++ [(x53, Lib.new (Spc.new x.p) N)]), allH (fun x : Nat × Lib => libH x.1 x.2) (xs ++ [(x53, Lib.new (Spc.new x.p) N)]), A, F])
          rw [allH_snoc]
          exact fun w s => Ent.kept (by repeat (first | exact Ent.nil | (apply Ent.cons; · repeat (first | exact Take.here | apply Take.there)) | apply Ent.opt0 | apply Ent.opt1 | apply Ent.void | apply Ent.emp0 | apply Ent.two | (apply Ent.allV; · exact sl_void) | (apply Ent.allM; · exact fun _ => sl_void) | apply Ent.f1 rfl | apply Ent.f2 rfl | apply Ent.f3 rfl | apply Ent.f4 rfl | apply Ent.f10 rfl | apply Ent.grp | assumption | exact trivial | rfl | omega)) w s
    · refine GoC.exit ?_
      refine GoE.then_exit (GoE.then_exit (GoE.block_here (GoE.then_normal ?_)))
      refine GoC.seq ?_
      refine GoC.region ?_
      refine GoL.y rfl (Y.move rfl) ?_
      refine GoL.y rfl (Y.assign rfl) ?_
      refine GoL.y rfl (Y.assign rfl) ?_
      refine GoL.nil ?_
      refine GoE.then_normal ?_
      refine GoC.ret ?_
      obtain rfl : n = ps.length := by omega
      have hk0 : krnErr N (ps.map PrgV.p) = 0 := by rw [hke, hck, List.drop_of_length_le (by rw [hml]; omega)]; rfl
      have hxx : xs.map (·.1) = xs.map (·.1) ∧ xs.map (·.2) = (Krn.new N (ps.map PrgV.p)).libs := ⟨rfl, by rw [hxm0, List.take_of_length_le (by rw [hml]; omega)]; rfl⟩
      refine GoE.ret2 rfl rfl rfl fun w s => ⟨some b31, ?_, by rw [hk0]; rfl, finE (by repeat (first | exact Ent.nil | (apply Ent.cons; · repeat (first | exact Take.here | apply Take.there)) | apply Ent.opt0 | apply Ent.opt1 | apply Ent.void | apply Ent.emp0 | apply Ent.two | (apply Ent.allV; · exact sl_void) | (apply Ent.allM; · exact fun _ => sl_void) | apply Ent.f1 rfl | apply Ent.f2 rfl | apply Ent.f3 rfl | apply Ent.f4 rfl | apply Ent.f10 rfl | apply Ent.grp | assumption | exact trivial | rfl | omega)) s⟩
      rw [hk0]; rfl

set_option maxRecDepth 20000 in
theorem share_wants {W : World} {b : Nat} {dv pv ov : Value} {d : Deal} {A : HProp} (hd : Rd W [A] intE 1 dv d.demand) (hpr : Rd W [A] intE 1 pv d.prio) (hok : DOk d) {n : Nat} {p : Int} (hn : n < d.demand.length) : Fn Try.prog W 79 [ptr b, .int .i64 (n : Int), .int .i64 p] [arr b 0 [.int .i64 d.left, dv, pv, ov], sl intE 1 ov d.out, A] Unit (fun _ => .bool (d.wants n p)) (fun _ => True) (fun _ => [arr b 0 [.int .i64 d.left, dv, pv, ov], sl intE 1 ov d.out, A]) := by
  refine Fn.intro (N := 33) Try.func79 rfl Try.ntmps79 rfl fun F => ?_
  haveI hRD : ∀ (H : List HProp) [HasH H A], ReadsC W H dv intE 1 d.demand := fun H h => ⟨hd.at h.has⟩
  haveI hRP : ∀ (H : List HProp) [HasH H A], ReadsC W H pv intE 1 d.prio := fun H h => ⟨hpr.at h.has⟩
  show GoC _ _ _ _ _ _ [arr b 0 [.int .i64 d.left, dv, pv, ov], sl intE 1 ov d.out, A, F]
  obtain ⟨z, hz⟩ := at_some hn
  obtain ⟨x, hx⟩ := at_some (show n < d.prio.length by rw [hok.pl]; exact hn)
  obtain ⟨y, hy⟩ := at_some (show n < d.out.length by rw [hok.ol]; exact hn)
  have hpl := hok.pl
  have hol := hok.ol
  have hdl := hok.dl
  refine GoC.seq ?_
  refine GoC.region ?_
  refine GoL.y rfl (Y.assign rfl) ?_
  refine GoL.nil ?_
  refine GoE.then_normal ?_
  refine GoC.seq ?_
  refine GoC.draw [] [1, 1, 1, 1, 1, 1, 1, 1, 1, 1, 1, 1, 1, 1, 1, 1, 1, 1, 1, 1, 1, 1, 1, 1, 1, 1, 1] rfl (by kernel_rfl) ?_
  refine GoK.s rfl (Y.move rfl) ?_
  refine GoK.s rfl (Y.nilCheck rfl) ?_
  first
    | refine GoK.s rfl (Y.fieldAddr0 2 23 Try.underlying117 rfl Try.sizeOf23 rfl) ?_
    | refine GoK.s rfl (Y.fieldAddr 2 23 Try.underlying117 rfl Try.sizeOf23 rfl) ?_
  first
    | refine GoK.s rfl (Y.load Try.isAgg23 rfl (Cell.a (by rfl))) ?_
    | refine GoK.s rfl (Y.load Try.isAgg23 rfl (Cell.rd0 Rd.s ‹_› (by rfl))) ?_
    | refine GoK.s rfl (Y.load Try.isAgg23 rfl (Cell.rd Rd.s ‹_› (by rfl))) ?_
    | refine GoK.s rfl (Y.load Try.isAgg23 rfl (Cell.ao (by rfl))) ?_
    | refine GoK.s rfl (Y.load Try.isAgg23 rfl (Cell.az (by rfl))) ?_
    | refine GoK.s rfl (Y.load Try.isAgg23 rfl (Cell.a ‹_›)) ?_
    | refine GoK.s rfl (Y.load Try.isAgg23 rfl (Cell.rd0 ‹_› ‹_› (by rfl))) ?_
    | refine GoK.s rfl (Y.load Try.isAgg23 rfl (Cell.rd ‹_› ‹_› (by rfl))) ?_
  refine GoK.s rfl (Y.move rfl) ?_
  refine GoK.s rfl (Y.ixRd n Try.underlying23 Try.sizeOf3 rfl rfl Rd.s rfl (by omega)) ?_
  refine GoK.s rfl (Y.load Try.isAgg3 rfl (Cell.rd0 Rd.s hx rfl)) ?_
  refine GoK.s rfl (Y.move rfl) ?_
  refine GoK.s rfl (Y.eql rfl rfl) ?_
  refine GoK.s rfl (Y.move rfl) ?_
  first
    | apply GoK.segAD 16 32 16 [16, 17, 18, 19, 20, 21, 22, 23, 24, 25, 26, 27, 28, 29, 30, 31, 32] rfl
    | apply GoK.segA 16 32 16 [16, 17, 18, 19, 20, 21, 22, 23, 24, 25, 26, 27, 28, 29, 30, 31, 32] rfl
  · intro h16
    refine GoK.sg rfl rfl rfl (Y.move rfl) ?_
    refine GoK.sg rfl rfl rfl (Y.nilCheck rfl) ?_
    first
      | refine GoK.sg rfl rfl rfl (Y.fieldAddr0 3 23 Try.underlying117 rfl Try.sizeOf23 rfl) ?_
      | refine GoK.sg rfl rfl rfl (Y.fieldAddr 3 23 Try.underlying117 rfl Try.sizeOf23 rfl) ?_
    first
      | refine GoK.sg rfl rfl rfl (Y.load Try.isAgg23 rfl (Cell.a (by rfl))) ?_
      | refine GoK.sg rfl rfl rfl (Y.load Try.isAgg23 rfl (Cell.rd0 Rd.s ‹_› (by rfl))) ?_
      | refine GoK.sg rfl rfl rfl (Y.load Try.isAgg23 rfl (Cell.rd Rd.s ‹_› (by rfl))) ?_
      | refine GoK.sg rfl rfl rfl (Y.load Try.isAgg23 rfl (Cell.ao (by rfl))) ?_
      | refine GoK.sg rfl rfl rfl (Y.load Try.isAgg23 rfl (Cell.az (by rfl))) ?_
      | refine GoK.sg rfl rfl rfl (Y.load Try.isAgg23 rfl (Cell.a ‹_›)) ?_
      | refine GoK.sg rfl rfl rfl (Y.load Try.isAgg23 rfl (Cell.rd0 ‹_› ‹_› (by rfl))) ?_
      | refine GoK.sg rfl rfl rfl (Y.load Try.isAgg23 rfl (Cell.rd ‹_› ‹_› (by rfl))) ?_
    refine GoK.sg rfl rfl rfl (Y.move rfl) ?_
    refine GoK.sg rfl rfl rfl (Y.ixRd n Try.underlying23 Try.sizeOf3 rfl rfl Rd.s rfl (by omega)) ?_
    refine GoK.sg rfl rfl rfl (Y.load Try.isAgg3 rfl (Cell.rd0 Rd.s hy rfl)) ?_
    refine GoK.sg rfl rfl rfl (Y.move rfl) ?_
    refine GoK.sg rfl rfl rfl (Y.nilCheck rfl) ?_
    first
      | refine GoK.sg rfl rfl rfl (Y.fieldAddr0 1 23 Try.underlying117 rfl Try.sizeOf23 rfl) ?_
      | refine GoK.sg rfl rfl rfl (Y.fieldAddr 1 23 Try.underlying117 rfl Try.sizeOf23 rfl) ?_
    first
      | refine GoK.sg rfl rfl rfl (Y.load Try.isAgg23 rfl (Cell.a (by rfl))) ?_
      | refine GoK.sg rfl rfl rfl (Y.load Try.isAgg23 rfl (Cell.rd0 Rd.s ‹_› (by rfl))) ?_
      | refine GoK.sg rfl rfl rfl (Y.load Try.isAgg23 rfl (Cell.rd Rd.s ‹_› (by rfl))) ?_
      | refine GoK.sg rfl rfl rfl (Y.load Try.isAgg23 rfl (Cell.ao (by rfl))) ?_
      | refine GoK.sg rfl rfl rfl (Y.load Try.isAgg23 rfl (Cell.az (by rfl))) ?_
      | refine GoK.sg rfl rfl rfl (Y.load Try.isAgg23 rfl (Cell.a ‹_›)) ?_
      | refine GoK.sg rfl rfl rfl (Y.load Try.isAgg23 rfl (Cell.rd0 ‹_› ‹_› (by rfl))) ?_
      | refine GoK.sg rfl rfl rfl (Y.load Try.isAgg23 rfl (Cell.rd ‹_› ‹_› (by rfl))) ?_
    refine GoK.sg rfl rfl rfl (Y.move rfl) ?_
    refine GoK.sg rfl rfl rfl (Y.ixRd n Try.underlying23 Try.sizeOf3 rfl rfl Rd.s rfl (by omega)) ?_
    refine GoK.sg rfl rfl rfl (Y.load Try.isAgg3 rfl (Cell.rd0 Rd.s hz rfl)) ?_
    refine GoK.sg rfl rfl rfl (Y.lss rfl rfl) ?_
    refine GoK.s rfl (Y.pickT rfl rfl) ?_
    refine GoK.nil ?_
    refine GoE.seg (by repeat (first | exact Top.base | refine Top.cons rfl ?_)) rfl (by first | exact fun _ h => h | exact Ent.kept (by repeat (first | exact Ent.nil | (apply Ent.cons; · repeat (first | exact Take.here | apply Take.there)) | apply Ent.opt0 | apply Ent.opt1 | apply Ent.void | apply Ent.emp0 | apply Ent.two | (apply Ent.allV; · exact sl_void) | (apply Ent.allM; · exact fun _ => sl_void) | apply Ent.f1 rfl | apply Ent.f2 rfl | apply Ent.f3 rfl | apply Ent.f4 rfl | apply Ent.f10 rfl | apply Ent.grp | assumption | exact trivial | rfl | omega)))
  · intro h16
    refine GoK.sskip rfl rfl rfl rfl ?_
    refine GoK.sskip rfl rfl rfl rfl ?_
    refine GoK.sskip rfl rfl rfl rfl ?_
    refine GoK.sskip rfl rfl rfl rfl ?_
    refine GoK.sskip rfl rfl rfl rfl ?_
    refine GoK.sskip rfl rfl rfl rfl ?_
    refine GoK.sskip rfl rfl rfl rfl ?_
    refine GoK.sskip rfl rfl rfl rfl ?_
    refine GoK.sskip rfl rfl rfl rfl ?_
    refine GoK.sskip rfl rfl rfl rfl ?_
    refine GoK.sskip rfl rfl rfl rfl ?_
    refine GoK.sskip rfl rfl rfl rfl ?_
    refine GoK.sskip rfl rfl rfl rfl ?_
    refine GoK.sskip rfl rfl rfl rfl ?_
    refine GoK.sskip rfl rfl rfl rfl ?_
    refine GoK.s rfl (Y.pickF rfl rfl) ?_
    refine GoK.nil ?_
    refine GoE.seg (by repeat (first | exact Top.base | refine Top.cons rfl ?_)) rfl (by first | exact fun _ h => h | exact Ent.kept (by repeat (first | exact Ent.nil | (apply Ent.cons; · repeat (first | exact Take.here | apply Take.there)) | apply Ent.opt0 | apply Ent.opt1 | apply Ent.void | apply Ent.emp0 | apply Ent.two | (apply Ent.allV; · exact sl_void) | (apply Ent.allM; · exact fun _ => sl_void) | apply Ent.f1 rfl | apply Ent.f2 rfl | apply Ent.f3 rfl | apply Ent.f4 rfl | apply Ent.f10 rfl | apply Ent.grp | assumption | exact trivial | rfl | omega)))
  refine GoK.s rfl (Y.assign rfl) ?_
  refine GoK.nil ?_
  refine GoE.then_normal ?_
  refine GoC.ret ?_
  refine GoE.ret1 rfl rfl fun w s => ⟨(), ?_, trivial, finE (by repeat (first | exact Ent.nil | (apply Ent.cons; · repeat (first | exact Take.here | apply Take.there)) | apply Ent.opt0 | apply Ent.opt1 | apply Ent.void | apply Ent.emp0 | apply Ent.two | (apply Ent.allV; · exact sl_void) | (apply Ent.allM; · exact fun _ => sl_void) | apply Ent.f1 rfl | apply Ent.f2 rfl | apply Ent.f3 rfl | apply Ent.f4 rfl | apply Ent.f10 rfl | apply Ent.grp | assumption | exact trivial | rfl | omega)) s⟩
  unfold Deal.wants; rw [getD_of hx, getD_of hy, getD_of hz]

set_option maxRecDepth 20000 in
theorem share_round {W : World} {b : Nat} {dv pv ov : Value} {d : Deal} {p : Int} {f : Nat} {A : HProp} (hd : Rd W [A] intE 1 dv d.demand) (hpr : Rd W [A] intE 1 pv d.prio) (hok : DOk d) (hf : f < d.demand.length) : Fn Try.prog W 59 [ptr b, .int .i64 p, .int .i64 (f : Int)] [arr b 0 [.int .i64 d.left, dv, pv, ov], sl intE 1 ov d.out, A] Unit (fun _ => .bool (d.round p f).2) (fun _ => True) (fun _ => [arr b 0 [.int .i64 (d.round p f).1.left, dv, pv, ov], sl intE 1 ov (d.round p f).1.out, A]) := by
  refine Fn.intro (N := 56) Try.func59 rfl Try.ntmps59 rfl fun F => ?_
  haveI hRD : ∀ (H : List HProp) [HasH H A], ReadsC W H dv intE 1 d.demand := fun H h => ⟨hd.at h.has⟩
  haveI hRP : ∀ (H : List HProp) [HasH H A], ReadsC W H pv intE 1 d.prio := fun H h => ⟨hpr.at h.has⟩
  show GoC _ _ _ _ _ _ [arr b 0 [.int .i64 d.left, dv, pv, ov], sl intE 1 ov d.out, A, F]
  have hln : d.demand.length ≤ 8 := hok.dl
  refine GoC.seq ?_
  refine GoC.region ?_
  refine GoL.y rfl (Y.assign rfl) ?_
  refine GoL.nil ?_
  refine GoE.then_normal ?_
  refine GoC.seq ?_
  refine GoC.region ?_
  refine GoL.y rfl (Y.assign rfl) ?_
  refine GoL.nil ?_
  refine GoE.then_normal ?_
  refine GoC.seq ?_
  refine GoC.seq ?_
  refine GoC.region ?_
  refine GoL.y rfl (Y.move rfl) ?_
  refine GoL.y rfl (Y.nilCheck rfl) ?_
  first
    | refine GoL.y rfl (Y.fieldAddr0 1 23 Try.underlying117 rfl Try.sizeOf23 rfl) ?_
    | refine GoL.y rfl (Y.fieldAddr 1 23 Try.underlying117 rfl Try.sizeOf23 rfl) ?_
  first
    | refine GoL.y rfl (Y.load Try.isAgg23 rfl (Cell.a (by rfl))) ?_
    | refine GoL.y rfl (Y.load Try.isAgg23 rfl (Cell.rd0 Rd.s ‹_› (by rfl))) ?_
    | refine GoL.y rfl (Y.load Try.isAgg23 rfl (Cell.rd Rd.s ‹_› (by rfl))) ?_
    | refine GoL.y rfl (Y.load Try.isAgg23 rfl (Cell.ao (by rfl))) ?_
    | refine GoL.y rfl (Y.load Try.isAgg23 rfl (Cell.az (by rfl))) ?_
    | refine GoL.y rfl (Y.load Try.isAgg23 rfl (Cell.a ‹_›)) ?_
    | refine GoL.y rfl (Y.load Try.isAgg23 rfl (Cell.rd0 ‹_› ‹_› (by rfl))) ?_
    | refine GoL.y rfl (Y.load Try.isAgg23 rfl (Cell.rd ‹_› ‹_› (by rfl))) ?_
  first
    | refine GoL.y rfl (Y.lenRd Try.underlying23 rfl Rd.s) ?_
    | refine GoL.y rfl (Y.lenRd Try.underlying23 rfl ‹_›) ?_
    | refine GoL.y rfl (Y.lenSlice Try.underlying23 rfl) ?_
  refine GoL.y rfl (Y.move rfl) ?_
  refine GoL.nil ?_
  refine GoE.then_normal ?_
  refine GoC.block ?_
  refine GoC.loopK (X := Nat × Deal × Bool) [7, 8, 9, 15, 16, 17, 18, 19, 20, 21, 22, 23, 24, 25, 26, 27, 28, 29, 30, 31, 32, 33, 34, 35, 36, 37, 38, 39, 40, 41, 42, 43, 44, 45, 46, 47, 48, 49, 50, 51, 52, 53, 54] (fun z => d.demand.length - z.1) (fun z => z.1 ≤ d.demand.length ∧ DOk z.2.1 ∧ z.2.1.demand = d.demand ∧ z.2.1.prio = d.prio ∧ d.round p f = Deal.go p f (d.demand.length - z.1) z.1 z.2.1 z.2.2) (fun z => [(15, some (.int .i64 (z.1 : Int))), (7, some (.bool z.2.2))]) (fun z => [arr b 0 [.int .i64 z.2.1.left, dv, pv, ov], sl intE 1 ov z.2.1.out, A, F]) (0, d, false) ?_ ?_ ?_ ?_
  · exact ⟨Nat.zero_le _, hok, rfl, rfl, rfl⟩
  · exact ⟨rfl, rfl, trivial⟩
  · exact fun w s => Ent.kept (by repeat (first | exact Ent.nil | (apply Ent.cons; · repeat (first | exact Take.here | apply Take.there)) | apply Ent.opt0 | apply Ent.opt1 | apply Ent.void | apply Ent.emp0 | apply Ent.two | (apply Ent.allV; · exact sl_void) | (apply Ent.allM; · exact fun _ => sl_void) | apply Ent.f1 rfl | apply Ent.f2 rfl | apply Ent.f3 rfl | apply Ent.f4 rfl | apply Ent.f10 rfl | apply Ent.grp | assumption | exact trivial | rfl | omega)) w s
  rintro ⟨k, d1, any⟩ ⟨hk, hok1, hdd, hdp, hgo⟩
  simp only at hk hok1 hdd hdp hgo
  refine GoC.seq ?_
  refine GoC.region ?_
  refine GoL.y rfl (Y.lss rfl rfl) ?_
  refine GoL.nil ?_
  refine GoE.then_normal ?_
  refine GoC.seq ?_
  refine GoC.condD rfl (fun h16 => ?_) (fun h16 => ?_)
  · refine GoC.skip ?_
    refine GoE.then_normal ?_
    refine GoC.seq ?_
    refine GoC.block ?_
    refine GoC.seq ?_
    refine GoC.region ?_
    refine GoL.y rfl (Y.move rfl) ?_
    refine GoL.y rfl (Y.assign rfl) ?_
    refine GoL.nil ?_
    refine GoE.then_normal ?_
    refine GoC.seq ?_
    refine GoC.region ?_
    refine GoL.y rfl (Y.move rfl) ?_
    refine GoL.y rfl (Y.move rfl) ?_
    refine GoL.y rfl (Y.add rfl rfl (by omega)) ?_
    refine GoL.y rfl (Y.move rfl) ?_
    refine GoL.y rfl (Y.nilCheck rfl) ?_
    first
      | refine GoL.y rfl (Y.fieldAddr0 1 23 Try.underlying117 rfl Try.sizeOf23 rfl) ?_
      | refine GoL.y rfl (Y.fieldAddr 1 23 Try.underlying117 rfl Try.sizeOf23 rfl) ?_
    first
      | refine GoL.y rfl (Y.load Try.isAgg23 rfl (Cell.a (by rfl))) ?_
      | refine GoL.y rfl (Y.load Try.isAgg23 rfl (Cell.rd0 Rd.s ‹_› (by rfl))) ?_
      | refine GoL.y rfl (Y.load Try.isAgg23 rfl (Cell.rd Rd.s ‹_› (by rfl))) ?_
      | refine GoL.y rfl (Y.load Try.isAgg23 rfl (Cell.ao (by rfl))) ?_
      | refine GoL.y rfl (Y.load Try.isAgg23 rfl (Cell.az (by rfl))) ?_
      | refine GoL.y rfl (Y.load Try.isAgg23 rfl (Cell.a ‹_›)) ?_
      | refine GoL.y rfl (Y.load Try.isAgg23 rfl (Cell.rd0 ‹_› ‹_› (by rfl))) ?_
      | refine GoL.y rfl (Y.load Try.isAgg23 rfl (Cell.rd ‹_› ‹_› (by rfl))) ?_
    first
      | refine GoL.y rfl (Y.lenRd Try.underlying23 rfl Rd.s) ?_
      | refine GoL.y rfl (Y.lenRd Try.underlying23 rfl ‹_›) ?_
      | refine GoL.y rfl (Y.lenSlice Try.underlying23 rfl) ?_
    have hd1 : d1.demand.length = d.demand.length := by rw [hdd]
    obtain ⟨n, hn⟩ : ∃ n, n = (f + k) % d.demand.length := ⟨_, rfl⟩
    have hnn : ((f : Int) + (k : Int)).tmod (d.demand.length : Int) = (n : Int) := by
      rw [← Int.natCast_add, hn, ← Int.ofNat_tmod]
    have hnl : n < d.demand.length := by rw [hn]; exact Nat.mod_lt _ (by omega)
    have hkl : k < d1.demand.length := by omega
    have hn1 : n = (f + k) % d1.demand.length := by rw [hd1]; exact hn
    have hll := hok1.left
    refine GoL.y rfl (Y.valW (Y.rem rfl rfl (by omega)) hnn) ?_
    refine GoL.y rfl (Y.assign rfl) ?_
    refine GoL.nil ?_
    refine GoE.then_normal ?_
    refine GoC.seq ?_
    refine GoC.region ?_
    refine GoL.y rfl (Y.move rfl) ?_
    refine GoL.y rfl (Y.nilCheck rfl) ?_
    refine GoL.y rfl (Y.fieldAddrZ 3 Try.underlying117 rfl Try.sizeOf3 rfl) ?_
    first
      | refine GoL.y rfl (Y.load Try.isAgg3 rfl (Cell.a (by rfl))) ?_
      | refine GoL.y rfl (Y.load Try.isAgg3 rfl (Cell.rd0 Rd.s ‹_› (by rfl))) ?_
      | refine GoL.y rfl (Y.load Try.isAgg3 rfl (Cell.rd Rd.s ‹_› (by rfl))) ?_
      | refine GoL.y rfl (Y.load Try.isAgg3 rfl (Cell.ao (by rfl))) ?_
      | refine GoL.y rfl (Y.load Try.isAgg3 rfl (Cell.az (by rfl))) ?_
      | refine GoL.y rfl (Y.load Try.isAgg3 rfl (Cell.a ‹_›)) ?_
      | refine GoL.y rfl (Y.load Try.isAgg3 rfl (Cell.rd0 ‹_› ‹_› (by rfl))) ?_
      | refine GoL.y rfl (Y.load Try.isAgg3 rfl (Cell.rd ‹_› ‹_› (by rfl))) ?_
    refine GoL.y rfl (Y.gtr rfl rfl) ?_
    refine GoL.y rfl (Y.move rfl) ?_
    first
      | apply GoL.segAD 5 37 32 [32, 33, 34, 35, 36, 37] rfl
      | apply GoL.segA 5 37 32 [32, 33, 34, 35, 36, 37] rfl
    · intro h32
      refine GoL.yg rfl rfl rfl (Y.move rfl) ?_
      refine GoL.yg rfl rfl rfl (Y.move rfl) ?_
      refine GoL.yg rfl rfl rfl (Y.move rfl) ?_
      refine GoL.dg rfl rfl rfl (Does.callE rfl Try.call79 rfl (share_wants (d := d1) (hdd ▸ hd) (hdp ▸ hpr) hok1 (n := n) (by omega)) (by repeat (first | exact Ent.nil | (apply Ent.cons; · repeat (first | exact Take.here | apply Take.there)) | apply Ent.opt0 | apply Ent.opt1 | apply Ent.void | apply Ent.emp0 | apply Ent.two | (apply Ent.allV; · exact sl_void) | (apply Ent.allM; · exact fun _ => sl_void) | apply Ent.f1 rfl | apply Ent.f2 rfl | apply Ent.f3 rfl | apply Ent.f4 rfl | apply Ent.f10 rfl | apply Ent.grp | assumption | exact trivial | rfl | omega))) ?_
      rintro _ _ ⟨⟨⟩, -, rfl, rfl⟩
      refine GoL.y rfl (Y.pickT rfl rfl) ?_
      refine GoL.nil ?_
      refine GoE.seg (by repeat (first | exact Top.base | refine Top.cons rfl ?_)) rfl (by first | exact fun _ h => h | exact Ent.kept (by repeat (first | exact Ent.nil | (apply Ent.cons; · repeat (first | exact Take.here | apply Take.there)) | apply Ent.opt0 | apply Ent.opt1 | apply Ent.void | apply Ent.emp0 | apply Ent.two | (apply Ent.allV; · exact sl_void) | (apply Ent.allM; · exact fun _ => sl_void) | apply Ent.f1 rfl | apply Ent.f2 rfl | apply Ent.f3 rfl | apply Ent.f4 rfl | apply Ent.f10 rfl | apply Ent.grp | assumption | exact trivial | rfl | omega)))
    · intro h32
      refine GoL.skip rfl rfl rfl rfl ?_
      refine GoL.skip rfl rfl rfl rfl ?_
      refine GoL.skip rfl rfl rfl rfl ?_
      refine GoL.skip rfl rfl rfl rfl ?_
      refine GoL.y rfl (Y.pickF rfl rfl) ?_
      refine GoL.nil ?_
      refine GoE.seg (by repeat (first | exact Top.base | refine Top.cons rfl ?_)) rfl (by first | exact fun _ h => h | exact Ent.kept (by repeat (first | exact Ent.nil | (apply Ent.cons; · repeat (first | exact Take.here | apply Take.there)) | apply Ent.opt0 | apply Ent.opt1 | apply Ent.void | apply Ent.emp0 | apply Ent.two | (apply Ent.allV; · exact sl_void) | (apply Ent.allM; · exact fun _ => sl_void) | apply Ent.f1 rfl | apply Ent.f2 rfl | apply Ent.f3 rfl | apply Ent.f4 rfl | apply Ent.f10 rfl | apply Ent.grp | assumption | exact trivial | rfl | omega)))
    refine GoL.nil ?_
    refine GoE.then_normal ?_
    refine GoC.cond rfl (fun h37 => ?_) (fun h37 => ?_)
    · simp only [Bool.and_eq_true, Bool.or_eq_true, Bool.and_eq_false_iff, Bool.or_eq_false_iff, decide_eq_true_eq, decide_eq_false_iff_not, Bool.not_eq_true', Bool.not_eq_false'] at h37
      obtain ⟨y, hy⟩ := at_some (show n < d1.out.length by rw [hok1.ol]; omega)
      have hol := (List.getElem?_eq_some_iff.1 hy).1
      have hyb : y < 1000000 ∧ 0 ≤ y := deal_room hok1 h37.2 hy (by omega)
      have hy1 : d1.out.set n (y + 1) = d1.out.set n (d1.out.getD n 0 + 1) := by rw [getD_of hy]
      refine GoC.seq ?_
      refine GoC.region ?_
      refine GoL.y rfl (Y.move rfl) ?_
      refine GoL.y rfl (Y.nilCheck rfl) ?_
      first
        | refine GoL.y rfl (Y.fieldAddr0 3 23 Try.underlying117 rfl Try.sizeOf23 rfl) ?_
        | refine GoL.y rfl (Y.fieldAddr 3 23 Try.underlying117 rfl Try.sizeOf23 rfl) ?_
      first
        | refine GoL.y rfl (Y.load Try.isAgg23 rfl (Cell.a (by rfl))) ?_
        | refine GoL.y rfl (Y.load Try.isAgg23 rfl (Cell.rd0 Rd.s ‹_› (by rfl))) ?_
        | refine GoL.y rfl (Y.load Try.isAgg23 rfl (Cell.rd Rd.s ‹_› (by rfl))) ?_
        | refine GoL.y rfl (Y.load Try.isAgg23 rfl (Cell.ao (by rfl))) ?_
        | refine GoL.y rfl (Y.load Try.isAgg23 rfl (Cell.az (by rfl))) ?_
        | refine GoL.y rfl (Y.load Try.isAgg23 rfl (Cell.a ‹_›)) ?_
        | refine GoL.y rfl (Y.load Try.isAgg23 rfl (Cell.rd0 ‹_› ‹_› (by rfl))) ?_
        | refine GoL.y rfl (Y.load Try.isAgg23 rfl (Cell.rd ‹_› ‹_› (by rfl))) ?_
      refine GoL.y rfl (Y.move rfl) ?_
      refine GoL.y rfl (Y.ixRd n Try.underlying23 Try.sizeOf3 rfl rfl Rd.s rfl (by omega)) ?_
      refine GoL.y rfl (Y.load Try.isAgg3 rfl (Cell.rd0 Rd.s hy rfl)) ?_
      first
        | refine GoL.y rfl (Y.inc rfl rfl (by omega)) ?_
        | refine GoL.y rfl (Y.add rfl rfl (by omega)) ?_
      refine GoL.y rfl (Y.ixRd n Try.underlying23 Try.sizeOf3 rfl rfl Rd.s rfl (by omega)) ?_
      refine GoL.does rfl (Does.storeSl0 (x' := y + 1) rfl rfl Try.sizeOf3 rfl hy (by decide) rfl (by repeat (first | exact Repl.here | apply Repl.there))) ?_
      rintro _ _ ⟨rfl, rfl⟩
      refine GoL.nil ?_
      refine GoE.then_normal ?_
      refine GoC.seq ?_
      refine GoC.region ?_
      refine GoL.y rfl (Y.move rfl) ?_
      refine GoL.y rfl (Y.nilCheck rfl) ?_
      refine GoL.y rfl (Y.fieldAddrZ 3 Try.underlying117 rfl Try.sizeOf3 rfl) ?_
      first
        | refine GoL.y rfl (Y.load Try.isAgg3 rfl (Cell.a (by rfl))) ?_
        | refine GoL.y rfl (Y.load Try.isAgg3 rfl (Cell.rd0 Rd.s ‹_› (by rfl))) ?_
        | refine GoL.y rfl (Y.load Try.isAgg3 rfl (Cell.rd Rd.s ‹_› (by rfl))) ?_
        | refine GoL.y rfl (Y.load Try.isAgg3 rfl (Cell.ao (by rfl))) ?_
        | refine GoL.y rfl (Y.load Try.isAgg3 rfl (Cell.az (by rfl))) ?_
        | refine GoL.y rfl (Y.load Try.isAgg3 rfl (Cell.a ‹_›)) ?_
        | refine GoL.y rfl (Y.load Try.isAgg3 rfl (Cell.rd0 ‹_› ‹_› (by rfl))) ?_
        | refine GoL.y rfl (Y.load Try.isAgg3 rfl (Cell.rd ‹_› ‹_› (by rfl))) ?_
      refine GoL.y rfl (Y.sub rfl rfl (by have := h37.1; dsimp only; omega)) ?_
      refine GoL.y rfl (Y.nilCheck rfl) ?_
      refine GoL.y rfl (Y.fieldAddrZ 3 Try.underlying117 rfl Try.sizeOf3 rfl) ?_
      first
        | refine GoL.does rfl (Does.st Try.sizeOf3 rfl rfl rfl rfl) ?_
        | refine GoL.does rfl (Does.sto Try.sizeOf3 rfl rfl rfl rfl) ?_
        | refine GoL.does rfl (Does.stz Try.sizeOf3 rfl rfl rfl rfl) ?_
      rintro _ _ ⟨rfl, rfl⟩
      refine GoL.nil ?_
      refine GoE.then_normal ?_
      refine GoC.region ?_
      refine GoL.y rfl (Y.assign rfl) ?_
      refine GoL.nil ?_
      refine GoE.block_normal (GoE.then_normal ?_)
      refine GoC.region ?_
      first
        | refine GoL.y rfl (Y.inc rfl rfl (by omega)) ?_
        | refine GoL.y rfl (Y.add rfl rfl (by omega)) ?_
      refine GoL.y rfl (Y.move rfl) ?_
      refine GoL.nil ?_
      refine GoE.againK (k + 1, { d1 with out := d1.out.set n (d1.out.getD n 0 + 1), left := d1.left - 1 }, true) (by repeat (first | exact Top.base | refine Top.cons rfl ?_)) rfl ?_ ?_ ?_ ?_
      · show d.demand.length - (k + 1) < d.demand.length - k; omega
      · have hs := step_yes h37
        have ok := step_ok hok1 p n
        rw [hs] at ok
        exact ⟨by show k + 1 ≤ _; omega, ok, hdd, hdp, by have := go_next (d := d1) hgo hkl (by rw [hdd]) hn1 hs; rw [hd1, Bool.or_true] at this; exact this⟩
      · exact ⟨rfl, rfl, trivial⟩
      · show ∀ w, Sat _ w _ → Sat _ w (seps [_, sl intE 1 ov (d1.out.set n (d1.out.getD n 0 + 1)), A, F])
        rw [← hy1]
        exact fun w s => Ent.kept (by repeat (first | exact Ent.nil | (apply Ent.cons; · repeat (first | exact Take.here | apply Take.there)) | apply Ent.opt0 | apply Ent.opt1 | apply Ent.void | apply Ent.emp0 | apply Ent.two | (apply Ent.allV; · exact sl_void) | (apply Ent.allM; · exact fun _ => sl_void) | apply Ent.f1 rfl | apply Ent.f2 rfl | apply Ent.f3 rfl | apply Ent.f4 rfl | apply Ent.f10 rfl | apply Ent.grp | assumption | exact trivial | rfl | omega)) w s
    · simp only [Bool.and_eq_true, Bool.or_eq_true, Bool.and_eq_false_iff, Bool.or_eq_false_iff, decide_eq_true_eq, decide_eq_false_iff_not, Bool.not_eq_true', Bool.not_eq_false'] at h37
      have h37 : ¬ (0 < d1.left ∧ d1.wants n p = true) := fun e => h37.elim (fun h => h e.1) (fun h => by rw [e.2] at h; cases h)
      refine GoC.skip ?_
      refine GoE.block_normal (GoE.then_normal ?_)
      refine GoC.region ?_
      first
        | refine GoL.y rfl (Y.inc rfl rfl (by omega)) ?_
        | refine GoL.y rfl (Y.add rfl rfl (by omega)) ?_
      refine GoL.y rfl (Y.move rfl) ?_
      refine GoL.nil ?_
      refine GoE.againK (k + 1, d1, any) (by repeat (first | exact Top.base | refine Top.cons rfl ?_)) rfl ?_ ?_ ?_ ?_
      · show d.demand.length - (k + 1) < d.demand.length - k; omega
      · exact ⟨by show k + 1 ≤ _; omega, hok1, hdd, hdp, by have := go_next (d := d1) hgo hkl (by rw [hdd]) hn1 (step_no h37); rw [hd1, Bool.or_false] at this; exact this⟩
      · exact ⟨rfl, rfl, trivial⟩
      · exact fun w s => Ent.kept (by repeat (first | exact Ent.nil | (apply Ent.cons; · repeat (first | exact Take.here | apply Take.there)) | apply Ent.opt0 | apply Ent.opt1 | apply Ent.void | apply Ent.emp0 | apply Ent.two | (apply Ent.allV; · exact sl_void) | (apply Ent.allM; · exact fun _ => sl_void) | apply Ent.f1 rfl | apply Ent.f2 rfl | apply Ent.f3 rfl | apply Ent.f4 rfl | apply Ent.f10 rfl | apply Ent.grp | assumption | exact trivial | rfl | omega)) w s
  · refine GoC.exit ?_
    refine GoE.then_exit (GoE.then_exit (GoE.block_here (GoE.then_normal ?_)))
    refine GoC.seq ?_
    refine GoC.region ?_
    refine GoL.y rfl (Y.move rfl) ?_
    refine GoL.y rfl (Y.assign rfl) ?_
    refine GoL.nil ?_
    refine GoE.then_normal ?_
    refine GoC.ret ?_
    obtain rfl : k = d.demand.length := by omega
    rw [Nat.sub_self] at hgo
    rw [hgo]
    refine GoE.ret1 rfl rfl fun w s => ⟨(), ?_, trivial, finE (by repeat (first | exact Ent.nil | (apply Ent.cons; · repeat (first | exact Take.here | apply Take.there)) | apply Ent.opt0 | apply Ent.opt1 | apply Ent.void | apply Ent.emp0 | apply Ent.two | (apply Ent.allV; · exact sl_void) | (apply Ent.allM; · exact fun _ => sl_void) | apply Ent.f1 rfl | apply Ent.f2 rfl | apply Ent.f3 rfl | apply Ent.f4 rfl | apply Ent.f10 rfl | apply Ent.grp | assumption | exact trivial | rfl | omega)) s⟩
    rfl

set_option maxRecDepth 20000 in
theorem share_Fair {W : World} {A : HProp} {dv pv : Value} {procs turn : Int} {demand prio : List Int} (hd : Rd W [A] intE 1 dv demand) (hpr : Rd W [A] intE 1 pv prio) (hb : prio.length ≤ 1000000000 ∧ ∀ z ∈ demand, z ≤ 1000000) : Fn Try.prog W 27 [.int .i64 procs, dv, pv, .int .i64 turn] [A] Value (fun u => u) (fun _ => True) (fun u => [sl intE 1 u ((fair? procs demand prio turn).getD []), A]) := by
  refine Fn.intro (N := 70) Try.func27 rfl Try.ntmps27 rfl fun F => ?_
  show GoC _ _ _ _ _ _ [A, F]
  refine GoC.know (fun w s => Rd.shape (hd.at .here) w s) fun e => ?_
  obtain ⟨ad, cd, rfl⟩ := e
  refine GoC.know (fun w s => Rd.shape (hpr.at .here) w s) fun e => ?_
  obtain ⟨ap, cp, rfl⟩ := e
  haveI hRD : ∀ (H : List HProp) [HasH H A], ReadsC W H (.slice ad demand.length cd) intE 1 demand := fun H h => ⟨hd.at h.has⟩
  haveI hRP : ∀ (H : List HProp) [HasH H A], ReadsC W H (.slice ap prio.length cp) intE 1 prio := fun H h => ⟨hpr.at h.has⟩
  refine GoC.seq ?_
  refine GoC.region ?_
  refine GoL.y rfl (Y.assign rfl) ?_
  refine GoL.nil ?_
  refine GoE.then_normal ?_
  refine GoC.seq ?_
  refine GoC.region ?_
  refine GoL.y rfl (Y.move rfl) ?_
  first
    | refine GoL.y rfl (Y.lenRd Try.underlying23 rfl Rd.s) ?_
    | refine GoL.y rfl (Y.lenRd Try.underlying23 rfl ‹_›) ?_
    | refine GoL.y rfl (Y.lenSlice Try.underlying23 rfl) ?_
  refine GoL.y rfl (Y.assign rfl) ?_
  refine GoL.nil ?_
  refine GoE.then_normal ?_
  refine GoC.seq ?_
  refine GoC.seq ?_
  refine GoC.region ?_
  refine GoL.y rfl (Y.move rfl) ?_
  refine GoL.y rfl (Y.move rfl) ?_
  first
    | refine GoL.y rfl (Y.lenRd Try.underlying23 rfl Rd.s) ?_
    | refine GoL.y rfl (Y.lenRd Try.underlying23 rfl ‹_›) ?_
    | refine GoL.y rfl (Y.lenSlice Try.underlying23 rfl) ?_
  refine GoL.y rfl (Y.neq rfl rfl) ?_
  refine GoL.y rfl (Y.move rfl) ?_
  first
    | apply GoL.segOD 3 23 20 [20, 21, 22, 23] rfl
    | apply GoL.segO 3 23 20 [20, 21, 22, 23] rfl
  · intro h20
    refine GoL.yg rfl rfl rfl (Y.move rfl) ?_
    refine GoL.yg rfl rfl rfl (Y.gtr rfl rfl) ?_
    refine GoL.y rfl (Y.pickF rfl rfl) ?_
    refine GoL.nil ?_
    refine GoE.seg (by repeat (first | exact Top.base | refine Top.cons rfl ?_)) rfl (by first | exact fun _ h => h | exact Ent.kept (by repeat (first | exact Ent.nil | (apply Ent.cons; · repeat (first | exact Take.here | apply Take.there)) | apply Ent.opt0 | apply Ent.opt1 | apply Ent.void | apply Ent.emp0 | apply Ent.two | (apply Ent.allV; · exact sl_void) | (apply Ent.allM; · exact fun _ => sl_void) | apply Ent.f1 rfl | apply Ent.f2 rfl | apply Ent.f3 rfl | apply Ent.f4 rfl | apply Ent.f10 rfl | apply Ent.grp | assumption | exact trivial | rfl | omega)))
  · intro h20
    refine GoL.skip rfl rfl rfl rfl ?_
    refine GoL.skip rfl rfl rfl rfl ?_
    refine GoL.y rfl (Y.pickT rfl rfl) ?_
    refine GoL.nil ?_
    refine GoE.seg (by repeat (first | exact Top.base | refine Top.cons rfl ?_)) rfl (by first | exact fun _ h => h | exact Ent.kept (by repeat (first | exact Ent.nil | (apply Ent.cons; · repeat (first | exact Take.here | apply Take.there)) | apply Ent.opt0 | apply Ent.opt1 | apply Ent.void | apply Ent.emp0 | apply Ent.two | (apply Ent.allV; · exact sl_void) | (apply Ent.allM; · exact fun _ => sl_void) | apply Ent.f1 rfl | apply Ent.f2 rfl | apply Ent.f3 rfl | apply Ent.f4 rfl | apply Ent.f10 rfl | apply Ent.grp | assumption | exact trivial | rfl | omega)))
  refine GoL.y rfl (Y.move rfl) ?_
  first
    | apply GoL.segOD 4 28 24 [24, 25, 26, 27, 28] rfl
    | apply GoL.segO 4 28 24 [24, 25, 26, 27, 28] rfl
  · intro h24
    refine GoL.yg rfl rfl rfl (Y.move rfl) ?_
    refine GoL.dg rfl rfl rfl (Does.callE rfl Try.call58 rfl share_within (by repeat (first | exact Ent.nil | (apply Ent.cons; · repeat (first | exact Take.here | apply Take.there)) | apply Ent.opt0 | apply Ent.opt1 | apply Ent.void | apply Ent.emp0 | apply Ent.two | (apply Ent.allV; · exact sl_void) | (apply Ent.allM; · exact fun _ => sl_void) | apply Ent.f1 rfl | apply Ent.f2 rfl | apply Ent.f3 rfl | apply Ent.f4 rfl | apply Ent.f10 rfl | apply Ent.grp | assumption | exact trivial | rfl | omega))) ?_
    rintro _ _ ⟨⟨⟩, -, rfl, rfl⟩
    first
      | refine GoL.yg rfl rfl rfl (Y.notD rfl) ?_
      | refine GoL.yg rfl rfl rfl (Y.not rfl) ?_
    refine GoL.y rfl (Y.pickF rfl rfl) ?_
    refine GoL.nil ?_
    refine GoE.seg (by repeat (first | exact Top.base | refine Top.cons rfl ?_)) rfl (by first | exact fun _ h => h | exact Ent.kept (by repeat (first | exact Ent.nil | (apply Ent.cons; · repeat (first | exact Take.here | apply Take.there)) | apply Ent.opt0 | apply Ent.opt1 | apply Ent.void | apply Ent.emp0 | apply Ent.two | (apply Ent.allV; · exact sl_void) | (apply Ent.allM; · exact fun _ => sl_void) | apply Ent.f1 rfl | apply Ent.f2 rfl | apply Ent.f3 rfl | apply Ent.f4 rfl | apply Ent.f10 rfl | apply Ent.grp | assumption | exact trivial | rfl | omega)))
  · intro h24
    refine GoL.skip rfl rfl rfl rfl ?_
    refine GoL.skip rfl rfl rfl rfl ?_
    refine GoL.skip rfl rfl rfl rfl ?_
    refine GoL.y rfl (Y.pickT rfl rfl) ?_
    refine GoL.nil ?_
    refine GoE.seg (by repeat (first | exact Top.base | refine Top.cons rfl ?_)) rfl (by first | exact fun _ h => h | exact Ent.kept (by repeat (first | exact Ent.nil | (apply Ent.cons; · repeat (first | exact Take.here | apply Take.there)) | apply Ent.opt0 | apply Ent.opt1 | apply Ent.void | apply Ent.emp0 | apply Ent.two | (apply Ent.allV; · exact sl_void) | (apply Ent.allM; · exact fun _ => sl_void) | apply Ent.f1 rfl | apply Ent.f2 rfl | apply Ent.f3 rfl | apply Ent.f4 rfl | apply Ent.f10 rfl | apply Ent.grp | assumption | exact trivial | rfl | omega)))
  refine GoL.nil ?_
  refine GoE.then_normal ?_
  refine GoC.cond rfl (fun h28 => ?_) (fun h28 => ?_)
  · simp only [Bool.and_eq_true, Bool.or_eq_true, Bool.and_eq_false_iff, Bool.or_eq_false_iff, decide_eq_true_eq, decide_eq_false_iff_not, Bool.not_eq_true', Bool.not_eq_false'] at h28
    rw [fair_no h28]
    refine GoC.seq ?_
    refine GoC.region ?_
    refine GoL.y rfl (Y.assign rfl) ?_
    refine GoL.nil ?_
    refine GoE.then_normal ?_
    refine GoC.ret ?_
    refine GoE.then_ret ?_
    refine GoE.ret1 rfl rfl fun w s => ⟨.slice none 0 0, ?_, trivial, finE (by repeat (first | exact Ent.nil | (apply Ent.cons; · repeat (first | exact Take.here | apply Take.there)) | apply Ent.opt0 | apply Ent.opt1 | apply Ent.void | apply Ent.emp0 | apply Ent.two | (apply Ent.allV; · exact sl_void) | (apply Ent.allM; · exact fun _ => sl_void) | apply Ent.f1 rfl | apply Ent.f2 rfl | apply Ent.f3 rfl | apply Ent.f4 rfl | apply Ent.f10 rfl | apply Ent.grp | assumption | exact trivial | rfl | omega)) s⟩
    rfl
  · simp only [Bool.and_eq_true, Bool.or_eq_true, Bool.and_eq_false_iff, Bool.or_eq_false_iff, decide_eq_true_eq, decide_eq_false_iff_not, Bool.not_eq_true', Bool.not_eq_false'] at h28
    have h28 : demand.length = prio.length ∧ demand.length ≤ 8 ∧ within procs 64 = true := ⟨by omega, by omega, h28.2⟩
    have hwp := h28.2.2
    unfold within at hwp
    simp only [Bool.and_eq_true, decide_eq_true_eq] at hwp
    refine GoC.skip ?_
    refine GoE.then_normal ?_
    refine GoC.seq ?_
    refine GoC.seq ?_
    refine GoC.region ?_
    refine GoL.y rfl (Y.move rfl) ?_
    first
      | refine GoL.y rfl (Y.lenRd Try.underlying23 rfl Rd.s) ?_
      | refine GoL.y rfl (Y.lenRd Try.underlying23 rfl ‹_›) ?_
      | refine GoL.y rfl (Y.lenSlice Try.underlying23 rfl) ?_
    refine GoL.y rfl (Y.move rfl) ?_
    refine GoL.nil ?_
    refine GoE.then_normal ?_
    refine GoC.block ?_
    refine GoC.loopK (X := Nat) [8, 11, 31, 32, 33, 34, 35, 36, 37, 38] (fun k => prio.length - k) (fun k => k ≤ prio.length ∧ (prio.take k).all (fun p => within p 7) = true) (fun k => [(31, some (.int .i64 (k : Int)))]) (fun k => [A, F]) 0 ?_ ?_ ?_ ?_
    · exact ⟨Nat.zero_le _, rfl⟩
    · exact ⟨rfl, trivial⟩
    · exact fun w s => Ent.kept (by repeat (first | exact Ent.nil | (apply Ent.cons; · repeat (first | exact Take.here | apply Take.there)) | apply Ent.opt0 | apply Ent.opt1 | apply Ent.void | apply Ent.emp0 | apply Ent.two | (apply Ent.allV; · exact sl_void) | (apply Ent.allM; · exact fun _ => sl_void) | apply Ent.f1 rfl | apply Ent.f2 rfl | apply Ent.f3 rfl | apply Ent.f4 rfl | apply Ent.f10 rfl | apply Ent.grp | assumption | exact trivial | rfl | omega)) w s
    rintro k ⟨hk, hal⟩
    refine GoC.seq ?_
    refine GoC.region ?_
    refine GoL.y rfl (Y.lss rfl rfl) ?_
    refine GoL.nil ?_
    refine GoE.then_normal ?_
    refine GoC.seq ?_
    refine GoC.condD rfl (fun h32 => ?_) (fun h32 => ?_)
    · refine GoC.skip ?_
      refine GoE.then_normal ?_
      refine GoC.seq ?_
      refine GoC.block ?_
      refine GoC.seq ?_
      refine GoC.region ?_
      obtain ⟨x, hx⟩ := at_some (show k < prio.length by omega)
      first
        | refine GoL.y rfl (Y.ixRd _ Try.underlying23 Try.sizeOf3 rfl rfl Rd.s rfl (by first | omega | decide)) ?_
        | refine GoL.y rfl (Y.ixRd _ Try.underlying23 Try.sizeOf3 rfl rfl ‹_› rfl (by first | omega | decide)) ?_
      refine GoL.y rfl (Y.load Try.isAgg3 rfl (Cell.rd0 Rd.s hx rfl)) ?_
      refine GoL.y rfl (Y.assign rfl) ?_
      refine GoL.nil ?_
      refine GoE.then_normal ?_
      refine GoC.seq ?_
      refine GoC.region ?_
      refine GoL.y rfl (Y.move rfl) ?_
      refine GoL.does rfl (Does.callE rfl Try.call58 rfl share_within (by repeat (first | exact Ent.nil | (apply Ent.cons; · repeat (first | exact Take.here | apply Take.there)) | apply Ent.opt0 | apply Ent.opt1 | apply Ent.void | apply Ent.emp0 | apply Ent.two | (apply Ent.allV; · exact sl_void) | (apply Ent.allM; · exact fun _ => sl_void) | apply Ent.f1 rfl | apply Ent.f2 rfl | apply Ent.f3 rfl | apply Ent.f4 rfl | apply Ent.f10 rfl | apply Ent.grp | assumption | exact trivial | rfl | omega))) ?_
      rintro _ _ ⟨⟨⟩, -, rfl, rfl⟩
      first
        | refine GoL.y rfl (Y.notD rfl) ?_
        | refine GoL.y rfl (Y.not rfl) ?_
      refine GoL.nil ?_
      refine GoE.then_normal ?_
      refine GoC.cond rfl (fun h37 => ?_) (fun h37 => ?_)
      · rw [fair_bad hx (by simpa using h37)]
        refine GoC.seq ?_
        refine GoC.region ?_
        refine GoL.y rfl (Y.assign rfl) ?_
        refine GoL.nil ?_
        refine GoE.then_normal ?_
        refine GoC.ret ?_
        refine GoE.block_ret (GoE.then_ret (GoE.then_ret (GoE.block_ret (GoE.then_ret ?_))))
        refine GoE.ret1 rfl rfl fun w s => ⟨.slice none 0 0, ?_, trivial, finE (by repeat (first | exact Ent.nil | (apply Ent.cons; · repeat (first | exact Take.here | apply Take.there)) | apply Ent.opt0 | apply Ent.opt1 | apply Ent.void | apply Ent.emp0 | apply Ent.two | (apply Ent.allV; · exact sl_void) | (apply Ent.allM; · exact fun _ => sl_void) | apply Ent.f1 rfl | apply Ent.f2 rfl | apply Ent.f3 rfl | apply Ent.f4 rfl | apply Ent.f10 rfl | apply Ent.grp | assumption | exact trivial | rfl | omega)) s⟩
        rfl
      · refine GoC.skip ?_
        refine GoE.block_normal (GoE.then_normal ?_)
        refine GoC.region ?_
        first
          | refine GoL.y rfl (Y.inc rfl rfl (by omega)) ?_
          | refine GoL.y rfl (Y.add rfl rfl (by omega)) ?_
        refine GoL.y rfl (Y.move rfl) ?_
        refine GoL.nil ?_
        refine GoE.againK (k + 1) (by repeat (first | exact Top.base | refine Top.cons rfl ?_)) rfl ?_ ?_ ?_ ?_
        · first | omega | (dsimp only; omega)
        · exact ⟨by omega, by rw [all_snoc hx, hal]; simpa using h37⟩
        · exact ⟨rfl, trivial⟩
        · exact fun w s => Ent.kept (by repeat (first | exact Ent.nil | (apply Ent.cons; · repeat (first | exact Take.here | apply Take.there)) | apply Ent.opt0 | apply Ent.opt1 | apply Ent.void | apply Ent.emp0 | apply Ent.two | (apply Ent.allV; · exact sl_void) | (apply Ent.allM; · exact fun _ => sl_void) | apply Ent.f1 rfl | apply Ent.f2 rfl | apply Ent.f3 rfl | apply Ent.f4 rfl | apply Ent.f10 rfl | apply Ent.grp | assumption | exact trivial | rfl | omega)) w s
    · obtain rfl : k = prio.length := by omega
      rw [List.take_length] at hal
      refine GoC.exit ?_
      refine GoE.then_exit (GoE.then_exit (GoE.block_here (GoE.then_normal ?_)))
      refine GoC.seq ?_
      refine GoC.region ?_
      refine GoL.y rfl (Y.move rfl) ?_
      refine GoL.y rfl (Y.move rfl) ?_
      refine GoL.y rfl (Y.move rfl) ?_
      refine GoL.y rfl (Y.move rfl) ?_
      refine GoL.does rfl (Does.mkSl (enc := intE) (k := 1) 0 demand.length rfl Try.underlying23 Try.typeInfo3 rfl rfl rfl rfl (by decide) (by decide) rfl rfl rfl rfl (by omega)) ?_
      rintro _ _ ⟨b43, rfl, rfl⟩
      refine GoL.y rfl (Y.bld4 (fun v1 v2 v3 v4 => [v1, v2, v3, v4]) rfl rfl rfl rfl (by kernel_rfl)) ?_
      refine GoL.does rfl (Does.box rfl rfl rfl) ?_
      rintro _ _ ⟨b45, rfl, rfl⟩
      refine GoL.y rfl (Y.assign rfl) ?_
      refine GoL.nil ?_
      refine GoE.then_normal ?_
      refine GoC.seq ?_
      refine GoC.seq ?_
      refine GoC.region ?_
      refine GoL.y rfl (Y.move rfl) ?_
      refine GoL.y rfl (Y.eql rfl rfl) ?_
      refine GoL.nil ?_
      refine GoE.then_normal ?_
      refine GoC.condD rfl (fun h47 => ?_) (fun h47 => ?_)
      · have h0 : demand.length = 0 := by omega
        rw [fair_nil h28 hal h0]
        refine GoC.seq ?_
        refine GoC.region ?_
        refine GoL.y rfl (Y.move rfl) ?_
        refine GoL.y rfl (Y.nilCheck rfl) ?_
        first
          | refine GoL.y rfl (Y.fieldAddr0 3 23 Try.underlying117 rfl Try.sizeOf23 rfl) ?_
          | refine GoL.y rfl (Y.fieldAddr 3 23 Try.underlying117 rfl Try.sizeOf23 rfl) ?_
        first
          | refine GoL.y rfl (Y.load Try.isAgg23 rfl (Cell.a (by rfl))) ?_
          | refine GoL.y rfl (Y.load Try.isAgg23 rfl (Cell.rd0 Rd.s ‹_› (by rfl))) ?_
          | refine GoL.y rfl (Y.load Try.isAgg23 rfl (Cell.rd Rd.s ‹_› (by rfl))) ?_
          | refine GoL.y rfl (Y.load Try.isAgg23 rfl (Cell.ao (by rfl))) ?_
          | refine GoL.y rfl (Y.load Try.isAgg23 rfl (Cell.az (by rfl))) ?_
          | refine GoL.y rfl (Y.load Try.isAgg23 rfl (Cell.a ‹_›)) ?_
          | refine GoL.y rfl (Y.load Try.isAgg23 rfl (Cell.rd0 ‹_› ‹_› (by rfl))) ?_
          | refine GoL.y rfl (Y.load Try.isAgg23 rfl (Cell.rd ‹_› ‹_› (by rfl))) ?_
        refine GoL.y rfl (Y.assign rfl) ?_
        refine GoL.nil ?_
        refine GoE.then_normal ?_
        refine GoC.ret ?_
        refine GoE.then_ret ?_
        rw [h0]
        refine GoE.ret1 rfl rfl fun w s => ⟨.slice (some ⟨b43, 0, none⟩) 0 0, ?_, trivial, finE (by repeat (first | exact Ent.nil | (apply Ent.cons; · repeat (first | exact Take.here | apply Take.there)) | apply Ent.opt0 | apply Ent.opt1 | apply Ent.void | apply Ent.emp0 | apply Ent.two | (apply Ent.allV; · exact sl_void) | (apply Ent.allM; · exact fun _ => sl_void) | apply Ent.f1 rfl | apply Ent.f2 rfl | apply Ent.f3 rfl | apply Ent.f4 rfl | apply Ent.f10 rfl | apply Ent.grp | assumption | exact trivial | rfl | omega)) s⟩
        rfl
      · have h0 : ¬ demand.length = 0 := by omega
        have hn0 : 0 < demand.length := by omega
        rw [fair_yes h28 hal h0]
        have hok0 := dl0_ok h28 hb.2
        refine GoC.skip ?_
        refine GoE.then_normal ?_
        refine GoC.seq ?_
        refine GoC.seq ?_
        refine GoC.region ?_
        refine GoL.y rfl (Y.assign rfl) ?_
        refine GoL.nil ?_
        refine GoE.then_normal ?_
        refine GoC.block ?_
        refine GoC.loopK (X := Nat × Deal) [13, 52, 53, 54, 55, 56, 57, 58, 59, 60, 61, 62, 63, 64, 65] (fun z => z.1) (fun z => z.1 ≤ 8 ∧ DOk z.2 ∧ z.2.demand = demand ∧ z.2.prio = prio ∧ priosN (pick turn demand.length) z.1 z.2 = priosN (pick turn demand.length) 8 (dl0 procs demand prio)) (fun z => [(13, some (.int .i64 ((z.1 : Int) - 1)))]) (fun z => [arr b45 0 [.int .i64 z.2.left, .slice ad demand.length cd, .slice ap prio.length cp, (.slice (some ⟨b43, 0, none⟩) demand.length demand.length)], sl intE 1 (.slice (some ⟨b43, 0, none⟩) demand.length demand.length) z.2.out, A, F]) (8, dl0 procs demand prio) ?_ ?_ ?_ ?_
        · exact ⟨Nat.le_refl _, hok0, rfl, rfl, rfl⟩
        · exact ⟨rfl, trivial⟩
        · exact fun w s => Ent.kept (by repeat (first | exact Ent.nil | (apply Ent.cons; · repeat (first | exact Take.here | apply Take.there)) | apply Ent.opt0 | apply Ent.opt1 | apply Ent.void | apply Ent.emp0 | apply Ent.two | (apply Ent.allV; · exact sl_void) | (apply Ent.allM; · exact fun _ => sl_void) | apply Ent.f1 rfl | apply Ent.f2 rfl | apply Ent.f3 rfl | apply Ent.f4 rfl | apply Ent.f10 rfl | apply Ent.grp | assumption | exact trivial | rfl | omega)) w s
        rintro ⟨r, d⟩ ⟨hr8, hok, hdd, hdp, hpi⟩
        simp only at hr8 hok hdd hdp hpi
        refine GoC.seq ?_
        refine GoC.seq ?_
        refine GoC.region ?_
        refine GoL.y rfl (Y.move rfl) ?_
        refine GoL.y rfl (Y.geq rfl rfl) ?_
        refine GoL.nil ?_
        refine GoE.then_normal ?_
        refine GoC.condD rfl (fun h53 => ?_) (fun h53 => ?_)
        · obtain ⟨q, rfl⟩ : ∃ q, r = q + 1 := ⟨r - 1, by omega⟩
          refine GoC.skip ?_
          refine GoE.then_normal ?_
          refine GoC.seq ?_
          refine GoC.block ?_
          refine GoC.block ?_
          refine GoC.loopK (X := Deal) [13, 56, 57, 58, 59, 60, 61, 62, 63, 64, 65] (fun z => z.left.toNat) (fun z => DOk z ∧ z.demand = demand ∧ z.prio = prio ∧ dr (q : Int) (pick turn demand.length) z = dr (q : Int) (pick turn demand.length) d) (fun z => [(13, some (.int .i64 (q : Int)))]) (fun z => [arr b45 0 [.int .i64 z.left, .slice ad demand.length cd, .slice ap prio.length cp, (.slice (some ⟨b43, 0, none⟩) demand.length demand.length)], sl intE 1 (.slice (some ⟨b43, 0, none⟩) demand.length demand.length) z.out, A, F]) d ?_ ?_ ?_ ?_
          · exact ⟨hok, hdd, hdp, rfl⟩
          · exact ⟨show some (Value.int .i64 (((q + 1 : Nat) : Int) - 1)) = some (.int .i64 (q : Int)) from by rw [show ((q + 1 : Nat) : Int) - 1 = (q : Int) by omega], trivial⟩
          · exact fun w s => Ent.kept (by repeat (first | exact Ent.nil | (apply Ent.cons; · repeat (first | exact Take.here | apply Take.there)) | apply Ent.opt0 | apply Ent.opt1 | apply Ent.void | apply Ent.emp0 | apply Ent.two | (apply Ent.allV; · exact sl_void) | (apply Ent.allM; · exact fun _ => sl_void) | apply Ent.f1 rfl | apply Ent.f2 rfl | apply Ent.f3 rfl | apply Ent.f4 rfl | apply Ent.f10 rfl | apply Ent.grp | assumption | exact trivial | rfl | omega)) w s
          rintro d1 ⟨hok1, hdd1, hdp1, hdr⟩
          have hrf := round_facts d1 (q : Int) (pick turn demand.length)
          refine GoC.seq ?_
          refine GoC.seq ?_
          refine GoC.region ?_
          refine GoL.y rfl (Y.move rfl) ?_
          refine GoL.y rfl (Y.move rfl) ?_
          refine GoL.y rfl (Y.move rfl) ?_
          refine GoL.y rfl (Y.move rfl) ?_
          have hn0 : 0 < demand.length := by omega
          refine GoL.y rfl (Y.rem rfl rfl (by omega)) ?_
          refine GoL.y rfl (Y.move rfl) ?_
          refine GoL.y rfl (Y.add rfl rfl (by have h1 := Int.lt_tmod_of_pos turn (show (0 : Int) < (demand.length : Int) by omega); have h2 := Int.tmod_lt_of_pos turn (show (0 : Int) < (demand.length : Int) by omega); omega)) ?_
          refine GoL.y rfl (Y.move rfl) ?_
          refine GoL.y rfl (Y.valW (Y.rem rfl rfl (by omega)) (pick_int hn0)) ?_
          refine GoL.does rfl (Does.callE rfl Try.call59 rfl (share_round (d := d1) (p := (q : Int)) (f := pick turn demand.length) (by rw [hdd1]; exact hd) (by rw [hdp1]; exact hpr) hok1 (by rw [hdd1]; exact pick_lt hn0)) (by repeat (first | exact Ent.nil | (apply Ent.cons; · repeat (first | exact Take.here | apply Take.there)) | apply Ent.opt0 | apply Ent.opt1 | apply Ent.void | apply Ent.emp0 | apply Ent.two | (apply Ent.allV; · exact sl_void) | (apply Ent.allM; · exact fun _ => sl_void) | apply Ent.f1 rfl | apply Ent.f2 rfl | apply Ent.f3 rfl | apply Ent.f4 rfl | apply Ent.f10 rfl | apply Ent.grp | assumption | exact trivial | rfl | omega))) ?_
          rintro _ _ ⟨⟨⟩, -, rfl, rfl⟩
          refine GoL.nil ?_
          refine GoE.then_normal ?_
          refine GoC.cond rfl (fun h65 => ?_) (fun h65 => ?_)
          · refine GoC.skip ?_
            refine GoE.then_normal ?_
            refine GoC.block ?_
            refine GoC.skip ?_
            refine GoE.block_normal ?_
            refine GoE.againK ((d1.round (q : Int) (pick turn demand.length)).1) (by repeat (first | exact Top.base | refine Top.cons rfl ?_)) rfl ?_ ?_ ?_ ?_
            · have h1 := hrf.2.2.1 h65; have h2 := hrf.2.1 hok1.left.1; omega
            · exact ⟨hrf.2.2.2.2.2 hok1, by rw [hrf.2.2.2.1, hdd1], by rw [hrf.2.2.2.2.1, hdp1], by rw [← dr_yes hok1.left.1 h65, hdr]⟩
            · exact ⟨rfl, trivial⟩
            · exact fun w s => Ent.kept (by repeat (first | exact Ent.nil | (apply Ent.cons; · repeat (first | exact Take.here | apply Take.there)) | apply Ent.opt0 | apply Ent.opt1 | apply Ent.void | apply Ent.emp0 | apply Ent.two | (apply Ent.allV; · exact sl_void) | (apply Ent.allM; · exact fun _ => sl_void) | apply Ent.f1 rfl | apply Ent.f2 rfl | apply Ent.f3 rfl | apply Ent.f4 rfl | apply Ent.f10 rfl | apply Ent.grp | assumption | exact trivial | rfl | omega)) w s
          · refine GoC.exit ?_
            refine GoE.then_exit (GoE.then_exit (GoE.block_here (GoE.block_normal (GoE.then_normal ?_))))
            refine GoC.region ?_
            refine GoL.y rfl (Y.move rfl) ?_
            refine GoL.y rfl (Y.sub rfl rfl (by omega)) ?_
            refine GoL.y rfl (Y.assign rfl) ?_
            refine GoL.nil ?_
            refine GoE.againK (q, (d1.round (q : Int) (pick turn demand.length)).1) (by repeat (first | exact Top.base | refine Top.cons rfl ?_)) rfl ?_ ?_ ?_ ?_
            · show q < q + 1; omega
            · exact ⟨by show q ≤ 8; omega, hrf.2.2.2.2.2 hok1, by rw [hrf.2.2.2.1, hdd1], by rw [hrf.2.2.2.2.1, hdp1], by rw [← hpi, ← dr_no h65, hdr]; rfl⟩
            · exact ⟨rfl, trivial⟩
            · exact fun w s => Ent.kept (by repeat (first | exact Ent.nil | (apply Ent.cons; · repeat (first | exact Take.here | apply Take.there)) | apply Ent.opt0 | apply Ent.opt1 | apply Ent.void | apply Ent.emp0 | apply Ent.two | (apply Ent.allV; · exact sl_void) | (apply Ent.allM; · exact fun _ => sl_void) | apply Ent.f1 rfl | apply Ent.f2 rfl | apply Ent.f3 rfl | apply Ent.f4 rfl | apply Ent.f10 rfl | apply Ent.grp | assumption | exact trivial | rfl | omega)) w s
        · obtain rfl : r = 0 := by omega
          refine GoC.exit ?_
          refine GoE.then_exit (GoE.then_exit (GoE.block_here (GoE.then_normal ?_)))
          refine GoC.seq ?_
          refine GoC.region ?_
          refine GoL.y rfl (Y.move rfl) ?_
          refine GoL.y rfl (Y.nilCheck rfl) ?_
          first
            | refine GoL.y rfl (Y.fieldAddr0 3 23 Try.underlying117 rfl Try.sizeOf23 rfl) ?_
            | refine GoL.y rfl (Y.fieldAddr 3 23 Try.underlying117 rfl Try.sizeOf23 rfl) ?_
          first
            | refine GoL.y rfl (Y.load Try.isAgg23 rfl (Cell.a (by rfl))) ?_
            | refine GoL.y rfl (Y.load Try.isAgg23 rfl (Cell.rd0 Rd.s ‹_› (by rfl))) ?_
            | refine GoL.y rfl (Y.load Try.isAgg23 rfl (Cell.rd Rd.s ‹_› (by rfl))) ?_
            | refine GoL.y rfl (Y.load Try.isAgg23 rfl (Cell.ao (by rfl))) ?_
            | refine GoL.y rfl (Y.load Try.isAgg23 rfl (Cell.az (by rfl))) ?_
            | refine GoL.y rfl (Y.load Try.isAgg23 rfl (Cell.a ‹_›)) ?_
            | refine GoL.y rfl (Y.load Try.isAgg23 rfl (Cell.rd0 ‹_› ‹_› (by rfl))) ?_
            | refine GoL.y rfl (Y.load Try.isAgg23 rfl (Cell.rd ‹_› ‹_› (by rfl))) ?_
          refine GoL.y rfl (Y.assign rfl) ?_
          refine GoL.nil ?_
          refine GoE.then_normal ?_
          refine GoC.ret ?_
          rw [← hpi]
          refine GoE.ret1 rfl rfl fun w s => ⟨(.slice (some ⟨b43, 0, none⟩) demand.length demand.length), ?_, trivial, finE (by repeat (first | exact Ent.nil | (apply Ent.cons; · repeat (first | exact Take.here | apply Take.there)) | apply Ent.opt0 | apply Ent.opt1 | apply Ent.void | apply Ent.emp0 | apply Ent.two | (apply Ent.allV; · exact sl_void) | (apply Ent.allM; · exact fun _ => sl_void) | apply Ent.f1 rfl | apply Ent.f2 rfl | apply Ent.f3 rfl | apply Ent.f4 rfl | apply Ent.f10 rfl | apply Ent.grp | assumption | exact trivial | rfl | omega)) s⟩
          rfl

end Go.SLYtkflpgknieoknaa
