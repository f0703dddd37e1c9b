/- Walks of functions, and what they compute. Conditions: none, this text proves no statement. -/
import Derived.Test.YtkflpgknieoknaaProg
import Derived.Test.YtkflpgknieoknaaRc
import Derived.KernelRfl
namespace Go.SLYtkflpgknieoknaa
open Go Go.RowKit Go.Proofs

set_option maxRecDepth 20000 in
theorem vessel_Holds {W : World} {u : Value} {x : Vsl} : Fn Try.prog W 88 [.agg (vslE (u, x)).toArray] [] Unit (fun _ => .bool x.holds) (fun _ => True) (fun _ => []) := by
  refine Fn.intro (N := 16) Try.func88 rfl Try.ntmps88 rfl fun F => ?_
  show GoC _ _ _ _ _ _ [F]
  refine GoC.seq ?_
  refine GoC.region ?_
  refine GoL.does rfl (Does.box rfl rfl rfl) ?_
  rintro _ _ ⟨b1, rfl, rfl⟩
  refine GoL.y rfl (Y.assign rfl) ?_
  refine GoL.nil ?_
  refine GoE.then_normal ?_
  refine GoC.seq ?_
  refine GoC.region ?_
  refine GoL.y rfl (Y.fieldAddrZ 3 Try.underlying122 rfl Try.sizeOf3 rfl) ?_
  first
    | refine GoL.y rfl (Y.load Try.isAgg3 rfl (Cell.a (by rfl))) ?_
    | refine GoL.y rfl (Y.load Try.isAgg3 rfl (Cell.rd0 Rd.s ‹_› (by rfl))) ?_
    | refine GoL.y rfl (Y.load Try.isAgg3 rfl (Cell.rd Rd.s ‹_› (by rfl))) ?_
    | refine GoL.y rfl (Y.load Try.isAgg3 rfl (Cell.ao (by rfl))) ?_
    | refine GoL.y rfl (Y.load Try.isAgg3 rfl (Cell.az (by rfl))) ?_
    | refine GoL.y rfl (Y.load Try.isAgg3 rfl (Cell.a ‹_›)) ?_
    | refine GoL.y rfl (Y.load Try.isAgg3 rfl (Cell.rd0 ‹_› ‹_› (by rfl))) ?_
    | refine GoL.y rfl (Y.load Try.isAgg3 rfl (Cell.rd ‹_› ‹_› (by rfl))) ?_
  refine GoL.y rfl (Y.eql rfl rfl) ?_
  refine GoL.y rfl (Y.move rfl) ?_
  first
    | apply GoL.segOD 4 10 6 [6, 7, 8, 9, 10] rfl
    | apply GoL.segO 4 10 6 [6, 7, 8, 9, 10] rfl
  · intro h6
    refine GoL.yg rfl rfl rfl (Y.fieldAddrZ 3 Try.underlying122 rfl Try.sizeOf3 rfl) ?_
    first
      | refine GoL.yg rfl rfl rfl (Y.load Try.isAgg3 rfl (Cell.a (by rfl))) ?_
      | refine GoL.yg rfl rfl rfl (Y.load Try.isAgg3 rfl (Cell.rd0 Rd.s ‹_› (by rfl))) ?_
      | refine GoL.yg rfl rfl rfl (Y.load Try.isAgg3 rfl (Cell.rd Rd.s ‹_› (by rfl))) ?_
      | refine GoL.yg rfl rfl rfl (Y.load Try.isAgg3 rfl (Cell.ao (by rfl))) ?_
      | refine GoL.yg rfl rfl rfl (Y.load Try.isAgg3 rfl (Cell.az (by rfl))) ?_
      | refine GoL.yg rfl rfl rfl (Y.load Try.isAgg3 rfl (Cell.a ‹_›)) ?_
      | refine GoL.yg rfl rfl rfl (Y.load Try.isAgg3 rfl (Cell.rd0 ‹_› ‹_› (by rfl))) ?_
      | refine GoL.yg rfl rfl rfl (Y.load Try.isAgg3 rfl (Cell.rd ‹_› ‹_› (by rfl))) ?_
    refine GoL.yg rfl rfl rfl (Y.eql rfl rfl) ?_
    refine GoL.y rfl (Y.pickF rfl rfl) ?_
    refine GoL.nil ?_
    refine GoE.seg (by repeat (first | exact Top.base | refine Top.cons rfl ?_)) rfl (by first | exact fun _ h => h | exact Ent.kept (by repeat (first | exact Ent.nil | (apply Ent.cons; · repeat (first | exact Take.here | apply Take.there)) | apply Ent.opt0 | apply Ent.opt1 | apply Ent.void | apply Ent.emp0 | apply Ent.two | (apply Ent.allV; · exact sl_void) | (apply Ent.allM; · exact fun _ => sl_void) | apply Ent.f1 rfl | apply Ent.f2 rfl | apply Ent.f3 rfl | apply Ent.f4 rfl | apply Ent.f10 rfl | apply Ent.grp | assumption | exact trivial | rfl | omega)))
  · intro h6
    refine GoL.skip rfl rfl rfl rfl ?_
    refine GoL.skip rfl rfl rfl rfl ?_
    refine GoL.skip rfl rfl rfl rfl ?_
    refine GoL.y rfl (Y.pickT rfl rfl) ?_
    refine GoL.nil ?_
    refine GoE.seg (by repeat (first | exact Top.base | refine Top.cons rfl ?_)) rfl (by first | exact fun _ h => h | exact Ent.kept (by repeat (first | exact Ent.nil | (apply Ent.cons; · repeat (first | exact Take.here | apply Take.there)) | apply Ent.opt0 | apply Ent.opt1 | apply Ent.void | apply Ent.emp0 | apply Ent.two | (apply Ent.allV; · exact sl_void) | (apply Ent.allM; · exact fun _ => sl_void) | apply Ent.f1 rfl | apply Ent.f2 rfl | apply Ent.f3 rfl | apply Ent.f4 rfl | apply Ent.f10 rfl | apply Ent.grp | assumption | exact trivial | rfl | omega)))
  refine GoL.y rfl (Y.move rfl) ?_
  first
    | apply GoL.segOD 4 15 11 [11, 12, 13, 14, 15] rfl
    | apply GoL.segO 4 15 11 [11, 12, 13, 14, 15] rfl
  · intro h11
    refine GoL.yg rfl rfl rfl (Y.fieldAddrZ 3 Try.underlying122 rfl Try.sizeOf3 rfl) ?_
    first
      | refine GoL.yg rfl rfl rfl (Y.load Try.isAgg3 rfl (Cell.a (by rfl))) ?_
      | refine GoL.yg rfl rfl rfl (Y.load Try.isAgg3 rfl (Cell.rd0 Rd.s ‹_› (by rfl))) ?_
      | refine GoL.yg rfl rfl rfl (Y.load Try.isAgg3 rfl (Cell.rd Rd.s ‹_› (by rfl))) ?_
      | refine GoL.yg rfl rfl rfl (Y.load Try.isAgg3 rfl (Cell.ao (by rfl))) ?_
      | refine GoL.yg rfl rfl rfl (Y.load Try.isAgg3 rfl (Cell.az (by rfl))) ?_
      | refine GoL.yg rfl rfl rfl (Y.load Try.isAgg3 rfl (Cell.a ‹_›)) ?_
      | refine GoL.yg rfl rfl rfl (Y.load Try.isAgg3 rfl (Cell.rd0 ‹_› ‹_› (by rfl))) ?_
      | refine GoL.yg rfl rfl rfl (Y.load Try.isAgg3 rfl (Cell.rd ‹_› ‹_› (by rfl))) ?_
    refine GoL.yg rfl rfl rfl (Y.eql rfl rfl) ?_
    refine GoL.y rfl (Y.pickF rfl rfl) ?_
    refine GoL.nil ?_
    refine GoE.seg (by repeat (first | exact Top.base | refine Top.cons rfl ?_)) rfl (by first | exact fun _ h => h | exact Ent.kept (by repeat (first | exact Ent.nil | (apply Ent.cons; · repeat (first | exact Take.here | apply Take.there)) | apply Ent.opt0 | apply Ent.opt1 | apply Ent.void | apply Ent.emp0 | apply Ent.two | (apply Ent.allV; · exact sl_void) | (apply Ent.allM; · exact fun _ => sl_void) | apply Ent.f1 rfl | apply Ent.f2 rfl | apply Ent.f3 rfl | apply Ent.f4 rfl | apply Ent.f10 rfl | apply Ent.grp | assumption | exact trivial | rfl | omega)))
  · intro h11
    refine GoL.skip rfl rfl rfl rfl ?_
    refine GoL.skip rfl rfl rfl rfl ?_
    refine GoL.skip rfl rfl rfl rfl ?_
    refine GoL.y rfl (Y.pickT rfl rfl) ?_
    refine GoL.nil ?_
    refine GoE.seg (by repeat (first | exact Top.base | refine Top.cons rfl ?_)) rfl (by first | exact fun _ h => h | exact Ent.kept (by repeat (first | exact Ent.nil | (apply Ent.cons; · repeat (first | exact Take.here | apply Take.there)) | apply Ent.opt0 | apply Ent.opt1 | apply Ent.void | apply Ent.emp0 | apply Ent.two | (apply Ent.allV; · exact sl_void) | (apply Ent.allM; · exact fun _ => sl_void) | apply Ent.f1 rfl | apply Ent.f2 rfl | apply Ent.f3 rfl | apply Ent.f4 rfl | apply Ent.f10 rfl | apply Ent.grp | assumption | exact trivial | rfl | omega)))
  refine GoL.y rfl (Y.assign rfl) ?_
  refine GoL.nil ?_
  refine GoE.then_normal ?_
  refine GoC.ret ?_
  refine GoE.ret1 rfl rfl fun w s => ⟨(), ?_, trivial, finE (by repeat (first | exact Ent.nil | (apply Ent.cons; · repeat (first | exact Take.here | apply Take.there)) | apply Ent.opt0 | apply Ent.opt1 | apply Ent.void | apply Ent.emp0 | apply Ent.two | (apply Ent.allV; · exact sl_void) | (apply Ent.allM; · exact fun _ => sl_void) | apply Ent.f1 rfl | apply Ent.f2 rfl | apply Ent.f3 rfl | apply Ent.f4 rfl | apply Ent.f10 rfl | apply Ent.grp | assumption | exact trivial | rfl | omega)) s⟩
  rfl

set_option maxRecDepth 20000 in
theorem vessel_Runs {W : World} {u : Value} {x : Vsl} (hu : isSl u = true) : Fn Try.prog W 61 [.agg (vslE (u, x)).toArray] [] Unit (fun _ => .tuple #[.int .i64 (runsT x), .bool x.runs]) (fun _ => True) (fun _ => []) := by
  refine Fn.intro (N := 24) Try.func61 rfl Try.ntmps61 rfl fun F => ?_
  show GoC _ _ _ _ _ _ [F]
  refine GoC.seq ?_
  refine GoC.region ?_
  refine GoL.does rfl (Does.box rfl rfl rfl) ?_
  rintro _ _ ⟨b1, rfl, rfl⟩
  refine GoL.y rfl (Y.assign rfl) ?_
  refine GoL.y rfl (Y.assign rfl) ?_
  refine GoL.nil ?_
  refine GoE.then_normal ?_
  refine GoC.seq ?_
  refine GoC.seq ?_
  refine GoC.region ?_
  refine GoL.y rfl (Y.fieldAddrZ 3 Try.underlying122 rfl Try.sizeOf3 rfl) ?_
  first
    | refine GoL.y rfl (Y.load Try.isAgg3 rfl (Cell.a (by rfl))) ?_
    | refine GoL.y rfl (Y.load Try.isAgg3 rfl (Cell.rd0 Rd.s ‹_› (by rfl))) ?_
    | refine GoL.y rfl (Y.load Try.isAgg3 rfl (Cell.rd Rd.s ‹_› (by rfl))) ?_
    | refine GoL.y rfl (Y.load Try.isAgg3 rfl (Cell.ao (by rfl))) ?_
    | refine GoL.y rfl (Y.load Try.isAgg3 rfl (Cell.az (by rfl))) ?_
    | refine GoL.y rfl (Y.load Try.isAgg3 rfl (Cell.a ‹_›)) ?_
    | refine GoL.y rfl (Y.load Try.isAgg3 rfl (Cell.rd0 ‹_› ‹_› (by rfl))) ?_
    | refine GoL.y rfl (Y.load Try.isAgg3 rfl (Cell.rd ‹_› ‹_› (by rfl))) ?_
  refine GoL.y rfl (Y.neq rfl rfl) ?_
  refine GoL.y rfl (Y.move rfl) ?_
  first
    | apply GoL.segAD 4 11 7 [7, 8, 9, 10, 11] rfl
    | apply GoL.segA 4 11 7 [7, 8, 9, 10, 11] rfl
  · intro h7
    refine GoL.yg rfl rfl rfl (Y.fieldAddrZ 3 Try.underlying122 rfl Try.sizeOf3 rfl) ?_
    first
      | refine GoL.yg rfl rfl rfl (Y.load Try.isAgg3 rfl (Cell.a (by rfl))) ?_
      | refine GoL.yg rfl rfl rfl (Y.load Try.isAgg3 rfl (Cell.rd0 Rd.s ‹_› (by rfl))) ?_
      | refine GoL.yg rfl rfl rfl (Y.load Try.isAgg3 rfl (Cell.rd Rd.s ‹_› (by rfl))) ?_
      | refine GoL.yg rfl rfl rfl (Y.load Try.isAgg3 rfl (Cell.ao (by rfl))) ?_
      | refine GoL.yg rfl rfl rfl (Y.load Try.isAgg3 rfl (Cell.az (by rfl))) ?_
      | refine GoL.yg rfl rfl rfl (Y.load Try.isAgg3 rfl (Cell.a ‹_›)) ?_
      | refine GoL.yg rfl rfl rfl (Y.load Try.isAgg3 rfl (Cell.rd0 ‹_› ‹_› (by rfl))) ?_
      | refine GoL.yg rfl rfl rfl (Y.load Try.isAgg3 rfl (Cell.rd ‹_› ‹_› (by rfl))) ?_
    refine GoL.yg rfl rfl rfl (Y.neq rfl rfl) ?_
    refine GoL.y rfl (Y.pickT rfl rfl) ?_
    refine GoL.nil ?_
    refine GoE.seg (by repeat (first | exact Top.base | refine Top.cons rfl ?_)) rfl (by first | exact fun _ h => h | exact Ent.kept (by repeat (first | exact Ent.nil | (apply Ent.cons; · repeat (first | exact Take.here | apply Take.there)) | apply Ent.opt0 | apply Ent.opt1 | apply Ent.void | apply Ent.emp0 | apply Ent.two | (apply Ent.allV; · exact sl_void) | (apply Ent.allM; · exact fun _ => sl_void) | apply Ent.f1 rfl | apply Ent.f2 rfl | apply Ent.f3 rfl | apply Ent.f4 rfl | apply Ent.f10 rfl | apply Ent.grp | assumption | exact trivial | rfl | omega)))
  · intro h7
    refine GoL.skip rfl rfl rfl rfl ?_
    refine GoL.skip rfl rfl rfl rfl ?_
    refine GoL.skip rfl rfl rfl rfl ?_
    refine GoL.y rfl (Y.pickF rfl rfl) ?_
    refine GoL.nil ?_
    refine GoE.seg (by repeat (first | exact Top.base | refine Top.cons rfl ?_)) rfl (by first | exact fun _ h => h | exact Ent.kept (by repeat (first | exact Ent.nil | (apply Ent.cons; · repeat (first | exact Take.here | apply Take.there)) | apply Ent.opt0 | apply Ent.opt1 | apply Ent.void | apply Ent.emp0 | apply Ent.two | (apply Ent.allV; · exact sl_void) | (apply Ent.allM; · exact fun _ => sl_void) | apply Ent.f1 rfl | apply Ent.f2 rfl | apply Ent.f3 rfl | apply Ent.f4 rfl | apply Ent.f10 rfl | apply Ent.grp | assumption | exact trivial | rfl | omega)))
  refine GoL.y rfl (Y.move rfl) ?_
  first
    | apply GoL.segAD 4 16 12 [12, 13, 14, 15, 16] rfl
    | apply GoL.segA 4 16 12 [12, 13, 14, 15, 16] rfl
  · intro h12
    refine GoL.yg rfl rfl rfl (Y.fieldAddrZ 3 Try.underlying122 rfl Try.sizeOf3 rfl) ?_
    first
      | refine GoL.yg rfl rfl rfl (Y.load Try.isAgg3 rfl (Cell.a (by rfl))) ?_
      | refine GoL.yg rfl rfl rfl (Y.load Try.isAgg3 rfl (Cell.rd0 Rd.s ‹_› (by rfl))) ?_
      | refine GoL.yg rfl rfl rfl (Y.load Try.isAgg3 rfl (Cell.rd Rd.s ‹_› (by rfl))) ?_
      | refine GoL.yg rfl rfl rfl (Y.load Try.isAgg3 rfl (Cell.ao (by rfl))) ?_
      | refine GoL.yg rfl rfl rfl (Y.load Try.isAgg3 rfl (Cell.az (by rfl))) ?_
      | refine GoL.yg rfl rfl rfl (Y.load Try.isAgg3 rfl (Cell.a ‹_›)) ?_
      | refine GoL.yg rfl rfl rfl (Y.load Try.isAgg3 rfl (Cell.rd0 ‹_› ‹_› (by rfl))) ?_
      | refine GoL.yg rfl rfl rfl (Y.load Try.isAgg3 rfl (Cell.rd ‹_› ‹_› (by rfl))) ?_
    refine GoL.yg rfl rfl rfl (Y.neq rfl rfl) ?_
    refine GoL.y rfl (Y.pickT rfl rfl) ?_
    refine GoL.nil ?_
    refine GoE.seg (by repeat (first | exact Top.base | refine Top.cons rfl ?_)) rfl (by first | exact fun _ h => h | exact Ent.kept (by repeat (first | exact Ent.nil | (apply Ent.cons; · repeat (first | exact Take.here | apply Take.there)) | apply Ent.opt0 | apply Ent.opt1 | apply Ent.void | apply Ent.emp0 | apply Ent.two | (apply Ent.allV; · exact sl_void) | (apply Ent.allM; · exact fun _ => sl_void) | apply Ent.f1 rfl | apply Ent.f2 rfl | apply Ent.f3 rfl | apply Ent.f4 rfl | apply Ent.f10 rfl | apply Ent.grp | assumption | exact trivial | rfl | omega)))
  · intro h12
    refine GoL.skip rfl rfl rfl rfl ?_
    refine GoL.skip rfl rfl rfl rfl ?_
    refine GoL.skip rfl rfl rfl rfl ?_
    refine GoL.y rfl (Y.pickF rfl rfl) ?_
    refine GoL.nil ?_
    refine GoE.seg (by repeat (first | exact Top.base | refine Top.cons rfl ?_)) rfl (by first | exact fun _ h => h | exact Ent.kept (by repeat (first | exact Ent.nil | (apply Ent.cons; · repeat (first | exact Take.here | apply Take.there)) | apply Ent.opt0 | apply Ent.opt1 | apply Ent.void | apply Ent.emp0 | apply Ent.two | (apply Ent.allV; · exact sl_void) | (apply Ent.allM; · exact fun _ => sl_void) | apply Ent.f1 rfl | apply Ent.f2 rfl | apply Ent.f3 rfl | apply Ent.f4 rfl | apply Ent.f10 rfl | apply Ent.grp | assumption | exact trivial | rfl | omega)))
  refine GoL.y rfl (Y.move rfl) ?_
  first
    | apply GoL.segOD 4 21 17 [17, 18, 19, 20, 21] rfl
    | apply GoL.segO 4 21 17 [17, 18, 19, 20, 21] rfl
  · intro h17
    first
      | refine GoL.yg rfl rfl rfl (Y.fieldAddr0 1 3 Try.underlying122 rfl Try.sizeOf3 rfl) ?_
      | refine GoL.yg rfl rfl rfl (Y.fieldAddr 1 3 Try.underlying122 rfl Try.sizeOf3 rfl) ?_
    first
      | refine GoL.yg rfl rfl rfl (Y.load Try.isAgg3 rfl (Cell.a (by rfl))) ?_
      | refine GoL.yg rfl rfl rfl (Y.load Try.isAgg3 rfl (Cell.rd0 Rd.s ‹_› (by rfl))) ?_
      | refine GoL.yg rfl rfl rfl (Y.load Try.isAgg3 rfl (Cell.rd Rd.s ‹_› (by rfl))) ?_
      | refine GoL.yg rfl rfl rfl (Y.load Try.isAgg3 rfl (Cell.ao (by rfl))) ?_
      | refine GoL.yg rfl rfl rfl (Y.load Try.isAgg3 rfl (Cell.az (by rfl))) ?_
      | refine GoL.yg rfl rfl rfl (Y.load Try.isAgg3 rfl (Cell.a ‹_›)) ?_
      | refine GoL.yg rfl rfl rfl (Y.load Try.isAgg3 rfl (Cell.rd0 ‹_› ‹_› (by rfl))) ?_
      | refine GoL.yg rfl rfl rfl (Y.load Try.isAgg3 rfl (Cell.rd ‹_› ‹_› (by rfl))) ?_
    refine GoL.yg rfl rfl rfl (Y.lss rfl rfl) ?_
    refine GoL.y rfl (Y.pickF rfl rfl) ?_
    refine GoL.nil ?_
    refine GoE.seg (by repeat (first | exact Top.base | refine Top.cons rfl ?_)) rfl (by first | exact fun _ h => h | exact Ent.kept (by repeat (first | exact Ent.nil | (apply Ent.cons; · repeat (first | exact Take.here | apply Take.there)) | apply Ent.opt0 | apply Ent.opt1 | apply Ent.void | apply Ent.emp0 | apply Ent.two | (apply Ent.allV; · exact sl_void) | (apply Ent.allM; · exact fun _ => sl_void) | apply Ent.f1 rfl | apply Ent.f2 rfl | apply Ent.f3 rfl | apply Ent.f4 rfl | apply Ent.f10 rfl | apply Ent.grp | assumption | exact trivial | rfl | omega)))
  · intro h17
    refine GoL.skip rfl rfl rfl rfl ?_
    refine GoL.skip rfl rfl rfl rfl ?_
    refine GoL.skip rfl rfl rfl rfl ?_
    refine GoL.y rfl (Y.pickT rfl rfl) ?_
    refine GoL.nil ?_
    refine GoE.seg (by repeat (first | exact Top.base | refine Top.cons rfl ?_)) rfl (by first | exact fun _ h => h | exact Ent.kept (by repeat (first | exact Ent.nil | (apply Ent.cons; · repeat (first | exact Take.here | apply Take.there)) | apply Ent.opt0 | apply Ent.opt1 | apply Ent.void | apply Ent.emp0 | apply Ent.two | (apply Ent.allV; · exact sl_void) | (apply Ent.allM; · exact fun _ => sl_void) | apply Ent.f1 rfl | apply Ent.f2 rfl | apply Ent.f3 rfl | apply Ent.f4 rfl | apply Ent.f10 rfl | apply Ent.grp | assumption | exact trivial | rfl | omega)))
  refine GoL.nil ?_
  refine GoE.then_normal ?_
  refine GoC.cond rfl (fun h21 => ?_) (fun h21 => ?_)
  · simp only [Bool.and_eq_true, Bool.or_eq_true, Bool.and_eq_false_iff, Bool.or_eq_false_iff, decide_eq_true_eq, decide_eq_false_iff_not, Bool.not_eq_true', Bool.not_eq_false'] at h21
    refine GoC.seq ?_
    refine GoC.region ?_
    refine GoL.y rfl (Y.assign rfl) ?_
    refine GoL.y rfl (Y.assign rfl) ?_
    refine GoL.nil ?_
    refine GoE.then_normal ?_
    refine GoC.ret ?_
    refine GoE.then_ret ?_
    refine GoE.ret2 rfl rfl rfl fun w s => ⟨(), ?_, trivial, finE (by repeat (first | exact Ent.nil | (apply Ent.cons; · repeat (first | exact Take.here | apply Take.there)) | apply Ent.opt0 | apply Ent.opt1 | apply Ent.void | apply Ent.emp0 | apply Ent.two | (apply Ent.allV; · exact sl_void) | (apply Ent.allM; · exact fun _ => sl_void) | apply Ent.f1 rfl | apply Ent.f2 rfl | apply Ent.f3 rfl | apply Ent.f4 rfl | apply Ent.f10 rfl | apply Ent.grp | assumption | exact trivial | rfl | omega)) s⟩
    have e : x.runs = false := by unfold Vsl.runs; simp; omega
    rw [runsT, e]; rfl
  · simp only [Bool.and_eq_true, Bool.or_eq_true, Bool.and_eq_false_iff, Bool.or_eq_false_iff, decide_eq_true_eq, decide_eq_false_iff_not, Bool.not_eq_true', Bool.not_eq_false'] at h21
    refine GoC.skip ?_
    refine GoE.then_normal ?_
    refine GoC.seq ?_
    refine GoC.region ?_
    first
      | refine GoL.y rfl (Y.fieldAddr0 1 3 Try.underlying122 rfl Try.sizeOf3 rfl) ?_
      | refine GoL.y rfl (Y.fieldAddr 1 3 Try.underlying122 rfl Try.sizeOf3 rfl) ?_
    first
      | refine GoL.y rfl (Y.load Try.isAgg3 rfl (Cell.a (by rfl))) ?_
      | refine GoL.y rfl (Y.load Try.isAgg3 rfl (Cell.rd0 Rd.s ‹_› (by rfl))) ?_
      | refine GoL.y rfl (Y.load Try.isAgg3 rfl (Cell.rd Rd.s ‹_› (by rfl))) ?_
      | refine GoL.y rfl (Y.load Try.isAgg3 rfl (Cell.ao (by rfl))) ?_
      | refine GoL.y rfl (Y.load Try.isAgg3 rfl (Cell.az (by rfl))) ?_
      | refine GoL.y rfl (Y.load Try.isAgg3 rfl (Cell.a ‹_›)) ?_
      | refine GoL.y rfl (Y.load Try.isAgg3 rfl (Cell.rd0 ‹_› ‹_› (by rfl))) ?_
      | refine GoL.y rfl (Y.load Try.isAgg3 rfl (Cell.rd ‹_› ‹_› (by rfl))) ?_
    refine GoL.y rfl (Y.assign rfl) ?_
    refine GoL.y rfl (Y.assign rfl) ?_
    refine GoL.nil ?_
    refine GoE.then_normal ?_
    refine GoC.ret ?_
    refine GoE.ret2 rfl rfl rfl fun w s => ⟨(), ?_, trivial, finE (by repeat (first | exact Ent.nil | (apply Ent.cons; · repeat (first | exact Take.here | apply Take.there)) | apply Ent.opt0 | apply Ent.opt1 | apply Ent.void | apply Ent.emp0 | apply Ent.two | (apply Ent.allV; · exact sl_void) | (apply Ent.allM; · exact fun _ => sl_void) | apply Ent.f1 rfl | apply Ent.f2 rfl | apply Ent.f3 rfl | apply Ent.f4 rfl | apply Ent.f10 rfl | apply Ent.grp | assumption | exact trivial | rfl | omega)) s⟩
    have e : x.runs = true := by unfold Vsl.runs; simp; omega
    rw [runsT, e]; rfl

set_option maxRecDepth 20000 in
theorem event_Runs {W : World} {e : Ev} : Fn Try.prog W 63 [.agg (evE e).toArray] [] Unit (fun _ => .tuple #[.int .i64 (evT e), .bool (evRuns e)]) (fun _ => True) (fun _ => []) := by
  refine Fn.intro (N := 24) Try.func63 rfl Try.ntmps63 rfl fun F => ?_
  show GoC _ _ _ _ _ _ [F]
  refine GoC.seq ?_
  refine GoC.region ?_
  refine GoL.does rfl (Does.box rfl rfl rfl) ?_
  rintro _ _ ⟨b1, rfl, rfl⟩
  refine GoL.y rfl (Y.assign rfl) ?_
  refine GoL.y rfl (Y.assign rfl) ?_
  refine GoL.nil ?_
  refine GoE.then_normal ?_
  refine GoC.seq ?_
  refine GoC.seq ?_
  refine GoC.region ?_
  first
    | refine GoL.y rfl (Y.fieldAddr0 1 3 Try.underlying131 rfl Try.sizeOf3 rfl) ?_
    | refine GoL.y rfl (Y.fieldAddr 1 3 Try.underlying131 rfl Try.sizeOf3 rfl) ?_
  first
    | refine GoL.y rfl (Y.load Try.isAgg3 rfl (Cell.a (by rfl))) ?_
    | refine GoL.y rfl (Y.load Try.isAgg3 rfl (Cell.rd0 Rd.s ‹_› (by rfl))) ?_
    | refine GoL.y rfl (Y.load Try.isAgg3 rfl (Cell.rd Rd.s ‹_› (by rfl))) ?_
    | refine GoL.y rfl (Y.load Try.isAgg3 rfl (Cell.ao (by rfl))) ?_
    | refine GoL.y rfl (Y.load Try.isAgg3 rfl (Cell.az (by rfl))) ?_
    | refine GoL.y rfl (Y.load Try.isAgg3 rfl (Cell.a ‹_›)) ?_
    | refine GoL.y rfl (Y.load Try.isAgg3 rfl (Cell.rd0 ‹_› ‹_› (by rfl))) ?_
    | refine GoL.y rfl (Y.load Try.isAgg3 rfl (Cell.rd ‹_› ‹_› (by rfl))) ?_
  refine GoL.y rfl (Y.lss rfl rfl) ?_
  refine GoL.y rfl (Y.move rfl) ?_
  first
    | apply GoL.segOD 4 11 7 [7, 8, 9, 10, 11] rfl
    | apply GoL.segO 4 11 7 [7, 8, 9, 10, 11] rfl
  · intro h7
    first
      | refine GoL.yg rfl rfl rfl (Y.fieldAddr0 2 3 Try.underlying131 rfl Try.sizeOf3 rfl) ?_
      | refine GoL.yg rfl rfl rfl (Y.fieldAddr 2 3 Try.underlying131 rfl Try.sizeOf3 rfl) ?_
    first
      | refine GoL.yg rfl rfl rfl (Y.load Try.isAgg3 rfl (Cell.a (by rfl))) ?_
      | refine GoL.yg rfl rfl rfl (Y.load Try.isAgg3 rfl (Cell.rd0 Rd.s ‹_› (by rfl))) ?_
      | refine GoL.yg rfl rfl rfl (Y.load Try.isAgg3 rfl (Cell.rd Rd.s ‹_› (by rfl))) ?_
      | refine GoL.yg rfl rfl rfl (Y.load Try.isAgg3 rfl (Cell.ao (by rfl))) ?_
      | refine GoL.yg rfl rfl rfl (Y.load Try.isAgg3 rfl (Cell.az (by rfl))) ?_
      | refine GoL.yg rfl rfl rfl (Y.load Try.isAgg3 rfl (Cell.a ‹_›)) ?_
      | refine GoL.yg rfl rfl rfl (Y.load Try.isAgg3 rfl (Cell.rd0 ‹_› ‹_› (by rfl))) ?_
      | refine GoL.yg rfl rfl rfl (Y.load Try.isAgg3 rfl (Cell.rd ‹_› ‹_› (by rfl))) ?_
    refine GoL.yg rfl rfl rfl (Y.gtr rfl rfl) ?_
    refine GoL.y rfl (Y.pickF rfl rfl) ?_
    refine GoL.nil ?_
    refine GoE.seg (by repeat (first | exact Top.base | refine Top.cons rfl ?_)) rfl (by first | exact fun _ h => h | exact Ent.kept (by repeat (first | exact Ent.nil | (apply Ent.cons; · repeat (first | exact Take.here | apply Take.there)) | apply Ent.opt0 | apply Ent.opt1 | apply Ent.void | apply Ent.emp0 | apply Ent.two | (apply Ent.allV; · exact sl_void) | (apply Ent.allM; · exact fun _ => sl_void) | apply Ent.f1 rfl | apply Ent.f2 rfl | apply Ent.f3 rfl | apply Ent.f4 rfl | apply Ent.f10 rfl | apply Ent.grp | assumption | exact trivial | rfl | omega)))
  · intro h7
    refine GoL.skip rfl rfl rfl rfl ?_
    refine GoL.skip rfl rfl rfl rfl ?_
    refine GoL.skip rfl rfl rfl rfl ?_
    refine GoL.y rfl (Y.pickT rfl rfl) ?_
    refine GoL.nil ?_
    refine GoE.seg (by repeat (first | exact Top.base | refine Top.cons rfl ?_)) rfl (by first | exact fun _ h => h | exact Ent.kept (by repeat (first | exact Ent.nil | (apply Ent.cons; · repeat (first | exact Take.here | apply Take.there)) | apply Ent.opt0 | apply Ent.opt1 | apply Ent.void | apply Ent.emp0 | apply Ent.two | (apply Ent.allV; · exact sl_void) | (apply Ent.allM; · exact fun _ => sl_void) | apply Ent.f1 rfl | apply Ent.f2 rfl | apply Ent.f3 rfl | apply Ent.f4 rfl | apply Ent.f10 rfl | apply Ent.grp | assumption | exact trivial | rfl | omega)))
  refine GoL.y rfl (Y.move rfl) ?_
  first
    | apply GoL.segOD 9 21 12 [12, 13, 14, 15, 16, 17, 18, 19, 20, 21] rfl
    | apply GoL.segO 9 21 12 [12, 13, 14, 15, 16, 17, 18, 19, 20, 21] rfl
  · intro h12
    refine GoL.yg rfl rfl rfl (Y.fieldAddrZ 3 Try.underlying131 rfl Try.sizeOf3 rfl) ?_
    first
      | refine GoL.yg rfl rfl rfl (Y.load Try.isAgg3 rfl (Cell.a (by rfl))) ?_
      | refine GoL.yg rfl rfl rfl (Y.load Try.isAgg3 rfl (Cell.rd0 Rd.s ‹_› (by rfl))) ?_
      | refine GoL.yg rfl rfl rfl (Y.load Try.isAgg3 rfl (Cell.rd Rd.s ‹_› (by rfl))) ?_
      | refine GoL.yg rfl rfl rfl (Y.load Try.isAgg3 rfl (Cell.ao (by rfl))) ?_
      | refine GoL.yg rfl rfl rfl (Y.load Try.isAgg3 rfl (Cell.az (by rfl))) ?_
      | refine GoL.yg rfl rfl rfl (Y.load Try.isAgg3 rfl (Cell.a ‹_›)) ?_
      | refine GoL.yg rfl rfl rfl (Y.load Try.isAgg3 rfl (Cell.rd0 ‹_› ‹_› (by rfl))) ?_
      | refine GoL.yg rfl rfl rfl (Y.load Try.isAgg3 rfl (Cell.rd ‹_› ‹_› (by rfl))) ?_
    refine GoL.yg rfl rfl rfl (Y.neq rfl rfl) ?_
    refine GoL.yg rfl rfl rfl (Y.move rfl) ?_
    first
      | apply GoL.segAD 4 20 16 [16, 17, 18, 19, 20] rfl
      | apply GoL.segA 4 20 16 [16, 17, 18, 19, 20] rfl
    · intro h16
      refine GoL.yg rfl rfl rfl (Y.fieldAddrZ 3 Try.underlying131 rfl Try.sizeOf3 rfl) ?_
      first
        | refine GoL.yg rfl rfl rfl (Y.load Try.isAgg3 rfl (Cell.a (by rfl))) ?_
        | refine GoL.yg rfl rfl rfl (Y.load Try.isAgg3 rfl (Cell.rd0 Rd.s ‹_› (by rfl))) ?_
        | refine GoL.yg rfl rfl rfl (Y.load Try.isAgg3 rfl (Cell.rd Rd.s ‹_› (by rfl))) ?_
        | refine GoL.yg rfl rfl rfl (Y.load Try.isAgg3 rfl (Cell.ao (by rfl))) ?_
        | refine GoL.yg rfl rfl rfl (Y.load Try.isAgg3 rfl (Cell.az (by rfl))) ?_
        | refine GoL.yg rfl rfl rfl (Y.load Try.isAgg3 rfl (Cell.a ‹_›)) ?_
        | refine GoL.yg rfl rfl rfl (Y.load Try.isAgg3 rfl (Cell.rd0 ‹_› ‹_› (by rfl))) ?_
        | refine GoL.yg rfl rfl rfl (Y.load Try.isAgg3 rfl (Cell.rd ‹_› ‹_› (by rfl))) ?_
      refine GoL.yg rfl rfl rfl (Y.neq rfl rfl) ?_
      refine GoL.yg rfl rfl rfl (Y.pickT rfl rfl) ?_
      refine GoL.nil ?_
      refine GoE.seg (by repeat (first | exact Top.base | refine Top.cons rfl ?_)) rfl (by first | exact fun _ h => h | exact Ent.kept (by repeat (first | exact Ent.nil | (apply Ent.cons; · repeat (first | exact Take.here | apply Take.there)) | apply Ent.opt0 | apply Ent.opt1 | apply Ent.void | apply Ent.emp0 | apply Ent.two | (apply Ent.allV; · exact sl_void) | (apply Ent.allM; · exact fun _ => sl_void) | apply Ent.f1 rfl | apply Ent.f2 rfl | apply Ent.f3 rfl | apply Ent.f4 rfl | apply Ent.f10 rfl | apply Ent.grp | assumption | exact trivial | rfl | omega)))
    · intro h16
      refine GoL.skip rfl rfl rfl rfl ?_
      refine GoL.skip rfl rfl rfl rfl ?_
      refine GoL.skip rfl rfl rfl rfl ?_
      refine GoL.yg rfl rfl rfl (Y.pickF rfl rfl) ?_
      refine GoL.nil ?_
      refine GoE.seg (by repeat (first | exact Top.base | refine Top.cons rfl ?_)) rfl (by first | exact fun _ h => h | exact Ent.kept (by repeat (first | exact Ent.nil | (apply Ent.cons; · repeat (first | exact Take.here | apply Take.there)) | apply Ent.opt0 | apply Ent.opt1 | apply Ent.void | apply Ent.emp0 | apply Ent.two | (apply Ent.allV; · exact sl_void) | (apply Ent.allM; · exact fun _ => sl_void) | apply Ent.f1 rfl | apply Ent.f2 rfl | apply Ent.f3 rfl | apply Ent.f4 rfl | apply Ent.f10 rfl | apply Ent.grp | assumption | exact trivial | rfl | omega)))
    refine GoL.y rfl (Y.pickF rfl rfl) ?_
    refine GoL.nil ?_
    refine GoE.seg (by repeat (first | exact Top.base | refine Top.cons rfl ?_)) rfl (by first | exact fun _ h => h | exact Ent.kept (by repeat (first | exact Ent.nil | (apply Ent.cons; · repeat (first | exact Take.here | apply Take.there)) | apply Ent.opt0 | apply Ent.opt1 | apply Ent.void | apply Ent.emp0 | apply Ent.two | (apply Ent.allV; · exact sl_void) | (apply Ent.allM; · exact fun _ => sl_void) | apply Ent.f1 rfl | apply Ent.f2 rfl | apply Ent.f3 rfl | apply Ent.f4 rfl | apply Ent.f10 rfl | apply Ent.grp | assumption | exact trivial | rfl | omega)))
  · intro h12
    refine GoL.skip rfl rfl rfl rfl ?_
    refine GoL.skip rfl rfl rfl rfl ?_
    refine GoL.skip rfl rfl rfl rfl ?_
    refine GoL.skip rfl rfl rfl rfl ?_
    refine GoL.skip rfl rfl rfl rfl ?_
    refine GoL.skip rfl rfl rfl rfl ?_
    refine GoL.skip rfl rfl rfl rfl ?_
    refine GoL.skip rfl rfl rfl rfl ?_
    refine GoL.y rfl (Y.pickT rfl rfl) ?_
    refine GoL.nil ?_
    refine GoE.seg (by repeat (first | exact Top.base | refine Top.cons rfl ?_)) rfl (by first | exact fun _ h => h | exact Ent.kept (by repeat (first | exact Ent.nil | (apply Ent.cons; · repeat (first | exact Take.here | apply Take.there)) | apply Ent.opt0 | apply Ent.opt1 | apply Ent.void | apply Ent.emp0 | apply Ent.two | (apply Ent.allV; · exact sl_void) | (apply Ent.allM; · exact fun _ => sl_void) | apply Ent.f1 rfl | apply Ent.f2 rfl | apply Ent.f3 rfl | apply Ent.f4 rfl | apply Ent.f10 rfl | apply Ent.grp | assumption | exact trivial | rfl | omega)))
  refine GoL.nil ?_
  refine GoE.then_normal ?_
  refine GoC.cond rfl (fun h21 => ?_) (fun h21 => ?_)
  · simp only [Bool.and_eq_true, Bool.or_eq_true, Bool.and_eq_false_iff, Bool.or_eq_false_iff, decide_eq_true_eq, decide_eq_false_iff_not, Bool.not_eq_true', Bool.not_eq_false'] at h21
    refine GoC.seq ?_
    refine GoC.region ?_
    refine GoL.y rfl (Y.assign rfl) ?_
    refine GoL.y rfl (Y.assign rfl) ?_
    refine GoL.nil ?_
    refine GoE.then_normal ?_
    refine GoC.ret ?_
    refine GoE.then_ret ?_
    refine GoE.ret2 rfl rfl rfl fun w s => ⟨(), ?_, trivial, finE (by repeat (first | exact Ent.nil | (apply Ent.cons; · repeat (first | exact Take.here | apply Take.there)) | apply Ent.opt0 | apply Ent.opt1 | apply Ent.void | apply Ent.emp0 | apply Ent.two | (apply Ent.allV; · exact sl_void) | (apply Ent.allM; · exact fun _ => sl_void) | apply Ent.f1 rfl | apply Ent.f2 rfl | apply Ent.f3 rfl | apply Ent.f4 rfl | apply Ent.f10 rfl | apply Ent.grp | assumption | exact trivial | rfl | omega)) s⟩
    have h : evRuns e = false := by unfold evRuns; simp; omega
    rw [evT, h]; rfl
  · simp only [Bool.and_eq_true, Bool.or_eq_true, Bool.and_eq_false_iff, Bool.or_eq_false_iff, decide_eq_true_eq, decide_eq_false_iff_not, Bool.not_eq_true', Bool.not_eq_false'] at h21
    refine GoC.skip ?_
    refine GoE.then_normal ?_
    refine GoC.seq ?_
    refine GoC.region ?_
    first
      | refine GoL.y rfl (Y.fieldAddr0 1 3 Try.underlying131 rfl Try.sizeOf3 rfl) ?_
      | refine GoL.y rfl (Y.fieldAddr 1 3 Try.underlying131 rfl Try.sizeOf3 rfl) ?_
    first
      | refine GoL.y rfl (Y.load Try.isAgg3 rfl (Cell.a (by rfl))) ?_
      | refine GoL.y rfl (Y.load Try.isAgg3 rfl (Cell.rd0 Rd.s ‹_› (by rfl))) ?_
      | refine GoL.y rfl (Y.load Try.isAgg3 rfl (Cell.rd Rd.s ‹_› (by rfl))) ?_
      | refine GoL.y rfl (Y.load Try.isAgg3 rfl (Cell.ao (by rfl))) ?_
      | refine GoL.y rfl (Y.load Try.isAgg3 rfl (Cell.az (by rfl))) ?_
      | refine GoL.y rfl (Y.load Try.isAgg3 rfl (Cell.a ‹_›)) ?_
      | refine GoL.y rfl (Y.load Try.isAgg3 rfl (Cell.rd0 ‹_› ‹_› (by rfl))) ?_
      | refine GoL.y rfl (Y.load Try.isAgg3 rfl (Cell.rd ‹_› ‹_› (by rfl))) ?_
    refine GoL.y rfl (Y.assign rfl) ?_
    refine GoL.y rfl (Y.assign rfl) ?_
    refine GoL.nil ?_
    refine GoE.then_normal ?_
    refine GoC.ret ?_
    refine GoE.ret2 rfl rfl rfl fun w s => ⟨(), ?_, trivial, finE (by repeat (first | exact Ent.nil | (apply Ent.cons; · repeat (first | exact Take.here | apply Take.there)) | apply Ent.opt0 | apply Ent.opt1 | apply Ent.void | apply Ent.emp0 | apply Ent.two | (apply Ent.allV; · exact sl_void) | (apply Ent.allM; · exact fun _ => sl_void) | apply Ent.f1 rfl | apply Ent.f2 rfl | apply Ent.f3 rfl | apply Ent.f4 rfl | apply Ent.f10 rfl | apply Ent.grp | assumption | exact trivial | rfl | omega)) s⟩
    have h : evRuns e = true := by unfold evRuns; simp; omega
    rw [evT, h]; rfl

set_option maxRecDepth 20000 in
theorem event_Keep {W : World} {A : HProp} {v : Value} {xs : List Ev} (hr : Rd W [A] evE 3 v xs) (hl : xs.length ≤ 1000000000) : Fn Try.prog W 89 [v] [A] Value (fun u => u) (fun _ => True) (fun u => [sl evE 3 u (evKeep xs), A]) := by
  refine Fn.intro (N := 31) Try.func89 rfl Try.ntmps89 rfl fun F => ?_
  haveI hRI : ∀ (H : List HProp) [HasH H A], ReadsC W H v evE 3 xs := fun H h => ⟨hr.at h.has⟩
  show GoC _ _ _ _ _ _ [A, F]
  refine GoC.seq ?_
  refine GoC.region ?_
  refine GoL.y rfl (Y.assign rfl) ?_
  refine GoL.nil ?_
  refine GoE.then_normal ?_
  refine GoC.seq ?_
  refine GoC.region ?_
  refine GoL.y rfl (Y.assign rfl) ?_
  refine GoL.nil ?_
  refine GoE.then_normal ?_
  refine GoC.seq ?_
  refine GoC.seq ?_
  refine GoC.region ?_
  refine GoL.y rfl (Y.move rfl) ?_
  first
    | refine GoL.y rfl (Y.lenRd Try.underlying79 rfl Rd.s) ?_
    | refine GoL.y rfl (Y.lenRd Try.underlying79 rfl ‹_›) ?_
    | refine GoL.y rfl (Y.lenSlice Try.underlying79 rfl) ?_
  refine GoL.y rfl (Y.move rfl) ?_
  refine GoL.nil ?_
  refine GoE.then_normal ?_
  refine GoC.block ?_
  refine GoC.loopK (X := Nat × Value) [3, 5, 6, 7, 10, 11, 12, 13, 14, 15, 16, 17, 18, 19, 20, 21, 22, 23, 24, 25, 26, 27, 28, 29] (fun z => xs.length - z.1) (fun z => z.1 ≤ xs.length) (fun z => [(10, some (.int .i64 (z.1 : Int))), (3, some z.2)]) (fun z => [sl evE 3 z.2 (evKeep (xs.take z.1)), A, F]) (0, .slice none 0 0) ?_ ?_ ?_ ?_
  · exact Nat.zero_le _
  · exact ⟨rfl, rfl, trivial⟩
  · exact fun w s => Ent.kept (by repeat (first | exact Ent.nil | (apply Ent.cons; · repeat (first | exact Take.here | apply Take.there)) | apply Ent.opt0 | apply Ent.opt1 | apply Ent.void | apply Ent.emp0 | apply Ent.two | (apply Ent.allV; · exact sl_void) | (apply Ent.allM; · exact fun _ => sl_void) | apply Ent.f1 rfl | apply Ent.f2 rfl | apply Ent.f3 rfl | apply Ent.f4 rfl | apply Ent.f10 rfl | apply Ent.grp | assumption | exact trivial | rfl | omega)) w s
  rintro ⟨k, u⟩ hk
  simp only at hk
  have hkl := keep_len' xs k
  refine GoC.seq ?_
  refine GoC.region ?_
  refine GoL.y rfl (Y.lss rfl rfl) ?_
  refine GoL.nil ?_
  refine GoE.then_normal ?_
  refine GoC.seq ?_
  refine GoC.condD rfl (fun h11 => ?_) (fun h11 => ?_)
  · refine GoC.skip ?_
    refine GoE.then_normal ?_
    refine GoC.seq ?_
    refine GoC.block ?_
    refine GoC.seq ?_
    refine GoC.region ?_
    obtain ⟨e, hx⟩ := at_some (show k < xs.length by omega)
    first
      | refine GoL.y rfl (Y.ixRd _ Try.underlying79 Try.sizeOf131 rfl rfl Rd.s rfl (by first | omega | decide)) ?_
      | refine GoL.y rfl (Y.ixRd _ Try.underlying79 Try.sizeOf131 rfl rfl ‹_› rfl (by first | omega | decide)) ?_
    first
      | refine GoL.y rfl (Y.lda Try.isAgg131 rfl Cells.a (by exact Try.sizeOf131)) ?_
      | refine GoL.y rfl (Y.lda Try.isAgg131 rfl (Cells.rd ‹_› ‹_›) (by exact Try.sizeOf131)) ?_
      | refine GoL.y rfl (Y.lda Try.isAgg131 rfl (Cells.rd Rd.s ‹_›) (by exact Try.sizeOf131)) ?_
      | refine GoL.y rfl (Y.lda Try.isAgg131 rfl (Cells.part0 Cells.a rfl) (by exact Try.sizeOf131)) ?_
    refine GoL.does rfl (Does.alloc rfl Try.zeroValue131 rfl) ?_
    rintro _ _ ⟨b5, rfl, rfl⟩
    first
      | refine GoL.does rfl (Does.sta (by exact Try.sizeOf131) rfl rfl rfl (by rfl)) ?_
      | refine GoL.does rfl (Does.stp (by exact Try.sizeOf131) rfl rfl rfl rfl) ?_
    rintro _ _ ⟨rfl, rfl⟩
    refine GoL.nil ?_
    refine GoE.then_normal ?_
    refine GoC.seq ?_
    refine GoC.region ?_
    first
      | refine GoL.y rfl (Y.lda Try.isAgg131 rfl Cells.a (by exact Try.sizeOf131)) ?_
      | refine GoL.y rfl (Y.lda Try.isAgg131 rfl (Cells.rd ‹_› ‹_›) (by exact Try.sizeOf131)) ?_
      | refine GoL.y rfl (Y.lda Try.isAgg131 rfl (Cells.rd Rd.s ‹_›) (by exact Try.sizeOf131)) ?_
      | refine GoL.y rfl (Y.lda Try.isAgg131 rfl (Cells.part0 Cells.a rfl) (by exact Try.sizeOf131)) ?_
    refine GoL.does rfl (Does.callE rfl Try.call63 rfl event_Runs (by repeat (first | exact Ent.nil | (apply Ent.cons; · repeat (first | exact Take.here | apply Take.there)) | apply Ent.opt0 | apply Ent.opt1 | apply Ent.void | apply Ent.emp0 | apply Ent.two | (apply Ent.allV; · exact sl_void) | (apply Ent.allM; · exact fun _ => sl_void) | apply Ent.f1 rfl | apply Ent.f2 rfl | apply Ent.f3 rfl | apply Ent.f4 rfl | apply Ent.f10 rfl | apply Ent.grp | assumption | exact trivial | rfl | omega))) ?_
    rintro _ _ ⟨⟨⟩, -, rfl, rfl⟩
    refine GoL.y rfl (Y.move rfl) ?_
    refine GoL.y rfl (Y.extract rfl rfl) ?_
    refine GoL.y rfl (Y.extract rfl rfl) ?_
    refine GoL.y rfl (Y.assign rfl) ?_
    refine GoL.y rfl (Y.assign rfl) ?_
    refine GoL.nil ?_
    refine GoE.then_normal ?_
    refine GoC.seq ?_
    refine GoC.region ?_
    refine GoL.y rfl (Y.move rfl) ?_
    refine GoL.y rfl (Y.move rfl) ?_
    first
      | apply GoL.segOD 4 24 20 [20, 21, 22, 23, 24] rfl
      | apply GoL.segO 4 24 20 [20, 21, 22, 23, 24] rfl
    · intro h20
      first
        | refine GoL.yg rfl rfl rfl (Y.fieldAddr0 2 3 Try.underlying131 rfl Try.sizeOf3 rfl) ?_
        | refine GoL.yg rfl rfl rfl (Y.fieldAddr 2 3 Try.underlying131 rfl Try.sizeOf3 rfl) ?_
      first
        | refine GoL.yg rfl rfl rfl (Y.load Try.isAgg3 rfl (Cell.a (by rfl))) ?_
        | refine GoL.yg rfl rfl rfl (Y.load Try.isAgg3 rfl (Cell.rd0 Rd.s ‹_› (by rfl))) ?_
        | refine GoL.yg rfl rfl rfl (Y.load Try.isAgg3 rfl (Cell.rd Rd.s ‹_› (by rfl))) ?_
        | refine GoL.yg rfl rfl rfl (Y.load Try.isAgg3 rfl (Cell.ao (by rfl))) ?_
        | refine GoL.yg rfl rfl rfl (Y.load Try.isAgg3 rfl (Cell.az (by rfl))) ?_
        | refine GoL.yg rfl rfl rfl (Y.load Try.isAgg3 rfl (Cell.a ‹_›)) ?_
        | refine GoL.yg rfl rfl rfl (Y.load Try.isAgg3 rfl (Cell.rd0 ‹_› ‹_› (by rfl))) ?_
        | refine GoL.yg rfl rfl rfl (Y.load Try.isAgg3 rfl (Cell.rd ‹_› ‹_› (by rfl))) ?_
      refine GoL.yg rfl rfl rfl (Y.gtr rfl rfl) ?_
      refine GoL.y rfl (Y.pickF rfl rfl) ?_
      refine GoL.nil ?_
      refine GoE.seg (by repeat (first | exact Top.base | refine Top.cons rfl ?_)) rfl (by first | exact fun _ h => h | exact Ent.kept (by repeat (first | exact Ent.nil | (apply Ent.cons; · repeat (first | exact Take.here | apply Take.there)) | apply Ent.opt0 | apply Ent.opt1 | apply Ent.void | apply Ent.emp0 | apply Ent.two | (apply Ent.allV; · exact sl_void) | (apply Ent.allM; · exact fun _ => sl_void) | apply Ent.f1 rfl | apply Ent.f2 rfl | apply Ent.f3 rfl | apply Ent.f4 rfl | apply Ent.f10 rfl | apply Ent.grp | assumption | exact trivial | rfl | omega)))
    · intro h20
      refine GoL.skip rfl rfl rfl rfl ?_
      refine GoL.skip rfl rfl rfl rfl ?_
      refine GoL.skip rfl rfl rfl rfl ?_
      refine GoL.y rfl (Y.pickT rfl rfl) ?_
      refine GoL.nil ?_
      refine GoE.seg (by repeat (first | exact Top.base | refine Top.cons rfl ?_)) rfl (by first | exact fun _ h => h | exact Ent.kept (by repeat (first | exact Ent.nil | (apply Ent.cons; · repeat (first | exact Take.here | apply Take.there)) | apply Ent.opt0 | apply Ent.opt1 | apply Ent.void | apply Ent.emp0 | apply Ent.two | (apply Ent.allV; · exact sl_void) | (apply Ent.allM; · exact fun _ => sl_void) | apply Ent.f1 rfl | apply Ent.f2 rfl | apply Ent.f3 rfl | apply Ent.f4 rfl | apply Ent.f10 rfl | apply Ent.grp | assumption | exact trivial | rfl | omega)))
    refine GoL.nil ?_
    refine GoE.then_normal ?_
    refine GoC.cond rfl (fun h24 => ?_) (fun h24 => ?_)
    · simp only [Bool.and_eq_true, Bool.or_eq_true, Bool.and_eq_false_iff, Bool.or_eq_false_iff, decide_eq_true_eq, decide_eq_false_iff_not, Bool.not_eq_true', Bool.not_eq_false'] at h24
      refine GoC.region ?_
      refine GoL.y rfl (Y.move rfl) ?_
      first
        | refine GoL.y rfl (Y.lda Try.isAgg131 rfl Cells.a (by exact Try.sizeOf131)) ?_
        | refine GoL.y rfl (Y.lda Try.isAgg131 rfl (Cells.rd ‹_› ‹_›) (by exact Try.sizeOf131)) ?_
        | refine GoL.y rfl (Y.lda Try.isAgg131 rfl (Cells.rd Rd.s ‹_›) (by exact Try.sizeOf131)) ?_
        | refine GoL.y rfl (Y.lda Try.isAgg131 rfl (Cells.part0 Cells.a rfl) (by exact Try.sizeOf131)) ?_
      refine GoL.does rfl (Does.bsl 131 rfl rfl (by kernel_rfl)) ?_
      rintro _ _ ⟨b27, rfl, rfl⟩
      refine GoL.does rfl (Does.app1 (enc := evE) (k := 3) e rfl Try.underlying79 Try.underlying79 Try.typeInfo131 rfl rfl rfl (by decide) rfl rfl rfl (by repeat (first | exact At.here | refine At.there ?_)) rfl (by repeat (first | exact Take.here | apply Take.there)) (by first | omega | (dsimp only; omega)) rfl) ?_
      rintro _ _ ⟨v28, rfl, rfl⟩
      refine GoL.y rfl (Y.assign rfl) ?_
      refine GoL.nil ?_
      refine GoE.block_normal (GoE.then_normal ?_)
      refine GoC.region ?_
      first
        | refine GoL.y rfl (Y.inc rfl rfl (by omega)) ?_
        | refine GoL.y rfl (Y.add rfl rfl (by omega)) ?_
      refine GoL.y rfl (Y.move rfl) ?_
      refine GoL.nil ?_
      refine GoE.againK (k + 1, v28) (by repeat (first | exact Top.base | refine Top.cons rfl ?_)) rfl ?_ ?_ ?_ ?_
      · show xs.length - (k + 1) < xs.length - k; omega
      · show k + 1 ≤ _; omega
      · exact ⟨rfl, rfl, trivial⟩
      · show ∀ w, Sat _ w _ → Sat _ w (seps [sl evE 3 v28 (evKeep (xs.take (k + 1))), A, F])
        rw [keep_yes hx h24]
        exact fun w s => Ent.kept (by repeat (first | exact Ent.nil | (apply Ent.cons; · repeat (first | exact Take.here | apply Take.there)) | apply Ent.opt0 | apply Ent.opt1 | apply Ent.void | apply Ent.emp0 | apply Ent.two | (apply Ent.allV; · exact sl_void) | (apply Ent.allM; · exact fun _ => sl_void) | apply Ent.f1 rfl | apply Ent.f2 rfl | apply Ent.f3 rfl | apply Ent.f4 rfl | apply Ent.f10 rfl | apply Ent.grp | assumption | exact trivial | rfl | omega)) w s
    · simp only [Bool.and_eq_true, Bool.or_eq_true, Bool.and_eq_false_iff, Bool.or_eq_false_iff, decide_eq_true_eq, decide_eq_false_iff_not, Bool.not_eq_true', Bool.not_eq_false'] at h24
      refine GoC.skip ?_
      refine GoE.block_normal (GoE.then_normal ?_)
      refine GoC.region ?_
      first
        | refine GoL.y rfl (Y.inc rfl rfl (by omega)) ?_
        | refine GoL.y rfl (Y.add rfl rfl (by omega)) ?_
      refine GoL.y rfl (Y.move rfl) ?_
      refine GoL.nil ?_
      refine GoE.againK (k + 1, u) (by repeat (first | exact Top.base | refine Top.cons rfl ?_)) rfl ?_ ?_ ?_ ?_
      · show xs.length - (k + 1) < xs.length - k; omega
      · show k + 1 ≤ _; omega
      · exact ⟨rfl, rfl, trivial⟩
      · show ∀ w, Sat _ w _ → Sat _ w (seps [sl evE 3 u (evKeep (xs.take (k + 1))), A, F])
        rw [keep_no hx h24]
        exact fun w s => Ent.kept (by repeat (first | exact Ent.nil | (apply Ent.cons; · repeat (first | exact Take.here | apply Take.there)) | apply Ent.opt0 | apply Ent.opt1 | apply Ent.void | apply Ent.emp0 | apply Ent.two | (apply Ent.allV; · exact sl_void) | (apply Ent.allM; · exact fun _ => sl_void) | apply Ent.f1 rfl | apply Ent.f2 rfl | apply Ent.f3 rfl | apply Ent.f4 rfl | apply Ent.f10 rfl | apply Ent.grp | assumption | exact trivial | rfl | omega)) w s
  · refine GoC.exit ?_
    refine GoE.then_exit (GoE.then_exit (GoE.block_here (GoE.then_normal ?_)))
    refine GoC.seq ?_
    refine GoC.region ?_
    refine GoL.y rfl (Y.move rfl) ?_
    refine GoL.y rfl (Y.assign rfl) ?_
    refine GoL.nil ?_
    refine GoE.then_normal ?_
    refine GoC.ret ?_
    obtain rfl : k = xs.length := by omega
    rw [List.take_length]
    refine GoE.ret1 rfl rfl fun w s => ⟨_, ?_, trivial, finE (by repeat (first | exact Ent.nil | (apply Ent.cons; · repeat (first | exact Take.here | apply Take.there)) | apply Ent.opt0 | apply Ent.opt1 | apply Ent.void | apply Ent.emp0 | apply Ent.two | (apply Ent.allV; · exact sl_void) | (apply Ent.allM; · exact fun _ => sl_void) | apply Ent.f1 rfl | apply Ent.f2 rfl | apply Ent.f3 rfl | apply Ent.f4 rfl | apply Ent.f10 rfl | apply Ent.grp | assumption | exact trivial | rfl | omega)) s⟩
    rfl

set_option maxRecDepth 20000 in
theorem vessel_Strip {W : World} {A : HProp} {u : Value} {x : Vsl} (hr : Rd W [A] evE 3 u x.evs) (hl : x.evs.length ≤ 900000000) : Fn Try.prog W 75 [.agg (vslE (u, x)).toArray] [A] Value (fun u => u) (fun _ => True) (fun w => [sl evE 3 w x.strip, A]) := by
  refine Fn.intro (N := 31) Try.func75 rfl Try.ntmps75 rfl fun F => ?_
  haveI hRI : ∀ (H : List HProp) [HasH H A], ReadsC W H u evE 3 x.evs := fun H h => ⟨hr.at h.has⟩
  show GoC _ _ _ _ _ _ [A, F]
  refine GoC.know (fun w s => Rd.isSl (hr.at .here) w s) fun hu => ?_
  refine GoC.seq ?_
  refine GoC.region ?_
  refine GoL.does rfl (Does.box rfl rfl rfl) ?_
  rintro _ _ ⟨b1, rfl, rfl⟩
  refine GoL.y rfl (Y.assign rfl) ?_
  refine GoL.nil ?_
  refine GoE.then_normal ?_
  refine GoC.seq ?_
  refine GoC.region ?_
  first
    | refine GoL.y rfl (Y.lda Try.isAgg122 rfl Cells.a (by exact Try.sizeOf122)) ?_
    | refine GoL.y rfl (Y.lda Try.isAgg122 rfl (Cells.rd ‹_› ‹_›) (by exact Try.sizeOf122)) ?_
    | refine GoL.y rfl (Y.lda Try.isAgg122 rfl (Cells.rd Rd.s ‹_›) (by exact Try.sizeOf122)) ?_
    | refine GoL.y rfl (Y.lda Try.isAgg122 rfl (Cells.part0 Cells.a rfl) (by exact Try.sizeOf122)) ?_
  refine GoL.does rfl (Does.callE rfl Try.call61 rfl (vessel_Runs hu) (by repeat (first | exact Ent.nil | (apply Ent.cons; · repeat (first | exact Take.here | apply Take.there)) | apply Ent.opt0 | apply Ent.opt1 | apply Ent.void | apply Ent.emp0 | apply Ent.two | (apply Ent.allV; · exact sl_void) | (apply Ent.allM; · exact fun _ => sl_void) | apply Ent.f1 rfl | apply Ent.f2 rfl | apply Ent.f3 rfl | apply Ent.f4 rfl | apply Ent.f10 rfl | apply Ent.grp | assumption | exact trivial | rfl | omega))) ?_
  rintro _ _ ⟨⟨⟩, -, rfl, rfl⟩
  refine GoL.y rfl (Y.move rfl) ?_
  refine GoL.y rfl (Y.extract rfl rfl) ?_
  refine GoL.y rfl (Y.extract rfl rfl) ?_
  refine GoL.y rfl (Y.assign rfl) ?_
  refine GoL.y rfl (Y.assign rfl) ?_
  refine GoL.nil ?_
  refine GoE.then_normal ?_
  refine GoC.seq ?_
  refine GoC.seq ?_
  refine GoC.region ?_
  refine GoL.y rfl (Y.move rfl) ?_
  first
    | refine GoL.y rfl (Y.notD rfl) ?_
    | refine GoL.y rfl (Y.not rfl) ?_
  refine GoL.nil ?_
  refine GoE.then_normal ?_
  refine GoC.cond rfl (fun h12 => ?_) (fun h12 => ?_)
  · refine GoC.region ?_
    refine GoL.y rfl (Y.assign rfl) ?_
    refine GoL.nil ?_
    refine GoE.then_normal ?_
    refine GoC.seq ?_
    refine GoC.region ?_
    refine GoL.y rfl (Y.assign rfl) ?_
    refine GoL.nil ?_
    refine GoE.then_normal ?_
    refine GoC.seq ?_
    refine GoC.block ?_
    refine GoC.seq ?_
    refine GoC.region ?_
    first
      | refine GoL.y rfl (Y.lda Try.isAgg122 rfl Cells.a (by exact Try.sizeOf122)) ?_
      | refine GoL.y rfl (Y.lda Try.isAgg122 rfl (Cells.rd ‹_› ‹_›) (by exact Try.sizeOf122)) ?_
      | refine GoL.y rfl (Y.lda Try.isAgg122 rfl (Cells.rd Rd.s ‹_›) (by exact Try.sizeOf122)) ?_
      | refine GoL.y rfl (Y.lda Try.isAgg122 rfl (Cells.part0 Cells.a rfl) (by exact Try.sizeOf122)) ?_
    rw [Bool.not_eq_true'] at h12
    refine GoL.does rfl (Does.callE rfl Try.call88 rfl vessel_Holds (by repeat (first | exact Ent.nil | (apply Ent.cons; · repeat (first | exact Take.here | apply Take.there)) | apply Ent.opt0 | apply Ent.opt1 | apply Ent.void | apply Ent.emp0 | apply Ent.two | (apply Ent.allV; · exact sl_void) | (apply Ent.allM; · exact fun _ => sl_void) | apply Ent.f1 rfl | apply Ent.f2 rfl | apply Ent.f3 rfl | apply Ent.f4 rfl | apply Ent.f10 rfl | apply Ent.grp | assumption | exact trivial | rfl | omega))) ?_
    rintro _ _ ⟨⟨⟩, -, rfl, rfl⟩
    refine GoL.y rfl (Y.assign rfl) ?_
    refine GoL.nil ?_
    refine GoE.then_normal ?_
    refine GoC.cond rfl (fun h13 => ?_) (fun h13 => ?_)
    · refine GoC.region ?_
      refine GoL.y rfl (Y.move rfl) ?_
      refine GoL.y rfl (Y.fieldAddrZ 3 Try.underlying122 rfl Try.sizeOf3 rfl) ?_
      first
        | refine GoL.y rfl (Y.load Try.isAgg3 rfl (Cell.a (by rfl))) ?_
        | refine GoL.y rfl (Y.load Try.isAgg3 rfl (Cell.rd0 Rd.s ‹_› (by rfl))) ?_
        | refine GoL.y rfl (Y.load Try.isAgg3 rfl (Cell.rd Rd.s ‹_› (by rfl))) ?_
        | refine GoL.y rfl (Y.load Try.isAgg3 rfl (Cell.ao (by rfl))) ?_
        | refine GoL.y rfl (Y.load Try.isAgg3 rfl (Cell.az (by rfl))) ?_
        | refine GoL.y rfl (Y.load Try.isAgg3 rfl (Cell.a ‹_›)) ?_
        | refine GoL.y rfl (Y.load Try.isAgg3 rfl (Cell.rd0 ‹_› ‹_› (by rfl))) ?_
        | refine GoL.y rfl (Y.load Try.isAgg3 rfl (Cell.rd ‹_› ‹_› (by rfl))) ?_
      refine GoL.y rfl (Y.bld3 (fun v1 v2 v3 => [v1, v2, v3]) rfl rfl rfl (by kernel_rfl)) ?_
      refine GoL.does rfl (Does.bsl 131 rfl rfl (by kernel_rfl)) ?_
      rintro _ _ ⟨b20, rfl, rfl⟩
      refine GoL.y rfl (Y.assign rfl) ?_
      refine GoL.nil ?_
      refine GoE.block_normal (GoE.then_normal ?_)
      refine GoC.seq ?_
      refine GoC.region ?_
      refine GoL.y rfl (Y.move rfl) ?_
      first
        | refine GoL.y rfl (Y.fieldAddr0 2 79 Try.underlying122 rfl Try.sizeOf79 rfl) ?_
        | refine GoL.y rfl (Y.fieldAddr 2 79 Try.underlying122 rfl Try.sizeOf79 rfl) ?_
      first
        | refine GoL.y rfl (Y.load Try.isAgg79 rfl (Cell.a (by rfl))) ?_
        | refine GoL.y rfl (Y.load Try.isAgg79 rfl (Cell.rd0 Rd.s ‹_› (by rfl))) ?_
        | refine GoL.y rfl (Y.load Try.isAgg79 rfl (Cell.rd Rd.s ‹_› (by rfl))) ?_
        | refine GoL.y rfl (Y.load Try.isAgg79 rfl (Cell.ao (by rfl))) ?_
        | refine GoL.y rfl (Y.load Try.isAgg79 rfl (Cell.az (by rfl))) ?_
        | refine GoL.y rfl (Y.load Try.isAgg79 rfl (Cell.a ‹_›)) ?_
        | refine GoL.y rfl (Y.load Try.isAgg79 rfl (Cell.rd0 ‹_› ‹_› (by rfl))) ?_
        | refine GoL.y rfl (Y.load Try.isAgg79 rfl (Cell.rd ‹_› ‹_› (by rfl))) ?_
      refine GoL.does rfl (Does.callE rfl Try.call89 rfl (event_Keep hr (by omega)) (by repeat (first | exact Ent.nil | (apply Ent.cons; · repeat (first | exact Take.here | apply Take.there)) | apply Ent.opt0 | apply Ent.opt1 | apply Ent.void | apply Ent.emp0 | apply Ent.two | (apply Ent.allV; · exact sl_void) | (apply Ent.allM; · exact fun _ => sl_void) | apply Ent.f1 rfl | apply Ent.f2 rfl | apply Ent.f3 rfl | apply Ent.f4 rfl | apply Ent.f10 rfl | apply Ent.grp | assumption | exact trivial | rfl | omega))) ?_
      rintro _ _ ⟨k29, -, rfl, rfl⟩
      refine GoL.does rfl (Does.callE rfl Try.call78 rfl (JoinE (A := seps [arr b20 0 [.int .i64 4, .int .i64 (-1), .int .i64 x.mode], sl evE 3 k29 (evKeep x.evs), A]) (xs := [⟨4, -1, x.mode⟩]) (ys := evKeep x.evs) (Rd.grp (Rd.lit .here rfl (fun _ _ => rfl) rfl)) (Rd.grp (Rd.sl (by repeat (first | exact At.here | refine At.there ?_)))) (by have := keep_len x.evs; simp; omega)) (by repeat (first | exact Ent.nil | (apply Ent.cons; · repeat (first | exact Take.here | apply Take.there)) | apply Ent.opt0 | apply Ent.opt1 | apply Ent.void | apply Ent.emp0 | apply Ent.two | (apply Ent.allV; · exact sl_void) | (apply Ent.allM; · exact fun _ => sl_void) | apply Ent.f1 rfl | apply Ent.f2 rfl | apply Ent.f3 rfl | apply Ent.f4 rfl | apply Ent.f10 rfl | apply Ent.grp | assumption | exact trivial | rfl | omega))) ?_
      rintro _ _ ⟨u30, -, rfl, rfl⟩
      refine GoL.ungrp (by repeat (first | exact Take.here | apply Take.there)) ?_
      rw [show [⟨4, -1, x.mode⟩] ++ evKeep x.evs = x.strip from by unfold Vsl.strip; rw [if_pos h13, if_neg (by rw [h12]; simp)]]
      refine GoL.y rfl (Y.assign rfl) ?_
      refine GoL.nil ?_
      refine GoE.then_normal ?_
      refine GoC.ret ?_
      refine GoE.ret1 rfl rfl fun w s => ⟨_, ?_, trivial, finE (by repeat (first | exact Ent.nil | (apply Ent.cons; · repeat (first | exact Take.here | apply Take.there)) | apply Ent.opt0 | apply Ent.opt1 | apply Ent.void | apply Ent.emp0 | apply Ent.two | (apply Ent.allV; · exact sl_void) | (apply Ent.allM; · exact fun _ => sl_void) | apply Ent.f1 rfl | apply Ent.f2 rfl | apply Ent.f3 rfl | apply Ent.f4 rfl | apply Ent.f10 rfl | apply Ent.grp | assumption | exact trivial | rfl | omega)) s⟩
      rfl
    · refine GoC.seq ?_
      refine GoC.region ?_
      refine GoL.y rfl (Y.move rfl) ?_
      refine GoL.y rfl (Y.assign rfl) ?_
      refine GoL.nil ?_
      refine GoE.then_normal ?_
      refine GoC.cond rfl (fun h21 => ?_) (fun h21 => ?_)
      · rw [h12] at h21; cases h21
      · refine GoC.skip ?_
        refine GoE.block_normal (GoE.then_normal ?_)
        refine GoC.seq ?_
        refine GoC.region ?_
        refine GoL.y rfl (Y.move rfl) ?_
        first
          | refine GoL.y rfl (Y.fieldAddr0 2 79 Try.underlying122 rfl Try.sizeOf79 rfl) ?_
          | refine GoL.y rfl (Y.fieldAddr 2 79 Try.underlying122 rfl Try.sizeOf79 rfl) ?_
        first
          | refine GoL.y rfl (Y.load Try.isAgg79 rfl (Cell.a (by rfl))) ?_
          | refine GoL.y rfl (Y.load Try.isAgg79 rfl (Cell.rd0 Rd.s ‹_› (by rfl))) ?_
          | refine GoL.y rfl (Y.load Try.isAgg79 rfl (Cell.rd Rd.s ‹_› (by rfl))) ?_
          | refine GoL.y rfl (Y.load Try.isAgg79 rfl (Cell.ao (by rfl))) ?_
          | refine GoL.y rfl (Y.load Try.isAgg79 rfl (Cell.az (by rfl))) ?_
          | refine GoL.y rfl (Y.load Try.isAgg79 rfl (Cell.a ‹_›)) ?_
          | refine GoL.y rfl (Y.load Try.isAgg79 rfl (Cell.rd0 ‹_› ‹_› (by rfl))) ?_
          | refine GoL.y rfl (Y.load Try.isAgg79 rfl (Cell.rd ‹_› ‹_› (by rfl))) ?_
        refine GoL.does rfl (Does.callE rfl Try.call89 rfl (event_Keep hr (by omega)) (by repeat (first | exact Ent.nil | (apply Ent.cons; · repeat (first | exact Take.here | apply Take.there)) | apply Ent.opt0 | apply Ent.opt1 | apply Ent.void | apply Ent.emp0 | apply Ent.two | (apply Ent.allV; · exact sl_void) | (apply Ent.allM; · exact fun _ => sl_void) | apply Ent.f1 rfl | apply Ent.f2 rfl | apply Ent.f3 rfl | apply Ent.f4 rfl | apply Ent.f10 rfl | apply Ent.grp | assumption | exact trivial | rfl | omega))) ?_
        rintro _ _ ⟨k29, -, rfl, rfl⟩
        refine GoL.does rfl (Does.callE rfl Try.call78 rfl (JoinE (A := seps [sl evE 3 k29 (evKeep x.evs), A]) (xs := ([] : List Ev)) (ys := evKeep x.evs) (Rd.grp Rd.nil) (Rd.grp (Rd.sl (by repeat (first | exact At.here | refine At.there ?_)))) (by have := keep_len x.evs; simp; omega)) (by repeat (first | exact Ent.nil | (apply Ent.cons; · repeat (first | exact Take.here | apply Take.there)) | apply Ent.opt0 | apply Ent.opt1 | apply Ent.void | apply Ent.emp0 | apply Ent.two | (apply Ent.allV; · exact sl_void) | (apply Ent.allM; · exact fun _ => sl_void) | apply Ent.f1 rfl | apply Ent.f2 rfl | apply Ent.f3 rfl | apply Ent.f4 rfl | apply Ent.f10 rfl | apply Ent.grp | assumption | exact trivial | rfl | omega))) ?_
        rintro _ _ ⟨u30, -, rfl, rfl⟩
        refine GoL.ungrp (by repeat (first | exact Take.here | apply Take.there)) ?_
        rw [show ([] : List Ev) ++ evKeep x.evs = x.strip from by unfold Vsl.strip; rw [if_neg (by rw [h13]; simp), if_neg (by rw [h12]; simp)]]
        refine GoL.y rfl (Y.assign rfl) ?_
        refine GoL.nil ?_
        refine GoE.then_normal ?_
        refine GoC.ret ?_
        refine GoE.ret1 rfl rfl fun w s => ⟨_, ?_, trivial, finE (by repeat (first | exact Ent.nil | (apply Ent.cons; · repeat (first | exact Take.here | apply Take.there)) | apply Ent.opt0 | apply Ent.opt1 | apply Ent.void | apply Ent.emp0 | apply Ent.two | (apply Ent.allV; · exact sl_void) | (apply Ent.allM; · exact fun _ => sl_void) | apply Ent.f1 rfl | apply Ent.f2 rfl | apply Ent.f3 rfl | apply Ent.f4 rfl | apply Ent.f10 rfl | apply Ent.grp | assumption | exact trivial | rfl | omega)) s⟩
        rfl
  · refine GoC.skip ?_
    refine GoE.then_normal ?_
    refine GoC.seq ?_
    refine GoC.region ?_
    refine GoL.y rfl (Y.assign rfl) ?_
    refine GoL.nil ?_
    refine GoE.then_normal ?_
    refine GoC.seq ?_
    refine GoC.block ?_
    refine GoC.seq ?_
    refine GoC.region ?_
    first
      | refine GoL.y rfl (Y.lda Try.isAgg122 rfl Cells.a (by exact Try.sizeOf122)) ?_
      | refine GoL.y rfl (Y.lda Try.isAgg122 rfl (Cells.rd ‹_› ‹_›) (by exact Try.sizeOf122)) ?_
      | refine GoL.y rfl (Y.lda Try.isAgg122 rfl (Cells.rd Rd.s ‹_›) (by exact Try.sizeOf122)) ?_
      | refine GoL.y rfl (Y.lda Try.isAgg122 rfl (Cells.part0 Cells.a rfl) (by exact Try.sizeOf122)) ?_
    rw [Bool.not_eq_false'] at h12
    refine GoL.does rfl (Does.callE rfl Try.call88 rfl vessel_Holds (by repeat (first | exact Ent.nil | (apply Ent.cons; · repeat (first | exact Take.here | apply Take.there)) | apply Ent.opt0 | apply Ent.opt1 | apply Ent.void | apply Ent.emp0 | apply Ent.two | (apply Ent.allV; · exact sl_void) | (apply Ent.allM; · exact fun _ => sl_void) | apply Ent.f1 rfl | apply Ent.f2 rfl | apply Ent.f3 rfl | apply Ent.f4 rfl | apply Ent.f10 rfl | apply Ent.grp | assumption | exact trivial | rfl | omega))) ?_
    rintro _ _ ⟨⟨⟩, -, rfl, rfl⟩
    refine GoL.y rfl (Y.assign rfl) ?_
    refine GoL.nil ?_
    refine GoE.then_normal ?_
    refine GoC.cond rfl (fun h13 => ?_) (fun h13 => ?_)
    · refine GoC.region ?_
      refine GoL.y rfl (Y.move rfl) ?_
      refine GoL.y rfl (Y.fieldAddrZ 3 Try.underlying122 rfl Try.sizeOf3 rfl) ?_
      first
        | refine GoL.y rfl (Y.load Try.isAgg3 rfl (Cell.a (by rfl))) ?_
        | refine GoL.y rfl (Y.load Try.isAgg3 rfl (Cell.rd0 Rd.s ‹_› (by rfl))) ?_
        | refine GoL.y rfl (Y.load Try.isAgg3 rfl (Cell.rd Rd.s ‹_› (by rfl))) ?_
        | refine GoL.y rfl (Y.load Try.isAgg3 rfl (Cell.ao (by rfl))) ?_
        | refine GoL.y rfl (Y.load Try.isAgg3 rfl (Cell.az (by rfl))) ?_
        | refine GoL.y rfl (Y.load Try.isAgg3 rfl (Cell.a ‹_›)) ?_
        | refine GoL.y rfl (Y.load Try.isAgg3 rfl (Cell.rd0 ‹_› ‹_› (by rfl))) ?_
        | refine GoL.y rfl (Y.load Try.isAgg3 rfl (Cell.rd ‹_› ‹_› (by rfl))) ?_
      refine GoL.y rfl (Y.bld3 (fun v1 v2 v3 => [v1, v2, v3]) rfl rfl rfl (by kernel_rfl)) ?_
      refine GoL.does rfl (Does.bsl 131 rfl rfl (by kernel_rfl)) ?_
      rintro _ _ ⟨b20, rfl, rfl⟩
      refine GoL.y rfl (Y.assign rfl) ?_
      refine GoL.nil ?_
      refine GoE.block_normal (GoE.then_normal ?_)
      refine GoC.seq ?_
      refine GoC.region ?_
      refine GoL.y rfl (Y.move rfl) ?_
      first
        | refine GoL.y rfl (Y.fieldAddr0 2 79 Try.underlying122 rfl Try.sizeOf79 rfl) ?_
        | refine GoL.y rfl (Y.fieldAddr 2 79 Try.underlying122 rfl Try.sizeOf79 rfl) ?_
      first
        | refine GoL.y rfl (Y.load Try.isAgg79 rfl (Cell.a (by rfl))) ?_
        | refine GoL.y rfl (Y.load Try.isAgg79 rfl (Cell.rd0 Rd.s ‹_› (by rfl))) ?_
        | refine GoL.y rfl (Y.load Try.isAgg79 rfl (Cell.rd Rd.s ‹_› (by rfl))) ?_
        | refine GoL.y rfl (Y.load Try.isAgg79 rfl (Cell.ao (by rfl))) ?_
        | refine GoL.y rfl (Y.load Try.isAgg79 rfl (Cell.az (by rfl))) ?_
        | refine GoL.y rfl (Y.load Try.isAgg79 rfl (Cell.a ‹_›)) ?_
        | refine GoL.y rfl (Y.load Try.isAgg79 rfl (Cell.rd0 ‹_› ‹_› (by rfl))) ?_
        | refine GoL.y rfl (Y.load Try.isAgg79 rfl (Cell.rd ‹_› ‹_› (by rfl))) ?_
      rw [show runsT x = x.thread from by unfold runsT; rw [if_pos h12]]
      refine GoL.does rfl (Does.callE rfl Try.call89 rfl (event_Keep hr (by omega)) (by repeat (first | exact Ent.nil | (apply Ent.cons; · repeat (first | exact Take.here | apply Take.there)) | apply Ent.opt0 | apply Ent.opt1 | apply Ent.void | apply Ent.emp0 | apply Ent.two | (apply Ent.allV; · exact sl_void) | (apply Ent.allM; · exact fun _ => sl_void) | apply Ent.f1 rfl | apply Ent.f2 rfl | apply Ent.f3 rfl | apply Ent.f4 rfl | apply Ent.f10 rfl | apply Ent.grp | assumption | exact trivial | rfl | omega))) ?_
      rintro _ _ ⟨k29, -, rfl, rfl⟩
      refine GoL.does rfl (Does.callE rfl Try.call78 rfl (JoinE (A := seps [arr b20 0 [.int .i64 4, .int .i64 x.thread, .int .i64 x.mode], sl evE 3 k29 (evKeep x.evs), A]) (xs := [⟨4, x.thread, x.mode⟩]) (ys := evKeep x.evs) (Rd.grp (Rd.lit .here rfl (fun _ _ => rfl) rfl)) (Rd.grp (Rd.sl (by repeat (first | exact At.here | refine At.there ?_)))) (by have := keep_len x.evs; simp; omega)) (by repeat (first | exact Ent.nil | (apply Ent.cons; · repeat (first | exact Take.here | apply Take.there)) | apply Ent.opt0 | apply Ent.opt1 | apply Ent.void | apply Ent.emp0 | apply Ent.two | (apply Ent.allV; · exact sl_void) | (apply Ent.allM; · exact fun _ => sl_void) | apply Ent.f1 rfl | apply Ent.f2 rfl | apply Ent.f3 rfl | apply Ent.f4 rfl | apply Ent.f10 rfl | apply Ent.grp | assumption | exact trivial | rfl | omega))) ?_
      rintro _ _ ⟨u30, -, rfl, rfl⟩
      refine GoL.ungrp (by repeat (first | exact Take.here | apply Take.there)) ?_
      rw [show [⟨4, x.thread, x.mode⟩] ++ evKeep x.evs = x.strip from by unfold Vsl.strip; rw [if_pos h13, if_pos h12]]
      refine GoL.y rfl (Y.assign rfl) ?_
      refine GoL.nil ?_
      refine GoE.then_normal ?_
      refine GoC.ret ?_
      refine GoE.ret1 rfl rfl fun w s => ⟨_, ?_, trivial, finE (by repeat (first | exact Ent.nil | (apply Ent.cons; · repeat (first | exact Take.here | apply Take.there)) | apply Ent.opt0 | apply Ent.opt1 | apply Ent.void | apply Ent.emp0 | apply Ent.two | (apply Ent.allV; · exact sl_void) | (apply Ent.allM; · exact fun _ => sl_void) | apply Ent.f1 rfl | apply Ent.f2 rfl | apply Ent.f3 rfl | apply Ent.f4 rfl | apply Ent.f10 rfl | apply Ent.grp | assumption | exact trivial | rfl | omega)) s⟩
      rfl
    · refine GoC.seq ?_
      refine GoC.region ?_
      refine GoL.y rfl (Y.move rfl) ?_
      refine GoL.y rfl (Y.assign rfl) ?_
      refine GoL.nil ?_
      refine GoE.then_normal ?_
      refine GoC.cond rfl (fun h21 => ?_) (fun h21 => ?_)
      · refine GoC.region ?_
        refine GoL.y rfl (Y.move rfl) ?_
        refine GoL.y rfl (Y.bld2 (fun v1 v2 => [v1, v2, (.int .i64 0)]) rfl rfl (by kernel_rfl)) ?_
        refine GoL.does rfl (Does.bsl 131 rfl rfl (by kernel_rfl)) ?_
        rintro _ _ ⟨b25, rfl, rfl⟩
        refine GoL.y rfl (Y.assign rfl) ?_
        refine GoL.nil ?_
        refine GoE.block_normal (GoE.then_normal ?_)
        refine GoC.seq ?_
        refine GoC.region ?_
        refine GoL.y rfl (Y.move rfl) ?_
        first
          | refine GoL.y rfl (Y.fieldAddr0 2 79 Try.underlying122 rfl Try.sizeOf79 rfl) ?_
          | refine GoL.y rfl (Y.fieldAddr 2 79 Try.underlying122 rfl Try.sizeOf79 rfl) ?_
        first
          | refine GoL.y rfl (Y.load Try.isAgg79 rfl (Cell.a (by rfl))) ?_
          | refine GoL.y rfl (Y.load Try.isAgg79 rfl (Cell.rd0 Rd.s ‹_› (by rfl))) ?_
          | refine GoL.y rfl (Y.load Try.isAgg79 rfl (Cell.rd Rd.s ‹_› (by rfl))) ?_
          | refine GoL.y rfl (Y.load Try.isAgg79 rfl (Cell.ao (by rfl))) ?_
          | refine GoL.y rfl (Y.load Try.isAgg79 rfl (Cell.az (by rfl))) ?_
          | refine GoL.y rfl (Y.load Try.isAgg79 rfl (Cell.a ‹_›)) ?_
          | refine GoL.y rfl (Y.load Try.isAgg79 rfl (Cell.rd0 ‹_› ‹_› (by rfl))) ?_
          | refine GoL.y rfl (Y.load Try.isAgg79 rfl (Cell.rd ‹_› ‹_› (by rfl))) ?_
        rw [show runsT x = x.thread from by unfold runsT; rw [if_pos h12]]
        refine GoL.does rfl (Does.callE rfl Try.call89 rfl (event_Keep hr (by omega)) (by repeat (first | exact Ent.nil | (apply Ent.cons; · repeat (first | exact Take.here | apply Take.there)) | apply Ent.opt0 | apply Ent.opt1 | apply Ent.void | apply Ent.emp0 | apply Ent.two | (apply Ent.allV; · exact sl_void) | (apply Ent.allM; · exact fun _ => sl_void) | apply Ent.f1 rfl | apply Ent.f2 rfl | apply Ent.f3 rfl | apply Ent.f4 rfl | apply Ent.f10 rfl | apply Ent.grp | assumption | exact trivial | rfl | omega))) ?_
        rintro _ _ ⟨k29, -, rfl, rfl⟩
        refine GoL.does rfl (Does.callE rfl Try.call78 rfl (JoinE (A := seps [arr b25 0 [.int .i64 4, .int .i64 x.thread, .int .i64 0], sl evE 3 k29 (evKeep x.evs), A]) (xs := [⟨4, x.thread, 0⟩]) (ys := evKeep x.evs) (Rd.grp (Rd.lit .here rfl (fun _ _ => rfl) rfl)) (Rd.grp (Rd.sl (by repeat (first | exact At.here | refine At.there ?_)))) (by have := keep_len x.evs; simp; omega)) (by repeat (first | exact Ent.nil | (apply Ent.cons; · repeat (first | exact Take.here | apply Take.there)) | apply Ent.opt0 | apply Ent.opt1 | apply Ent.void | apply Ent.emp0 | apply Ent.two | (apply Ent.allV; · exact sl_void) | (apply Ent.allM; · exact fun _ => sl_void) | apply Ent.f1 rfl | apply Ent.f2 rfl | apply Ent.f3 rfl | apply Ent.f4 rfl | apply Ent.f10 rfl | apply Ent.grp | assumption | exact trivial | rfl | omega))) ?_
        rintro _ _ ⟨u30, -, rfl, rfl⟩
        refine GoL.ungrp (by repeat (first | exact Take.here | apply Take.there)) ?_
        rw [show [⟨4, x.thread, 0⟩] ++ evKeep x.evs = x.strip from by unfold Vsl.strip; rw [if_neg (by rw [h13]; simp), if_pos h12]]
        refine GoL.y rfl (Y.assign rfl) ?_
        refine GoL.nil ?_
        refine GoE.then_normal ?_
        refine GoC.ret ?_
        refine GoE.ret1 rfl rfl fun w s => ⟨_, ?_, trivial, finE (by repeat (first | exact Ent.nil | (apply Ent.cons; · repeat (first | exact Take.here | apply Take.there)) | apply Ent.opt0 | apply Ent.opt1 | apply Ent.void | apply Ent.emp0 | apply Ent.two | (apply Ent.allV; · exact sl_void) | (apply Ent.allM; · exact fun _ => sl_void) | apply Ent.f1 rfl | apply Ent.f2 rfl | apply Ent.f3 rfl | apply Ent.f4 rfl | apply Ent.f10 rfl | apply Ent.grp | assumption | exact trivial | rfl | omega)) s⟩
        rfl
      · rw [h12] at h21; cases h21

set_option maxRecDepth 20000 in
theorem vessel_New {W : World} {A : HProp} {v : Value} {xs : List Ev} (hr : Rd W [A] evE 3 v xs) (hl : xs.length ≤ 1000000000) : Fn Try.prog W 77 [v] [A] Value (fun u => .agg (vslE (u, Vsl.new xs)).toArray) (fun _ => True) (fun u => [sl evE 3 u xs, A]) := by
  refine Fn.intro (N := 6) Try.func77 rfl Try.ntmps77 rfl fun F => ?_
  show GoC _ _ _ _ _ _ [A, F]
  refine GoC.seq ?_
  refine GoC.region ?_
  refine GoL.does rfl (Does.alloc rfl Try.zeroValue122 rfl) ?_
  rintro _ _ ⟨b2, rfl, rfl⟩
  refine GoL.nil ?_
  refine GoE.then_normal ?_
  refine GoC.seq ?_
  refine GoC.region ?_
  refine GoL.y rfl (Y.move rfl) ?_
  refine GoL.does rfl (Does.callE rfl Try.call65 rfl (CloneE hr hl) (by repeat (first | exact Ent.nil | (apply Ent.cons; · repeat (first | exact Take.here | apply Take.there)) | apply Ent.opt0 | apply Ent.opt1 | apply Ent.void | apply Ent.emp0 | apply Ent.two | (apply Ent.allV; · exact sl_void) | (apply Ent.allM; · exact fun _ => sl_void) | apply Ent.f1 rfl | apply Ent.f2 rfl | apply Ent.f3 rfl | apply Ent.f4 rfl | apply Ent.f10 rfl | apply Ent.grp | assumption | exact trivial | rfl | omega))) ?_
  rintro _ _ ⟨u4, -, rfl, rfl⟩
  refine GoL.know (fun w s => Rd.shape (Rd.sl (by repeat (first | exact At.here | refine At.there ?_))) w s) fun e => ?_
  obtain ⟨a4, c4, rfl⟩ := e
  refine GoL.y rfl (Y.bld3 (fun v1 v2 v3 => [v1, v2, v3]) rfl rfl rfl (by kernel_rfl)) ?_
  first
    | refine GoL.does rfl (Does.sta (by exact Try.sizeOf122) rfl rfl rfl (by rfl)) ?_
    | refine GoL.does rfl (Does.stp (by exact Try.sizeOf122) rfl rfl rfl rfl) ?_
  rintro _ _ ⟨rfl, rfl⟩
  refine GoL.nil ?_
  refine GoE.then_normal ?_
  refine GoC.ret ?_
  refine GoE.retC rfl rfl Try.isAgg122 (by exact Try.sizeOf122) Cells.a fun w s => ⟨_, ?_, trivial, finE (by repeat (first | exact Ent.nil | (apply Ent.cons; · repeat (first | exact Take.here | apply Take.there)) | apply Ent.opt0 | apply Ent.opt1 | apply Ent.void | apply Ent.emp0 | apply Ent.two | (apply Ent.allV; · exact sl_void) | (apply Ent.allM; · exact fun _ => sl_void) | apply Ent.f1 rfl | apply Ent.f2 rfl | apply Ent.f3 rfl | apply Ent.f4 rfl | apply Ent.f10 rfl | apply Ent.grp | assumption | exact trivial | rfl | omega)) s⟩
  rfl

set_option maxRecDepth 20000 in
theorem vessel_Told {W : World} {A : HProp} {u : Value} {x : Vsl} {m : Value} {ys : List Ev} (hr : Rd W [A] evE 3 u x.evs) (hm : Rd W [A] evE 3 m ys) (hl : x.evs.length ≤ 400000000 ∧ ys.length ≤ 400000000) : Fn Try.prog W 90 [.agg (vslE (u, x)).toArray, m] [A] Value (fun w => .agg (vslE (w, x.told ys)).toArray) (fun _ => True) (fun w => [sl evE 3 w (x.strip ++ ys), A]) := by
  refine Fn.intro (N := 10) Try.func90 rfl Try.ntmps90 rfl fun F => ?_
  show GoC _ _ _ _ _ _ [A, F]
  have hsl := strip_len x
  refine GoC.know (fun w s => Rd.isSl (hr.at .here) w s) fun hu => ?_
  refine GoC.seq ?_
  refine GoC.region ?_
  refine GoL.does rfl (Does.box rfl rfl rfl) ?_
  rintro _ _ ⟨b2, rfl, rfl⟩
  refine GoL.does rfl (Does.alloc rfl Try.zeroValue122 rfl) ?_
  rintro _ _ ⟨b4, rfl, rfl⟩
  refine GoL.nil ?_
  refine GoE.then_normal ?_
  refine GoC.seq ?_
  refine GoC.region ?_
  first
    | refine GoL.y rfl (Y.lda Try.isAgg122 rfl Cells.a (by exact Try.sizeOf122)) ?_
    | refine GoL.y rfl (Y.lda Try.isAgg122 rfl (Cells.rd ‹_› ‹_›) (by exact Try.sizeOf122)) ?_
    | refine GoL.y rfl (Y.lda Try.isAgg122 rfl (Cells.rd Rd.s ‹_›) (by exact Try.sizeOf122)) ?_
    | refine GoL.y rfl (Y.lda Try.isAgg122 rfl (Cells.part0 Cells.a rfl) (by exact Try.sizeOf122)) ?_
  refine GoL.does rfl (Does.callE rfl Try.call75 rfl (vessel_Strip hr (by omega)) (by repeat (first | exact Ent.nil | (apply Ent.cons; · repeat (first | exact Take.here | apply Take.there)) | apply Ent.opt0 | apply Ent.opt1 | apply Ent.void | apply Ent.emp0 | apply Ent.two | (apply Ent.allV; · exact sl_void) | (apply Ent.allM; · exact fun _ => sl_void) | apply Ent.f1 rfl | apply Ent.f2 rfl | apply Ent.f3 rfl | apply Ent.f4 rfl | apply Ent.f10 rfl | apply Ent.grp | assumption | exact trivial | rfl | omega))) ?_
  rintro _ _ ⟨u6, -, rfl, rfl⟩
  refine GoL.y rfl (Y.move rfl) ?_
  refine GoL.does rfl (Does.callE rfl Try.call78 rfl (JoinE (A := seps [sl evE 3 u6 x.strip, A]) (xs := x.strip) (ys := ys) (Rd.grp (Rd.sl .here)) (Rd.grp (hm.at (.there .here))) (by omega)) (by repeat (first | exact Ent.nil | (apply Ent.cons; · repeat (first | exact Take.here | apply Take.there)) | apply Ent.opt0 | apply Ent.opt1 | apply Ent.void | apply Ent.emp0 | apply Ent.two | (apply Ent.allV; · exact sl_void) | (apply Ent.allM; · exact fun _ => sl_void) | apply Ent.f1 rfl | apply Ent.f2 rfl | apply Ent.f3 rfl | apply Ent.f4 rfl | apply Ent.f10 rfl | apply Ent.grp | assumption | exact trivial | rfl | omega))) ?_
  rintro _ _ ⟨u8, -, rfl, rfl⟩
  refine GoL.ungrp (by repeat (first | exact Take.here | apply Take.there)) ?_
  refine GoL.does rfl (Does.callE rfl Try.call77 rfl (vessel_New (A := sl evE 3 u8 (x.strip ++ ys)) (xs := x.strip ++ ys) (Rd.sl .here) (by simp; omega)) (by repeat (first | exact Ent.nil | (apply Ent.cons; · repeat (first | exact Take.here | apply Take.there)) | apply Ent.opt0 | apply Ent.opt1 | apply Ent.void | apply Ent.emp0 | apply Ent.two | (apply Ent.allV; · exact sl_void) | (apply Ent.allM; · exact fun _ => sl_void) | apply Ent.f1 rfl | apply Ent.f2 rfl | apply Ent.f3 rfl | apply Ent.f4 rfl | apply Ent.f10 rfl | apply Ent.grp | assumption | exact trivial | rfl | omega))) ?_
  rintro _ _ ⟨u9, -, rfl, rfl⟩
  refine GoL.know (fun w s => Rd.shape (Rd.sl (by repeat (first | exact At.here | refine At.there ?_))) w s) fun e => ?_
  obtain ⟨a9, c9, rfl⟩ := e
  first
    | refine GoL.does rfl (Does.sta (by exact Try.sizeOf122) rfl rfl rfl (by rfl)) ?_
    | refine GoL.does rfl (Does.stp (by exact Try.sizeOf122) rfl rfl rfl rfl) ?_
  rintro _ _ ⟨rfl, rfl⟩
  refine GoL.nil ?_
  refine GoE.then_normal ?_
  refine GoC.ret ?_
  refine GoE.retC rfl rfl Try.isAgg122 (by exact Try.sizeOf122) Cells.a fun w s => ⟨_, ?_, trivial, finE (by repeat (first | exact Ent.nil | (apply Ent.cons; · repeat (first | exact Take.here | apply Take.there)) | apply Ent.opt0 | apply Ent.opt1 | apply Ent.void | apply Ent.emp0 | apply Ent.two | (apply Ent.allV; · exact sl_void) | (apply Ent.allM; · exact fun _ => sl_void) | apply Ent.f1 rfl | apply Ent.f2 rfl | apply Ent.f3 rfl | apply Ent.f4 rfl | apply Ent.f10 rfl | apply Ent.grp | assumption | exact trivial | rfl | omega)) s⟩
  rfl

set_option maxRecDepth 20000 in
theorem lib_in {W : World} {b bs br : Nat} {l : Lib} {p : Int} : Fn Try.prog W 74 [ptr b, .int .i64 p] [libX b bs br l] Unit (fun _ => .bool (libIn l p)) (fun _ => True) (fun _ => [libX b bs br l]) := by
  refine Fn.intro (N := 20) Try.func74 rfl Try.ntmps74 rfl fun F => ?_
  show GoC _ _ _ _ _ _ [libX b bs br l, F]
  refine GoC.o2 (C := libX b bs br l) (by repeat (first | exact Take.here | apply Take.there)) rfl ?_
  rintro vv vw -
  refine GoC.o1 (C := vslsH vv l.vs) (by repeat (first | exact Take.here | apply Take.there)) rfl ?_
  rintro xs hxs
  have hxl := map_len hxs
  refine GoC.seq ?_
  refine GoC.region ?_
  refine GoL.y rfl (Y.assign rfl) ?_
  refine GoL.nil ?_
  refine GoE.then_normal ?_
  refine GoC.seq ?_
  refine GoC.region ?_
  refine GoL.y rfl (Y.move rfl) ?_
  refine GoL.y rfl (Y.neqPtrNil Try.underlying51 rfl rfl) ?_
  refine GoL.y rfl (Y.move rfl) ?_
  first
    | apply GoL.segAD 3 10 7 [7, 8, 9, 10] rfl
    | apply GoL.segA 3 10 7 [7, 8, 9, 10] rfl
  · intro h7
    refine GoL.yg rfl rfl rfl (Y.move rfl) ?_
    refine GoL.yg rfl rfl rfl (Y.geq rfl rfl) ?_
    refine GoL.y rfl (Y.pickT rfl rfl) ?_
    refine GoL.nil ?_
    refine GoE.seg (by repeat (first | exact Top.base | refine Top.cons rfl ?_)) rfl (by first | exact fun _ h => h | exact Ent.kept (by repeat (first | exact Ent.nil | (apply Ent.cons; · repeat (first | exact Take.here | apply Take.there)) | apply Ent.opt0 | apply Ent.opt1 | apply Ent.void | apply Ent.emp0 | apply Ent.two | (apply Ent.allV; · exact sl_void) | (apply Ent.allM; · exact fun _ => sl_void) | apply Ent.f1 rfl | apply Ent.f2 rfl | apply Ent.f3 rfl | apply Ent.f4 rfl | apply Ent.f10 rfl | apply Ent.grp | assumption | exact trivial | rfl | omega)))
  · intro h7
    refine GoL.skip rfl rfl rfl rfl ?_
    refine GoL.skip rfl rfl rfl rfl ?_
    refine GoL.y rfl (Y.pickF rfl rfl) ?_
    refine GoL.nil ?_
    refine GoE.seg (by repeat (first | exact Top.base | refine Top.cons rfl ?_)) rfl (by first | exact fun _ h => h | exact Ent.kept (by repeat (first | exact Ent.nil | (apply Ent.cons; · repeat (first | exact Take.here | apply Take.there)) | apply Ent.opt0 | apply Ent.opt1 | apply Ent.void | apply Ent.emp0 | apply Ent.two | (apply Ent.allV; · exact sl_void) | (apply Ent.allM; · exact fun _ => sl_void) | apply Ent.f1 rfl | apply Ent.f2 rfl | apply Ent.f3 rfl | apply Ent.f4 rfl | apply Ent.f10 rfl | apply Ent.grp | assumption | exact trivial | rfl | omega)))
  refine GoL.y rfl (Y.move rfl) ?_
  first
    | apply GoL.segAD 8 19 11 [11, 12, 13, 14, 15, 16, 17, 18, 19] rfl
    | apply GoL.segA 8 19 11 [11, 12, 13, 14, 15, 16, 17, 18, 19] rfl
  · intro h11
    refine GoL.yg rfl rfl rfl (Y.move rfl) ?_
    refine GoL.yg rfl rfl rfl (Y.move rfl) ?_
    refine GoL.yg rfl rfl rfl (Y.nilCheck rfl) ?_
    first
      | refine GoL.yg rfl rfl rfl (Y.fieldAddr0 2 109 Try.underlying111 rfl Try.sizeOf109 rfl) ?_
      | refine GoL.yg rfl rfl rfl (Y.fieldAddr 2 109 Try.underlying111 rfl Try.sizeOf109 rfl) ?_
    first
      | refine GoL.yg rfl rfl rfl (Y.load Try.isAgg109 rfl (Cell.a (by rfl))) ?_
      | refine GoL.yg rfl rfl rfl (Y.load Try.isAgg109 rfl (Cell.rd0 Rd.s ‹_› (by rfl))) ?_
      | refine GoL.yg rfl rfl rfl (Y.load Try.isAgg109 rfl (Cell.rd Rd.s ‹_› (by rfl))) ?_
      | refine GoL.yg rfl rfl rfl (Y.load Try.isAgg109 rfl (Cell.ao (by rfl))) ?_
      | refine GoL.yg rfl rfl rfl (Y.load Try.isAgg109 rfl (Cell.az (by rfl))) ?_
      | refine GoL.yg rfl rfl rfl (Y.load Try.isAgg109 rfl (Cell.a ‹_›)) ?_
      | refine GoL.yg rfl rfl rfl (Y.load Try.isAgg109 rfl (Cell.rd0 ‹_› ‹_› (by rfl))) ?_
      | refine GoL.yg rfl rfl rfl (Y.load Try.isAgg109 rfl (Cell.rd ‹_› ‹_› (by rfl))) ?_
    first
      | refine GoL.yg rfl rfl rfl (Y.lenRd Try.underlying109 rfl Rd.s) ?_
      | refine GoL.yg rfl rfl rfl (Y.lenRd Try.underlying109 rfl ‹_›) ?_
      | refine GoL.yg rfl rfl rfl (Y.lenSlice Try.underlying109 rfl) ?_
    refine GoL.yg rfl rfl rfl (Y.lss rfl rfl) ?_
    refine GoL.y rfl (Y.pickT rfl rfl) ?_
    refine GoL.nil ?_
    refine GoE.seg (by repeat (first | exact Top.base | refine Top.cons rfl ?_)) rfl (by first | exact fun _ h => h | exact Ent.kept (by repeat (first | exact Ent.nil | (apply Ent.cons; · repeat (first | exact Take.here | apply Take.there)) | apply Ent.opt0 | apply Ent.opt1 | apply Ent.void | apply Ent.emp0 | apply Ent.two | (apply Ent.allV; · exact sl_void) | (apply Ent.allM; · exact fun _ => sl_void) | apply Ent.f1 rfl | apply Ent.f2 rfl | apply Ent.f3 rfl | apply Ent.f4 rfl | apply Ent.f10 rfl | apply Ent.grp | assumption | exact trivial | rfl | omega)))
  · intro h11
    refine GoL.skip rfl rfl rfl rfl ?_
    refine GoL.skip rfl rfl rfl rfl ?_
    refine GoL.skip rfl rfl rfl rfl ?_
    refine GoL.skip rfl rfl rfl rfl ?_
    refine GoL.skip rfl rfl rfl rfl ?_
    refine GoL.skip rfl rfl rfl rfl ?_
    refine GoL.skip rfl rfl rfl rfl ?_
    refine GoL.y rfl (Y.pickF rfl rfl) ?_
    refine GoL.nil ?_
    refine GoE.seg (by repeat (first | exact Top.base | refine Top.cons rfl ?_)) rfl (by first | exact fun _ h => h | exact Ent.kept (by repeat (first | exact Ent.nil | (apply Ent.cons; · repeat (first | exact Take.here | apply Take.there)) | apply Ent.opt0 | apply Ent.opt1 | apply Ent.void | apply Ent.emp0 | apply Ent.two | (apply Ent.allV; · exact sl_void) | (apply Ent.allM; · exact fun _ => sl_void) | apply Ent.f1 rfl | apply Ent.f2 rfl | apply Ent.f3 rfl | apply Ent.f4 rfl | apply Ent.f10 rfl | apply Ent.grp | assumption | exact trivial | rfl | omega)))
  refine GoL.y rfl (Y.assign rfl) ?_
  refine GoL.nil ?_
  refine GoE.then_normal ?_
  refine GoC.ret ?_
  refine GoE.ret1 rfl rfl fun w s => ⟨(), ?_, trivial, finE (by repeat (first | exact Ent.nil | (apply Ent.cons; · repeat (first | exact Take.here | apply Take.there)) | apply Ent.opt0 | apply Ent.opt1 | apply Ent.void | apply Ent.emp0 | apply Ent.two | (apply Ent.allV; · exact sl_void) | (apply Ent.allM; · exact fun _ => sl_void) | apply Ent.f1 rfl | apply Ent.f2 rfl | apply Ent.f3 rfl | apply Ent.f4 rfl | apply Ent.f10 rfl | apply Ent.grp | assumption | exact trivial | rfl | omega)) s⟩
  unfold libIn; rw [← hxl]

set_option maxRecDepth 20000 in
theorem lib_hasW {W : World} {b bs br : Nat} {l : Lib} {p : Int} : Fn Try.prog W 54 [ptr b, .int .i64 p] [libX b bs br l] Unit (fun _ => .bool (l.has p)) (fun _ => True) (fun _ => [libX b bs br l]) := by
  refine Fn.intro (N := 19) Try.func54 rfl Try.ntmps54 rfl fun F => ?_
  show GoC _ _ _ _ _ _ [libX b bs br l, F]
  refine GoC.seq ?_
  refine GoC.region ?_
  refine GoL.y rfl (Y.assign rfl) ?_
  refine GoL.nil ?_
  refine GoE.then_normal ?_
  refine GoC.seq ?_
  refine GoC.region ?_
  refine GoL.y rfl (Y.move rfl) ?_
  refine GoL.y rfl (Y.move rfl) ?_
  refine GoL.does rfl (Does.callE rfl Try.call74 rfl lib_in (by repeat (first | exact Ent.nil | (apply Ent.cons; · repeat (first | exact Take.here | apply Take.there)) | apply Ent.opt0 | apply Ent.opt1 | apply Ent.void | apply Ent.emp0 | apply Ent.two | (apply Ent.allV; · exact sl_void) | (apply Ent.allM; · exact fun _ => sl_void) | apply Ent.f1 rfl | apply Ent.f2 rfl | apply Ent.f3 rfl | apply Ent.f4 rfl | apply Ent.f10 rfl | apply Ent.grp | assumption | exact trivial | rfl | omega))) ?_
  rintro _ _ ⟨⟨⟩, -, rfl, rfl⟩
  refine GoL.y rfl (Y.move rfl) ?_
  first
    | apply GoL.segAD 10 18 8 [8, 9, 10, 11, 12, 13, 14, 15, 16, 17, 18] rfl
    | apply GoL.segA 10 18 8 [8, 9, 10, 11, 12, 13, 14, 15, 16, 17, 18] rfl
  · intro h8
    refine GoL.o2 (C := libX b bs br l) (by repeat (first | exact Take.here | apply Take.there)) rfl ?_
    rintro vv vw -
    refine GoL.o1 (C := vslsH vv l.vs) (by repeat (first | exact Take.here | apply Take.there)) rfl ?_
    rintro xs hxs
    have hxl := map_len hxs
    unfold libIn at h8
    simp only [Bool.and_eq_true, decide_eq_true_eq] at h8
    obtain ⟨i, hi⟩ : ∃ i : Nat, p = (i : Int) := ⟨p.toNat, by omega⟩
    obtain ⟨x, hx⟩ := at_some (show i < xs.length by omega)
    have hx2 := map_get hxs hx
    refine GoL.yg rfl rfl rfl (Y.move rfl) ?_
    refine GoL.yg rfl rfl rfl (Y.nilCheck rfl) ?_
    first
      | refine GoL.yg rfl rfl rfl (Y.fieldAddr0 2 109 Try.underlying111 rfl Try.sizeOf109 rfl) ?_
      | refine GoL.yg rfl rfl rfl (Y.fieldAddr 2 109 Try.underlying111 rfl Try.sizeOf109 rfl) ?_
    first
      | refine GoL.yg rfl rfl rfl (Y.load Try.isAgg109 rfl (Cell.a (by rfl))) ?_
      | refine GoL.yg rfl rfl rfl (Y.load Try.isAgg109 rfl (Cell.rd0 Rd.s ‹_› (by rfl))) ?_
      | refine GoL.yg rfl rfl rfl (Y.load Try.isAgg109 rfl (Cell.rd Rd.s ‹_› (by rfl))) ?_
      | refine GoL.yg rfl rfl rfl (Y.load Try.isAgg109 rfl (Cell.ao (by rfl))) ?_
      | refine GoL.yg rfl rfl rfl (Y.load Try.isAgg109 rfl (Cell.az (by rfl))) ?_
      | refine GoL.yg rfl rfl rfl (Y.load Try.isAgg109 rfl (Cell.a ‹_›)) ?_
      | refine GoL.yg rfl rfl rfl (Y.load Try.isAgg109 rfl (Cell.rd0 ‹_› ‹_› (by rfl))) ?_
      | refine GoL.yg rfl rfl rfl (Y.load Try.isAgg109 rfl (Cell.rd ‹_› ‹_› (by rfl))) ?_
    refine GoL.yg rfl rfl rfl (Y.move rfl) ?_
    refine GoL.yg rfl rfl rfl (Y.ixRd i Try.underlying109 Try.sizeOf122 rfl (by rw [hi]; rfl) Rd.s rfl (by omega)) ?_
    refine GoL.yg rfl rfl rfl (Y.fieldAddrZ 3 Try.underlying122 rfl Try.sizeOf3 rfl) ?_
    refine GoL.yg rfl rfl rfl (Y.valW (Y.load Try.isAgg3 rfl (Cell.rd0 Rd.s hx rfl)) ((mode_at hx2).trans (congrArg _ hi.symm))) ?_
    refine GoL.yg rfl rfl rfl (Y.neq rfl rfl) ?_
    refine GoL.y rfl (Y.pickT rfl rfl) ?_
    refine GoL.nil ?_
    refine GoE.seg (by repeat (first | exact Top.base | refine Top.cons rfl ?_)) rfl (by first | exact fun _ h => h | exact Ent.kept (by repeat (first | exact Ent.nil | (apply Ent.cons; · repeat (first | exact Take.here | apply Take.there)) | apply Ent.opt0 | apply Ent.opt1 | apply Ent.void | apply Ent.emp0 | apply Ent.two | (apply Ent.allV; · exact sl_void) | (apply Ent.allM; · exact fun _ => sl_void) | apply Ent.f1 rfl | apply Ent.f2 rfl | apply Ent.f3 rfl | apply Ent.f4 rfl | apply Ent.f10 rfl | apply Ent.grp | assumption | exact trivial | rfl | omega)))
  · intro h8
    refine GoL.skip rfl rfl rfl rfl ?_
    refine GoL.skip rfl rfl rfl rfl ?_
    refine GoL.skip rfl rfl rfl rfl ?_
    refine GoL.skip rfl rfl rfl rfl ?_
    refine GoL.skip rfl rfl rfl rfl ?_
    refine GoL.skip rfl rfl rfl rfl ?_
    refine GoL.skip rfl rfl rfl rfl ?_
    refine GoL.skip rfl rfl rfl rfl ?_
    refine GoL.skip rfl rfl rfl rfl ?_
    refine GoL.y rfl (Y.pickF rfl rfl) ?_
    refine GoL.nil ?_
    refine GoE.seg (by repeat (first | exact Top.base | refine Top.cons rfl ?_)) rfl (by first | exact fun _ h => h | exact Ent.kept (by repeat (first | exact Ent.nil | (apply Ent.cons; · repeat (first | exact Take.here | apply Take.there)) | apply Ent.opt0 | apply Ent.opt1 | apply Ent.void | apply Ent.emp0 | apply Ent.two | (apply Ent.allV; · exact sl_void) | (apply Ent.allM; · exact fun _ => sl_void) | apply Ent.f1 rfl | apply Ent.f2 rfl | apply Ent.f3 rfl | apply Ent.f4 rfl | apply Ent.f10 rfl | apply Ent.grp | assumption | exact trivial | rfl | omega)))
  refine GoL.y rfl (Y.assign rfl) ?_
  refine GoL.nil ?_
  refine GoE.then_normal ?_
  refine GoC.ret ?_
  refine GoE.ret1 rfl rfl fun w s => ⟨(), ?_, trivial, finE (by repeat (first | exact Ent.nil | (apply Ent.cons; · repeat (first | exact Take.here | apply Take.there)) | apply Ent.opt0 | apply Ent.opt1 | apply Ent.void | apply Ent.emp0 | apply Ent.two | (apply Ent.allV; · exact sl_void) | (apply Ent.allM; · exact fun _ => sl_void) | apply Ent.f1 rfl | apply Ent.f2 rfl | apply Ent.f3 rfl | apply Ent.f4 rfl | apply Ent.f10 rfl | apply Ent.grp | assumption | exact trivial | rfl | omega)) s⟩
  rw [lib_has]

set_option maxRecDepth 20000 in
theorem lib_Procs {W : World} {b bs br : Nat} {l : Lib} (hl : l.vs.length ≤ 1000000000) : Fn Try.prog W 21 [ptr b] [libX b bs br l] Value (fun u => u) (fun _ => True) (fun u => [sl intE 1 u l.procs, libX b bs br l]) := by
  refine Fn.intro (N := 24) Try.func21 rfl Try.ntmps21 rfl fun F => ?_
  show GoC _ _ _ _ _ _ [libX b bs br l, F]
  refine GoC.seq ?_
  refine GoC.region ?_
  refine GoL.y rfl (Y.assign rfl) ?_
  refine GoL.nil ?_
  refine GoE.then_normal ?_
  refine GoC.seq ?_
  refine GoC.seq ?_
  refine GoC.region ?_
  refine GoL.y rfl (Y.move rfl) ?_
  refine GoL.y rfl (Y.eqPtrNil Try.underlying51 rfl rfl) ?_
  refine GoL.nil ?_
  refine GoE.then_normal ?_
  refine GoC.condF rfl ?_
  refine GoC.skip ?_
  refine GoE.then_normal ?_
  refine GoC.seq ?_
  refine GoC.region ?_
  refine GoL.y rfl (Y.assign rfl) ?_
  refine GoL.nil ?_
  refine GoE.then_normal ?_
  refine GoC.seq ?_
  refine GoC.seq ?_
  refine GoC.region ?_
  refine GoL.o2 (C := libX b bs br l) (by repeat (first | exact Take.here | apply Take.there)) rfl ?_
  rintro vv vw -
  refine GoL.o1 (C := vslsH vv l.vs) (by repeat (first | exact Take.here | apply Take.there)) rfl ?_
  rintro xs hxs
  have hxl := map_len hxs
  refine GoL.y rfl (Y.move rfl) ?_
  refine GoL.y rfl (Y.nilCheck rfl) ?_
  first
    | refine GoL.y rfl (Y.fieldAddr0 2 109 Try.underlying111 rfl Try.sizeOf109 rfl) ?_
    | refine GoL.y rfl (Y.fieldAddr 2 109 Try.underlying111 rfl Try.sizeOf109 rfl) ?_
  first
    | refine GoL.y rfl (Y.load Try.isAgg109 rfl (Cell.a (by rfl))) ?_
    | refine GoL.y rfl (Y.load Try.isAgg109 rfl (Cell.rd0 Rd.s ‹_› (by rfl))) ?_
    | refine GoL.y rfl (Y.load Try.isAgg109 rfl (Cell.rd Rd.s ‹_› (by rfl))) ?_
    | refine GoL.y rfl (Y.load Try.isAgg109 rfl (Cell.ao (by rfl))) ?_
    | refine GoL.y rfl (Y.load Try.isAgg109 rfl (Cell.az (by rfl))) ?_
    | refine GoL.y rfl (Y.load Try.isAgg109 rfl (Cell.a ‹_›)) ?_
    | refine GoL.y rfl (Y.load Try.isAgg109 rfl (Cell.rd0 ‹_› ‹_› (by rfl))) ?_
    | refine GoL.y rfl (Y.load Try.isAgg109 rfl (Cell.rd ‹_› ‹_› (by rfl))) ?_
  first
    | refine GoL.y rfl (Y.lenRd Try.underlying109 rfl Rd.s) ?_
    | refine GoL.y rfl (Y.lenRd Try.underlying109 rfl ‹_›) ?_
    | refine GoL.y rfl (Y.lenSlice Try.underlying109 rfl) ?_
  refine GoL.y rfl (Y.move rfl) ?_
  refine GoL.nil ?_
  refine GoE.then_normal ?_
  refine GoC.block ?_
  refine GoC.loopK (X := Nat × Value × List Int) [3, 4, 12, 13, 14, 15, 16, 17, 18, 19, 20, 21, 22] (fun z => l.vs.length - z.1) (fun z => z.1 ≤ l.vs.length ∧ z.2.2.length ≤ z.1 ∧ l.procs = z.2.2 ++ procsFrom (l.vs.drop z.1) z.1) (fun z => [(12, some (.int .i64 (z.1 : Int))), (3, some z.2.1)]) (fun z => [sl intE 1 z.2.1 z.2.2, libX b bs br l, F]) (0, .slice none 0 0, []) ?_ ?_ ?_ ?_
  · exact ⟨Nat.zero_le _, Nat.le_refl _, rfl⟩
  · exact ⟨rfl, rfl, trivial⟩
  · exact fun w s => Ent.kept (by repeat (first | exact Ent.nil | (apply Ent.cons; · repeat (first | exact Take.here | apply Take.there)) | apply Ent.opt0 | apply Ent.opt1 | apply Ent.void | apply Ent.emp0 | apply Ent.two | (apply Ent.allV; · exact sl_void) | (apply Ent.allM; · exact fun _ => sl_void) | apply Ent.f1 rfl | apply Ent.f2 rfl | apply Ent.f3 rfl | apply Ent.f4 rfl | apply Ent.f10 rfl | apply Ent.grp | assumption | exact trivial | rfl | omega)) w s
  rintro ⟨k, u, ys⟩ ⟨hk, hyl, hn⟩
  simp only at hk hyl hn
  refine GoC.seq ?_
  refine GoC.region ?_
  refine GoL.y rfl (Y.lss rfl rfl) ?_
  refine GoL.nil ?_
  refine GoE.then_normal ?_
  refine GoC.seq ?_
  refine GoC.condD rfl (fun h13 => ?_) (fun h13 => ?_)
  · refine GoC.skip ?_
    refine GoE.then_normal ?_
    refine GoC.seq ?_
    refine GoC.block ?_
    refine GoC.seq ?_
    refine GoC.region ?_
    refine GoL.y rfl (Y.move rfl) ?_
    refine GoL.y rfl (Y.assign rfl) ?_
    refine GoL.nil ?_
    refine GoE.then_normal ?_
    refine GoC.seq ?_
    refine GoC.region ?_
    refine GoL.y rfl (Y.move rfl) ?_
    refine GoL.y rfl (Y.move rfl) ?_
    refine GoL.does rfl (Does.callE rfl Try.call54 rfl lib_hasW (by repeat (first | exact Ent.nil | (apply Ent.cons; · repeat (first | exact Take.here | apply Take.there)) | apply Ent.opt0 | apply Ent.opt1 | apply Ent.void | apply Ent.emp0 | apply Ent.two | (apply Ent.allV; · exact sl_void) | (apply Ent.allM; · exact fun _ => sl_void) | apply Ent.f1 rfl | apply Ent.f2 rfl | apply Ent.f3 rfl | apply Ent.f4 rfl | apply Ent.f10 rfl | apply Ent.grp | assumption | exact trivial | rfl | omega))) ?_
    rintro _ _ ⟨⟨⟩, -, rfl, rfl⟩
    refine GoL.nil ?_
    refine GoE.then_normal ?_
    refine GoC.cond rfl (fun h17 => ?_) (fun h17 => ?_)
    · refine GoC.region ?_
      refine GoL.y rfl (Y.move rfl) ?_
      refine GoL.y rfl (Y.move rfl) ?_
      refine GoL.does rfl (Does.bsl 3 rfl rfl (by kernel_rfl)) ?_
      rintro _ _ ⟨b20, rfl, rfl⟩
      refine GoL.does rfl (Does.app1 (enc := intE) (k := 1) (k : Int) rfl Try.underlying23 Try.underlying23 Try.typeInfo3 rfl rfl rfl (by decide) rfl rfl rfl (by repeat (first | exact At.here | refine At.there ?_)) rfl (by repeat (first | exact Take.here | apply Take.there)) (by first | omega | (dsimp only; omega)) rfl) ?_
      rintro _ _ ⟨v21, rfl, rfl⟩
      refine GoL.y rfl (Y.assign rfl) ?_
      refine GoL.nil ?_
      refine GoE.block_normal (GoE.then_normal ?_)
      refine GoC.region ?_
      first
        | refine GoL.y rfl (Y.inc rfl rfl (by omega)) ?_
        | refine GoL.y rfl (Y.add rfl rfl (by omega)) ?_
      refine GoL.y rfl (Y.move rfl) ?_
      refine GoL.nil ?_
      refine GoE.againK (k + 1, v21, ys ++ [(k : Int)]) (by repeat (first | exact Top.base | refine Top.cons rfl ?_)) rfl ?_ ?_ ?_ ?_
      · show l.vs.length - (k + 1) < l.vs.length - k; omega
      · exact ⟨by show k + 1 ≤ _; omega, by simp; omega, by rw [hn, procs_yes (by omega) h17]; simp⟩
      · exact ⟨rfl, rfl, trivial⟩
      · exact fun w s => Ent.kept (by repeat (first | exact Ent.nil | (apply Ent.cons; · repeat (first | exact Take.here | apply Take.there)) | apply Ent.opt0 | apply Ent.opt1 | apply Ent.void | apply Ent.emp0 | apply Ent.two | (apply Ent.allV; · exact sl_void) | (apply Ent.allM; · exact fun _ => sl_void) | apply Ent.f1 rfl | apply Ent.f2 rfl | apply Ent.f3 rfl | apply Ent.f4 rfl | apply Ent.f10 rfl | apply Ent.grp | assumption | exact trivial | rfl | omega)) w s
    · refine GoC.skip ?_
      refine GoE.block_normal (GoE.then_normal ?_)
      refine GoC.region ?_
      first
        | refine GoL.y rfl (Y.inc rfl rfl (by omega)) ?_
        | refine GoL.y rfl (Y.add rfl rfl (by omega)) ?_
      refine GoL.y rfl (Y.move rfl) ?_
      refine GoL.nil ?_
      refine GoE.againK (k + 1, u, ys) (by repeat (first | exact Top.base | refine Top.cons rfl ?_)) rfl ?_ ?_ ?_ ?_
      · show l.vs.length - (k + 1) < l.vs.length - k; omega
      · exact ⟨by show k + 1 ≤ _; omega, by show ys.length ≤ k + 1; omega, by rw [hn, procs_no (by omega) h17]⟩
      · exact ⟨rfl, rfl, trivial⟩
      · exact fun w s => Ent.kept (by repeat (first | exact Ent.nil | (apply Ent.cons; · repeat (first | exact Take.here | apply Take.there)) | apply Ent.opt0 | apply Ent.opt1 | apply Ent.void | apply Ent.emp0 | apply Ent.two | (apply Ent.allV; · exact sl_void) | (apply Ent.allM; · exact fun _ => sl_void) | apply Ent.f1 rfl | apply Ent.f2 rfl | apply Ent.f3 rfl | apply Ent.f4 rfl | apply Ent.f10 rfl | apply Ent.grp | assumption | exact trivial | rfl | omega)) w s
  · refine GoC.exit ?_
    refine GoE.then_exit (GoE.then_exit (GoE.block_here (GoE.then_normal ?_)))
    refine GoC.seq ?_
    refine GoC.region ?_
    refine GoL.y rfl (Y.move rfl) ?_
    refine GoL.y rfl (Y.assign rfl) ?_
    refine GoL.nil ?_
    refine GoE.then_normal ?_
    refine GoC.ret ?_
    obtain rfl : k = l.vs.length := by omega
    rw [procs_end (Nat.le_refl _), List.append_nil] at hn
    subst hn
    refine GoE.ret1 rfl rfl fun w s => ⟨_, ?_, trivial, finE (by repeat (first | exact Ent.nil | (apply Ent.cons; · repeat (first | exact Take.here | apply Take.there)) | apply Ent.opt0 | apply Ent.opt1 | apply Ent.void | apply Ent.emp0 | apply Ent.two | (apply Ent.allV; · exact sl_void) | (apply Ent.allM; · exact fun _ => sl_void) | apply Ent.f1 rfl | apply Ent.f2 rfl | apply Ent.f3 rfl | apply Ent.f4 rfl | apply Ent.f10 rfl | apply Ent.grp | assumption | exact trivial | rfl | omega)) s⟩
    rfl

end Go.SLYtkflpgknieoknaa
