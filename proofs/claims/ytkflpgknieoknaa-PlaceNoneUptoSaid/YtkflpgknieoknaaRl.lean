/- Walks of functions, and what they compute. Conditions: none, this text proves no statement. -/
import Derived.Test.YtkflpgknieoknaaProg
import Derived.Test.YtkflpgknieoknaaRj
import Derived.Test.YtkflpgknieoknaaK14
import Derived.KernelRfl
namespace Go.SLYtkflpgknieoknaa
open Go Go.RowKit Go.Proofs

set_option maxRecDepth 20000 in
theorem kern_LibN {W : World} {n : Int} : Fn Try.prog W 20 [.pointer none, .int .i64 n] [] Unit (fun _ => .pointer none) (fun _ => True) (fun _ => []) := by
  refine Fn.intro (N := 27) Try.func20 rfl Try.ntmps20 rfl fun F => ?_
  show GoC _ _ _ _ _ _ [F]
  refine GoC.seq ?_
  refine GoC.region ?_
  refine GoL.y rfl (Y.assign rfl) ?_
  refine GoL.nil ?_
  refine GoE.then_normal ?_
  refine GoC.seq ?_
  refine GoC.seq ?_
  refine GoC.region ?_
  refine GoL.y rfl (Y.move rfl) ?_
  refine GoL.y rfl (Y.eqPtrNil Try.underlying24 rfl rfl) ?_
  refine GoL.y rfl (Y.move rfl) ?_
  refine GoL.skip rfl rfl rfl rfl ?_
  refine GoL.skip rfl rfl rfl rfl ?_
  refine GoL.y rfl (Y.pickT rfl rfl) ?_
  refine GoL.y rfl (Y.move rfl) ?_
  refine GoL.skip rfl rfl rfl rfl ?_
  refine GoL.skip rfl rfl rfl rfl ?_
  refine GoL.skip rfl rfl rfl rfl ?_
  refine GoL.skip rfl rfl rfl rfl ?_
  refine GoL.skip rfl rfl rfl rfl ?_
  refine GoL.skip rfl rfl rfl rfl ?_
  refine GoL.skip rfl rfl rfl rfl ?_
  refine GoL.y rfl (Y.pickT rfl rfl) ?_
  refine GoL.nil ?_
  refine GoE.then_normal ?_
  refine GoC.condT rfl ?_
  refine GoC.seq ?_
  refine GoC.region ?_
  refine GoL.y rfl (Y.assign rfl) ?_
  refine GoL.nil ?_
  refine GoE.then_normal ?_
  refine GoC.ret ?_
  refine GoE.then_ret ?_
  refine GoE.ret1 rfl rfl fun w s => ⟨(), ?_, trivial, finE (by repeat (first | exact Ent.nil | (apply Ent.cons; · repeat (first | exact Take.here | apply Take.there)) | apply Ent.opt0 | apply Ent.opt1 | apply Ent.void | apply Ent.emp0 | apply Ent.two | (apply Ent.allV; · exact sl_void) | (apply Ent.allM; · exact fun _ => sl_void) | apply Ent.f1 rfl | apply Ent.f2 rfl | apply Ent.f3 rfl | apply Ent.f4 rfl | apply Ent.f10 rfl | apply Ent.grp | assumption | exact trivial | rfl | omega)) s⟩
  rfl

set_option maxRecDepth 20000 in
theorem kern_SpacesN {W : World}  : Fn Try.prog W 37 [.pointer none] [] Unit (fun _ => .int .i64 0) (fun _ => True) (fun _ => []) := by
  refine Fn.intro (N := 10) Try.func37 rfl Try.ntmps37 rfl fun F => ?_
  show GoC _ _ _ _ _ _ [F]
  refine GoC.seq ?_
  refine GoC.region ?_
  refine GoL.y rfl (Y.assign rfl) ?_
  refine GoL.nil ?_
  refine GoE.then_normal ?_
  refine GoC.seq ?_
  refine GoC.seq ?_
  refine GoC.region ?_
  refine GoL.y rfl (Y.move rfl) ?_
  refine GoL.y rfl (Y.eqPtrNil Try.underlying24 rfl rfl) ?_
  refine GoL.nil ?_
  refine GoE.then_normal ?_
  refine GoC.condT rfl ?_
  refine GoC.seq ?_
  refine GoC.region ?_
  refine GoL.y rfl (Y.assign rfl) ?_
  refine GoL.nil ?_
  refine GoE.then_normal ?_
  refine GoC.ret ?_
  refine GoE.then_ret ?_
  refine GoE.ret1 rfl rfl fun w s => ⟨(), ?_, trivial, finE (by repeat (first | exact Ent.nil | (apply Ent.cons; · repeat (first | exact Take.here | apply Take.there)) | apply Ent.opt0 | apply Ent.opt1 | apply Ent.void | apply Ent.emp0 | apply Ent.two | (apply Ent.allV; · exact sl_void) | (apply Ent.allM; · exact fun _ => sl_void) | apply Ent.f1 rfl | apply Ent.f2 rfl | apply Ent.f3 rfl | apply Ent.f4 rfl | apply Ent.f10 rfl | apply Ent.grp | assumption | exact trivial | rfl | omega)) s⟩
  rfl

set_option maxRecDepth 20000 in
theorem lib_Rows {W : World} {b bs br : Nat} {l : Lib} : Fn Try.prog W 32 [ptr b] [libX b bs br l] Unit (fun _ => ptr br) (fun _ => True) (fun _ => [libX b bs br l]) := by
  refine Fn.intro (N := 9) Try.func32 rfl Try.ntmps32 rfl fun F => ?_
  show GoC _ _ _ _ _ _ [libX b bs br l, F]
  refine GoC.seq ?_
  refine GoC.region ?_
  refine GoL.y rfl (Y.assign rfl) ?_
  refine GoL.nil ?_
  refine GoE.then_normal ?_
  refine GoC.seq ?_
  refine GoC.seq ?_
  refine GoC.region ?_
  refine GoL.y rfl (Y.move rfl) ?_
  refine GoL.y rfl (Y.eqPtrNil Try.underlying51 rfl rfl) ?_
  refine GoL.nil ?_
  refine GoE.then_normal ?_
  refine GoC.condF rfl ?_
  refine GoC.skip ?_
  refine GoE.then_normal ?_
  refine GoC.seq ?_
  refine GoC.region ?_
  refine GoL.o2 (C := libX b bs br l) (by repeat (first | exact Take.here | apply Take.there)) rfl ?_
  rintro vv vw -
  refine GoL.y rfl (Y.move rfl) ?_
  refine GoL.y rfl (Y.nilCheck rfl) ?_
  first
    | refine GoL.y rfl (Y.fieldAddr0 1 75 Try.underlying111 rfl Try.sizeOf75 rfl) ?_
    | refine GoL.y rfl (Y.fieldAddr 1 75 Try.underlying111 rfl Try.sizeOf75 rfl) ?_
  first
    | refine GoL.y rfl (Y.load Try.isAgg75 rfl (Cell.a (by rfl))) ?_
    | refine GoL.y rfl (Y.load Try.isAgg75 rfl (Cell.rd0 Rd.s ‹_› (by rfl))) ?_
    | refine GoL.y rfl (Y.load Try.isAgg75 rfl (Cell.rd Rd.s ‹_› (by rfl))) ?_
    | refine GoL.y rfl (Y.load Try.isAgg75 rfl (Cell.ao (by rfl))) ?_
    | refine GoL.y rfl (Y.load Try.isAgg75 rfl (Cell.az (by rfl))) ?_
    | refine GoL.y rfl (Y.load Try.isAgg75 rfl (Cell.a ‹_›)) ?_
    | refine GoL.y rfl (Y.load Try.isAgg75 rfl (Cell.rd0 ‹_› ‹_› (by rfl))) ?_
    | refine GoL.y rfl (Y.load Try.isAgg75 rfl (Cell.rd ‹_› ‹_› (by rfl))) ?_
  refine GoL.y rfl (Y.assign rfl) ?_
  refine GoL.nil ?_
  refine GoE.then_normal ?_
  refine GoC.ret ?_
  refine GoE.ret1 rfl rfl fun w s => ⟨(), ?_, trivial, finE (by repeat (first | exact Ent.nil | (apply Ent.cons; · repeat (first | exact Take.here | apply Take.there)) | apply Ent.opt0 | apply Ent.opt1 | apply Ent.void | apply Ent.emp0 | apply Ent.two | (apply Ent.allV; · exact sl_void) | (apply Ent.allM; · exact fun _ => sl_void) | apply Ent.f1 rfl | apply Ent.f2 rfl | apply Ent.f3 rfl | apply Ent.f4 rfl | apply Ent.f10 rfl | apply Ent.grp | assumption | exact trivial | rfl | omega)) s⟩
  rfl

set_option maxRecDepth 20000 in
theorem lib_Waiting {W : World} {b bs br : Nat} {l : Lib} (hl : l.waiting.length ≤ 1000000000) : Fn Try.prog W 36 [ptr b] [libX b bs br l] Value (fun u => u) (fun _ => True) (fun u => [sl evE 3 u l.waiting, libX b bs br l]) := by
  refine Fn.intro (N := 11) Try.func36 rfl Try.ntmps36 rfl fun F => ?_
  show GoC _ _ _ _ _ _ [libX b bs br l, F]
  refine GoC.seq ?_
  refine GoC.region ?_
  refine GoL.y rfl (Y.assign rfl) ?_
  refine GoL.nil ?_
  refine GoE.then_normal ?_
  refine GoC.seq ?_
  refine GoC.seq ?_
  refine GoC.region ?_
  refine GoL.y rfl (Y.move rfl) ?_
  refine GoL.y rfl (Y.eqPtrNil Try.underlying51 rfl rfl) ?_
  refine GoL.nil ?_
  refine GoE.then_normal ?_
  refine GoC.condF rfl ?_
  refine GoC.skip ?_
  refine GoE.then_normal ?_
  refine GoC.seq ?_
  refine GoC.region ?_
  refine GoL.o2 (C := libX b bs br l) (by repeat (first | exact Take.here | apply Take.there)) rfl ?_
  rintro vv vw -
  refine GoL.y rfl (Y.move rfl) ?_
  refine GoL.y rfl (Y.nilCheck rfl) ?_
  first
    | refine GoL.y rfl (Y.fieldAddr0 3 79 Try.underlying111 rfl Try.sizeOf79 rfl) ?_
    | refine GoL.y rfl (Y.fieldAddr 3 79 Try.underlying111 rfl Try.sizeOf79 rfl) ?_
  first
    | refine GoL.y rfl (Y.load Try.isAgg79 rfl (Cell.a (by rfl))) ?_
    | refine GoL.y rfl (Y.load Try.isAgg79 rfl (Cell.rd0 Rd.s ‹_› (by rfl))) ?_
    | refine GoL.y rfl (Y.load Try.isAgg79 rfl (Cell.rd Rd.s ‹_› (by rfl))) ?_
    | refine GoL.y rfl (Y.load Try.isAgg79 rfl (Cell.ao (by rfl))) ?_
    | refine GoL.y rfl (Y.load Try.isAgg79 rfl (Cell.az (by rfl))) ?_
    | refine GoL.y rfl (Y.load Try.isAgg79 rfl (Cell.a ‹_›)) ?_
    | refine GoL.y rfl (Y.load Try.isAgg79 rfl (Cell.rd0 ‹_› ‹_› (by rfl))) ?_
    | refine GoL.y rfl (Y.load Try.isAgg79 rfl (Cell.rd ‹_› ‹_› (by rfl))) ?_
  refine GoL.does rfl (Does.callE rfl Try.call65 rfl (CloneE (A := sl evE 3 vw l.waiting) (Rd.sl .here) hl) (by repeat (first | exact Ent.nil | (apply Ent.cons; · repeat (first | exact Take.here | apply Take.there)) | apply Ent.opt0 | apply Ent.opt1 | apply Ent.void | apply Ent.emp0 | apply Ent.two | (apply Ent.allV; · exact sl_void) | (apply Ent.allM; · exact fun _ => sl_void) | apply Ent.f1 rfl | apply Ent.f2 rfl | apply Ent.f3 rfl | apply Ent.f4 rfl | apply Ent.f10 rfl | apply Ent.grp | assumption | exact trivial | rfl | omega))) ?_
  rintro _ _ ⟨u9, -, rfl, rfl⟩
  refine GoL.does rfl (Does.callE rfl Try.call64 rfl ClipE (by repeat (first | exact Ent.nil | (apply Ent.cons; · repeat (first | exact Take.here | apply Take.there)) | apply Ent.opt0 | apply Ent.opt1 | apply Ent.void | apply Ent.emp0 | apply Ent.two | (apply Ent.allV; · exact sl_void) | (apply Ent.allM; · exact fun _ => sl_void) | apply Ent.f1 rfl | apply Ent.f2 rfl | apply Ent.f3 rfl | apply Ent.f4 rfl | apply Ent.f10 rfl | apply Ent.grp | assumption | exact trivial | rfl | omega))) ?_
  rintro _ _ ⟨u10, -, rfl, rfl⟩
  refine GoL.y rfl (Y.assign rfl) ?_
  refine GoL.nil ?_
  refine GoE.then_normal ?_
  refine GoC.ret ?_
  refine GoE.ret1 rfl rfl fun w s => ⟨_, ?_, trivial, finE (by repeat (first | exact Ent.nil | (apply Ent.cons; · repeat (first | exact Take.here | apply Take.there)) | apply Ent.opt0 | apply Ent.opt1 | apply Ent.void | apply Ent.emp0 | apply Ent.two | (apply Ent.allV; · exact sl_void) | (apply Ent.allM; · exact fun _ => sl_void) | apply Ent.f1 rfl | apply Ent.f2 rfl | apply Ent.f3 rfl | apply Ent.f4 rfl | apply Ent.f10 rfl | apply Ent.grp | assumption | exact trivial | rfl | omega)) s⟩
  rfl

set_option maxRecDepth 20000 in
theorem deque_All {W : World} {b : Nat} {l : List Int} (hl : l.length ≤ 1000000000) : Fn Try.prog W 62 [ptr b] [dqH b l] Value (fun u => u) (fun _ => True) (fun u => [sl intE 1 u l, dqH b l]) := by
  refine Fn.intro (N := 11) Try.func62 rfl Try.ntmps62 rfl fun F => ?_
  show GoC _ _ _ _ _ _ [dqH b l, F]
  refine GoC.seq ?_
  refine GoC.region ?_
  refine GoL.y rfl (Y.assign rfl) ?_
  refine GoL.nil ?_
  refine GoE.then_normal ?_
  refine GoC.seq ?_
  refine GoC.seq ?_
  refine GoC.region ?_
  refine GoL.y rfl (Y.move rfl) ?_
  refine GoL.y rfl (Y.eqPtrNil Try.underlying129 rfl rfl) ?_
  refine GoL.nil ?_
  refine GoE.then_normal ?_
  refine GoC.condF rfl ?_
  refine GoC.skip ?_
  refine GoE.then_normal ?_
  refine GoC.seq ?_
  refine GoC.region ?_
  refine GoL.o1 (C := dqH b l) (by repeat (first | exact Take.here | apply Take.there)) rfl ?_
  rintro v -
  refine GoL.y rfl (Y.move rfl) ?_
  refine GoL.y rfl (Y.nilCheck rfl) ?_
  refine GoL.y rfl (Y.fieldAddrZ 23 Try.underlying179 rfl Try.sizeOf23 rfl) ?_
  first
    | refine GoL.y rfl (Y.load Try.isAgg23 rfl (Cell.a (by rfl))) ?_
    | refine GoL.y rfl (Y.load Try.isAgg23 rfl (Cell.rd0 Rd.s ‹_› (by rfl))) ?_
    | refine GoL.y rfl (Y.load Try.isAgg23 rfl (Cell.rd Rd.s ‹_› (by rfl))) ?_
    | refine GoL.y rfl (Y.load Try.isAgg23 rfl (Cell.ao (by rfl))) ?_
    | refine GoL.y rfl (Y.load Try.isAgg23 rfl (Cell.az (by rfl))) ?_
    | refine GoL.y rfl (Y.load Try.isAgg23 rfl (Cell.a ‹_›)) ?_
    | refine GoL.y rfl (Y.load Try.isAgg23 rfl (Cell.rd0 ‹_› ‹_› (by rfl))) ?_
    | refine GoL.y rfl (Y.load Try.isAgg23 rfl (Cell.rd ‹_› ‹_› (by rfl))) ?_
  refine GoL.does rfl (Does.callE rfl Try.call81 rfl (CloneI (A := sl intE 1 v l) (Rd.sl .here) hl) (by repeat (first | exact Ent.nil | (apply Ent.cons; · repeat (first | exact Take.here | apply Take.there)) | apply Ent.opt0 | apply Ent.opt1 | apply Ent.void | apply Ent.emp0 | apply Ent.two | (apply Ent.allV; · exact sl_void) | (apply Ent.allM; · exact fun _ => sl_void) | apply Ent.f1 rfl | apply Ent.f2 rfl | apply Ent.f3 rfl | apply Ent.f4 rfl | apply Ent.f10 rfl | apply Ent.grp | assumption | exact trivial | rfl | omega))) ?_
  rintro _ _ ⟨u9, -, rfl, rfl⟩
  refine GoL.does rfl (Does.callE rfl Try.call80 rfl ClipI (by repeat (first | exact Ent.nil | (apply Ent.cons; · repeat (first | exact Take.here | apply Take.there)) | apply Ent.opt0 | apply Ent.opt1 | apply Ent.void | apply Ent.emp0 | apply Ent.two | (apply Ent.allV; · exact sl_void) | (apply Ent.allM; · exact fun _ => sl_void) | apply Ent.f1 rfl | apply Ent.f2 rfl | apply Ent.f3 rfl | apply Ent.f4 rfl | apply Ent.f10 rfl | apply Ent.grp | assumption | exact trivial | rfl | omega))) ?_
  rintro _ _ ⟨u10, -, rfl, rfl⟩
  refine GoL.y rfl (Y.assign rfl) ?_
  refine GoL.nil ?_
  refine GoE.then_normal ?_
  refine GoC.ret ?_
  refine GoE.ret1 rfl rfl fun w s => ⟨_, ?_, trivial, finE (by repeat (first | exact Ent.nil | (apply Ent.cons; · repeat (first | exact Take.here | apply Take.there)) | apply Ent.opt0 | apply Ent.opt1 | apply Ent.void | apply Ent.emp0 | apply Ent.two | (apply Ent.allV; · exact sl_void) | (apply Ent.allM; · exact fun _ => sl_void) | apply Ent.f1 rfl | apply Ent.f2 rfl | apply Ent.f3 rfl | apply Ent.f4 rfl | apply Ent.f10 rfl | apply Ent.grp | assumption | exact trivial | rfl | omega)) s⟩
  rfl

set_option maxRecDepth 20000 in
theorem lib_Look {W : World} {b bs br : Nat} {l : Lib} {p : Int} (hl : ∀ v ∈ l.vs, v.evs.length ≤ 1000000000) : Fn Try.prog W 60 [ptr b, .int .i64 p] [libX b bs br l] Value (fun u => .tuple #[.agg (vslE (u, lookV l p)).toArray, .bool (l.has p)]) (fun _ => True) (fun u => [sl evE 3 u (lookV l p).evs, libX b bs br l]) := by
  refine Fn.intro (N := 25) Try.func60 rfl Try.ntmps60 rfl fun F => ?_
  show GoC _ _ _ _ _ _ [libX b bs br l, F]
  refine GoC.seq ?_
  refine GoC.region ?_
  refine GoL.does rfl (Does.alloc rfl Try.zeroValue122 rfl) ?_
  rintro _ _ ⟨b4, rfl, rfl⟩
  refine GoL.y rfl (Y.assign rfl) ?_
  refine GoL.nil ?_
  refine GoE.then_normal ?_
  refine GoC.seq ?_
  refine GoC.seq ?_
  refine GoC.region ?_
  refine GoL.y rfl (Y.move rfl) ?_
  refine GoL.y rfl (Y.move rfl) ?_
  refine GoL.does rfl (Does.callE rfl Try.call54 rfl lib_hasW (by repeat (first | exact Ent.nil | (apply Ent.cons; · repeat (first | exact Take.here | apply Take.there)) | apply Ent.opt0 | apply Ent.opt1 | apply Ent.void | apply Ent.emp0 | apply Ent.two | (apply Ent.allV; · exact sl_void) | (apply Ent.allM; · exact fun _ => sl_void) | apply Ent.f1 rfl | apply Ent.f2 rfl | apply Ent.f3 rfl | apply Ent.f4 rfl | apply Ent.f10 rfl | apply Ent.grp | assumption | exact trivial | rfl | omega))) ?_
  rintro _ _ ⟨⟨⟩, -, rfl, rfl⟩
  first
    | refine GoL.y rfl (Y.notD rfl) ?_
    | refine GoL.y rfl (Y.not rfl) ?_
  refine GoL.nil ?_
  refine GoE.then_normal ?_
  refine GoC.cond rfl (fun h10 => ?_) (fun h10 => ?_)
  · rw [Bool.not_eq_true'] at h10
    rw [look_no h10, h10]
    refine GoC.seq ?_
    refine GoC.region ?_
    refine GoL.y rfl (Y.bld0 ([(.int .i64 0), (.int .i64 0), (.slice none 0 0)]) (by kernel_rfl)) ?_
    first
      | refine GoL.does rfl (Does.sta (by exact Try.sizeOf122) rfl rfl rfl (by rfl)) ?_
      | refine GoL.does rfl (Does.stp (by exact Try.sizeOf122) rfl rfl rfl rfl) ?_
    rintro _ _ ⟨rfl, rfl⟩
    refine GoL.y rfl (Y.assign rfl) ?_
    refine GoL.nil ?_
    refine GoE.then_normal ?_
    refine GoC.ret ?_
    refine GoE.then_ret ?_
    refine GoE.retCT rfl rfl Try.isAgg122 (by exact Try.sizeOf122) Cells.a rfl fun w s => ⟨.slice none 0 0, ?_, trivial, finE (by repeat (first | exact Ent.nil | (apply Ent.cons; · repeat (first | exact Take.here | apply Take.there)) | apply Ent.opt0 | apply Ent.opt1 | apply Ent.void | apply Ent.emp0 | apply Ent.two | (apply Ent.allV; · exact sl_void) | (apply Ent.allM; · exact fun _ => sl_void) | apply Ent.f1 rfl | apply Ent.f2 rfl | apply Ent.f3 rfl | apply Ent.f4 rfl | apply Ent.f10 rfl | apply Ent.grp | assumption | exact trivial | rfl | omega)) s⟩
    rfl
  · rw [Bool.not_eq_false'] at h10
    obtain ⟨i, v, rfl, hv⟩ := has_nat (has_in h10)
    rw [look_yes h10 hv, h10]
    refine GoC.o2 (C := libX b bs br l) (by repeat (first | exact Take.here | apply Take.there)) rfl ?_
    rintro vv vw -
    refine GoC.o1 (C := vslsH vv l.vs) (by repeat (first | exact Take.here | apply Take.there)) rfl ?_
    rintro xs hxs
    have hxl := map_len hxs
    obtain ⟨x, hx, rfl⟩ := map_back hxs hv
    have hil := (List.getElem?_eq_some_iff.1 hx).1
    refine GoC.skip ?_
    refine GoE.then_normal ?_
    refine GoC.seq ?_
    refine GoC.region ?_
    refine GoL.y rfl (Y.move rfl) ?_
    refine GoL.y rfl (Y.nilCheck rfl) ?_
    first
      | refine GoL.y rfl (Y.fieldAddr0 2 109 Try.underlying111 rfl Try.sizeOf109 rfl) ?_
      | refine GoL.y rfl (Y.fieldAddr 2 109 Try.underlying111 rfl Try.sizeOf109 rfl) ?_
    first
      | refine GoL.y rfl (Y.load Try.isAgg109 rfl (Cell.a (by rfl))) ?_
      | refine GoL.y rfl (Y.load Try.isAgg109 rfl (Cell.rd0 Rd.s ‹_› (by rfl))) ?_
      | refine GoL.y rfl (Y.load Try.isAgg109 rfl (Cell.rd Rd.s ‹_› (by rfl))) ?_
      | refine GoL.y rfl (Y.load Try.isAgg109 rfl (Cell.ao (by rfl))) ?_
      | refine GoL.y rfl (Y.load Try.isAgg109 rfl (Cell.az (by rfl))) ?_
      | refine GoL.y rfl (Y.load Try.isAgg109 rfl (Cell.a ‹_›)) ?_
      | refine GoL.y rfl (Y.load Try.isAgg109 rfl (Cell.rd0 ‹_› ‹_› (by rfl))) ?_
      | refine GoL.y rfl (Y.load Try.isAgg109 rfl (Cell.rd ‹_› ‹_› (by rfl))) ?_
    refine GoL.y rfl (Y.move rfl) ?_
    refine GoL.y rfl (Y.ixRd i Try.underlying109 Try.sizeOf122 rfl rfl Rd.s rfl (by omega)) ?_
    refine GoL.y rfl (Y.lda Try.isAgg122 rfl (Cells.rd Rd.s hx) (by exact Try.sizeOf122)) ?_
    refine GoL.fr (by repeat (first | exact Take.here | apply Take.there)) (all_out (f := fun x : Value × Vsl => sl evE 3 x.1 x.2.evs) hx) ?_
    refine GoL.know (fun w s => Rd.isSl (Rd.sl .here) w s) fun hu0 => ?_
    have hone := vsl_one (x := x.2) hu0
    refine GoL.does rfl (Does.alloc rfl Try.zeroValue122 rfl) ?_
    rintro _ _ ⟨b6, rfl, rfl⟩
    refine GoL.does rfl (Does.stp (by exact Try.sizeOf122) rfl rfl hone rfl) ?_
    rintro _ _ ⟨rfl, rfl⟩
    refine GoL.nil ?_
    refine GoE.then_normal ?_
    refine GoC.seq ?_
    refine GoC.region ?_
    first
      | refine GoL.y rfl (Y.fieldAddr0 2 79 Try.underlying122 rfl Try.sizeOf79 rfl) ?_
      | refine GoL.y rfl (Y.fieldAddr 2 79 Try.underlying122 rfl Try.sizeOf79 rfl) ?_
    first
      | refine GoL.y rfl (Y.load Try.isAgg79 rfl (Cell.a (by rfl))) ?_
      | refine GoL.y rfl (Y.load Try.isAgg79 rfl (Cell.rd0 Rd.s ‹_› (by rfl))) ?_
      | refine GoL.y rfl (Y.load Try.isAgg79 rfl (Cell.rd Rd.s ‹_› (by rfl))) ?_
      | refine GoL.y rfl (Y.load Try.isAgg79 rfl (Cell.ao (by rfl))) ?_
      | refine GoL.y rfl (Y.load Try.isAgg79 rfl (Cell.az (by rfl))) ?_
      | refine GoL.y rfl (Y.load Try.isAgg79 rfl (Cell.a ‹_›)) ?_
      | refine GoL.y rfl (Y.load Try.isAgg79 rfl (Cell.rd0 ‹_› ‹_› (by rfl))) ?_
      | refine GoL.y rfl (Y.load Try.isAgg79 rfl (Cell.rd ‹_› ‹_› (by rfl))) ?_
    refine GoL.does rfl (Does.callE rfl Try.call65 rfl (CloneE (A := sl evE 3 x.1 x.2.evs) (xs := x.2.evs) (Rd.sl .here) (hl x.2 (List.mem_of_getElem? hv))) (by repeat (first | exact Ent.nil | (apply Ent.cons; · repeat (first | exact Take.here | apply Take.there)) | apply Ent.opt0 | apply Ent.opt1 | apply Ent.void | apply Ent.emp0 | apply Ent.two | (apply Ent.allV; · exact sl_void) | (apply Ent.allM; · exact fun _ => sl_void) | apply Ent.f1 rfl | apply Ent.f2 rfl | apply Ent.f3 rfl | apply Ent.f4 rfl | apply Ent.f10 rfl | apply Ent.grp | assumption | exact trivial | rfl | omega))) ?_
    rintro _ _ ⟨u21, -, rfl, rfl⟩
    refine GoL.does rfl (Does.callE rfl Try.call64 rfl ClipE (by repeat (first | exact Ent.nil | (apply Ent.cons; · repeat (first | exact Take.here | apply Take.there)) | apply Ent.opt0 | apply Ent.opt1 | apply Ent.void | apply Ent.emp0 | apply Ent.two | (apply Ent.allV; · exact sl_void) | (apply Ent.allM; · exact fun _ => sl_void) | apply Ent.f1 rfl | apply Ent.f2 rfl | apply Ent.f3 rfl | apply Ent.f4 rfl | apply Ent.f10 rfl | apply Ent.grp | assumption | exact trivial | rfl | omega))) ?_
    rintro _ _ ⟨u22, -, rfl, rfl⟩
    refine GoL.know (fun w s => Rd.isSl (Rd.sl (by repeat (first | exact At.here | refine At.there ?_))) w s) fun hu22 => ?_
    refine GoL.to (A := allH (fun x : Value × Vsl => sl evE 3 x.1 x.2.evs) xs) (by repeat (first | exact Ent.nil | (apply Ent.cons; · repeat (first | exact Take.here | apply Take.there)) | apply Ent.opt0 | apply Ent.opt1 | apply Ent.void | apply Ent.emp0 | apply Ent.two | (apply Ent.allV; · exact sl_void) | (apply Ent.allM; · exact fun _ => sl_void) | apply Ent.f1 rfl | apply Ent.f2 rfl | apply Ent.f3 rfl | apply Ent.f4 rfl | apply Ent.f10 rfl | apply Ent.grp | assumption | exact trivial | rfl | omega)) (all_back (f := fun x : Value × Vsl => sl evE 3 x.1 x.2.evs) hx) ?_
    first
      | refine GoL.y rfl (Y.fieldAddr0 2 79 Try.underlying122 rfl Try.sizeOf79 rfl) ?_
      | refine GoL.y rfl (Y.fieldAddr 2 79 Try.underlying122 rfl Try.sizeOf79 rfl) ?_
    first
      | refine GoL.does rfl (Does.stS Try.sizeOf79 rfl rfl rfl) ?_
      | refine GoL.does rfl (Does.st Try.sizeOf79 rfl rfl rfl rfl) ?_
      | refine GoL.does rfl (Does.stoS Try.sizeOf79 rfl rfl rfl) ?_
      | refine GoL.does rfl (Does.stzS Try.sizeOf79 rfl rfl rfl) ?_
    rintro _ _ ⟨rfl, rfl⟩
    refine GoL.nil ?_
    refine GoE.then_normal ?_
    refine GoC.seq ?_
    refine GoC.region ?_
    first
      | refine GoL.y rfl (Y.lda Try.isAgg122 rfl Cells.a (by exact Try.sizeOf122)) ?_
      | refine GoL.y rfl (Y.lda Try.isAgg122 rfl (Cells.rd ‹_› ‹_›) (by exact Try.sizeOf122)) ?_
      | refine GoL.y rfl (Y.lda Try.isAgg122 rfl (Cells.rd Rd.s ‹_›) (by exact Try.sizeOf122)) ?_
      | refine GoL.y rfl (Y.lda Try.isAgg122 rfl (Cells.part0 Cells.a rfl) (by exact Try.sizeOf122)) ?_
    refine GoL.does rfl (Does.stp (by exact Try.sizeOf122) rfl rfl (vsl_one hu22) rfl) ?_
    rintro _ _ ⟨rfl, rfl⟩
    refine GoL.y rfl (Y.assign rfl) ?_
    refine GoL.nil ?_
    refine GoE.then_normal ?_
    refine GoC.ret ?_
    refine GoE.retCT rfl rfl Try.isAgg122 (by exact Try.sizeOf122) Cells.a rfl fun w s => ⟨_, ?_, trivial, finE (by repeat (first | exact Ent.nil | (apply Ent.cons; · repeat (first | exact Take.here | apply Take.there)) | apply Ent.opt0 | apply Ent.opt1 | apply Ent.void | apply Ent.emp0 | apply Ent.two | (apply Ent.allV; · exact sl_void) | (apply Ent.allM; · exact fun _ => sl_void) | apply Ent.f1 rfl | apply Ent.f2 rfl | apply Ent.f3 rfl | apply Ent.f4 rfl | apply Ent.f10 rfl | apply Ent.grp | assumption | exact trivial | rfl | omega)) s⟩
    rfl

set_option maxRecDepth 20000 in
theorem place_told {W : World} {A : HProp} {v : Value} {xs : List Ev} {slot : Int} (hr : Rd W [A] evE 3 v xs) (hl : xs.length ≤ 1000000000) : Fn Try.prog W 35 [v, .int .i64 slot] [A] Unit (fun _ => .int .i64 (toldN xs slot : Int)) (fun _ => True) (fun _ => [A]) := by
  refine Fn.intro (N := 37) Try.func35 rfl Try.ntmps35 rfl fun F => ?_
  haveI hRI : ∀ (H : List HProp) [HasH H A], ReadsC W H v evE 3 xs := fun H h => ⟨hr.at h.has⟩
  show GoC _ _ _ _ _ _ [A, F]
  refine GoC.seq ?_
  refine GoC.region ?_
  refine GoL.y rfl (Y.assign rfl) ?_
  refine GoL.nil ?_
  refine GoE.then_normal ?_
  refine GoC.seq ?_
  refine GoC.region ?_
  refine GoL.y rfl (Y.assign rfl) ?_
  refine GoL.nil ?_
  refine GoE.then_normal ?_
  refine GoC.seq ?_
  refine GoC.seq ?_
  refine GoC.region ?_
  refine GoL.y rfl (Y.move rfl) ?_
  first
    | refine GoL.y rfl (Y.lenRd Try.underlying79 rfl Rd.s) ?_
    | refine GoL.y rfl (Y.lenRd Try.underlying79 rfl ‹_›) ?_
    | refine GoL.y rfl (Y.lenSlice Try.underlying79 rfl) ?_
  refine GoL.y rfl (Y.move rfl) ?_
  refine GoL.nil ?_
  refine GoE.then_normal ?_
  refine GoC.block ?_
  refine GoC.loopK (X := Nat × Nat) [5, 7, 8, 9, 12, 13, 14, 15, 16, 17, 18, 19, 20, 21, 22, 23, 24, 25, 26, 27, 28, 29, 30, 31, 32, 33, 34, 35] (fun z => xs.length - z.1) (fun z => z.1 ≤ xs.length ∧ z.2 ≤ z.1 ∧ z.2 = toldN (xs.take z.1) slot) (fun z => [(12, some (.int .i64 (z.1 : Int))), (5, some (.int .i64 (z.2 : Int)))]) (fun z => [A, F]) (0, 0) ?_ ?_ ?_ ?_
  · exact ⟨Nat.zero_le _, Nat.le_refl _, rfl⟩
  · exact ⟨rfl, rfl, trivial⟩
  · exact fun w s => Ent.kept (by repeat (first | exact Ent.nil | (apply Ent.cons; · repeat (first | exact Take.here | apply Take.there)) | apply Ent.opt0 | apply Ent.opt1 | apply Ent.void | apply Ent.emp0 | apply Ent.two | (apply Ent.allV; · exact sl_void) | (apply Ent.allM; · exact fun _ => sl_void) | apply Ent.f1 rfl | apply Ent.f2 rfl | apply Ent.f3 rfl | apply Ent.f4 rfl | apply Ent.f10 rfl | apply Ent.grp | assumption | exact trivial | rfl | omega)) w s
  rintro ⟨k, c⟩ ⟨hk, hck, hc⟩
  simp only at hk hck hc
  refine GoC.seq ?_
  refine GoC.region ?_
  refine GoL.y rfl (Y.lss rfl rfl) ?_
  refine GoL.nil ?_
  refine GoE.then_normal ?_
  refine GoC.seq ?_
  refine GoC.condD rfl (fun h13 => ?_) (fun h13 => ?_)
  · refine GoC.skip ?_
    refine GoE.then_normal ?_
    refine GoC.seq ?_
    refine GoC.block ?_
    refine GoC.seq ?_
    refine GoC.region ?_
    obtain ⟨e, hx⟩ := at_some (show k < xs.length by omega)
    first
      | refine GoL.y rfl (Y.ixRd _ Try.underlying79 Try.sizeOf131 rfl rfl Rd.s rfl (by first | omega | decide)) ?_
      | refine GoL.y rfl (Y.ixRd _ Try.underlying79 Try.sizeOf131 rfl rfl ‹_› rfl (by first | omega | decide)) ?_
    first
      | refine GoL.y rfl (Y.lda Try.isAgg131 rfl Cells.a (by exact Try.sizeOf131)) ?_
      | refine GoL.y rfl (Y.lda Try.isAgg131 rfl (Cells.rd ‹_› ‹_›) (by exact Try.sizeOf131)) ?_
      | refine GoL.y rfl (Y.lda Try.isAgg131 rfl (Cells.rd Rd.s ‹_›) (by exact Try.sizeOf131)) ?_
      | refine GoL.y rfl (Y.lda Try.isAgg131 rfl (Cells.part0 Cells.a rfl) (by exact Try.sizeOf131)) ?_
    refine GoL.does rfl (Does.alloc rfl Try.zeroValue131 rfl) ?_
    rintro _ _ ⟨b7, rfl, rfl⟩
    first
      | refine GoL.does rfl (Does.sta (by exact Try.sizeOf131) rfl rfl rfl (by rfl)) ?_
      | refine GoL.does rfl (Does.stp (by exact Try.sizeOf131) rfl rfl rfl rfl) ?_
    rintro _ _ ⟨rfl, rfl⟩
    refine GoL.nil ?_
    refine GoE.then_normal ?_
    refine GoC.seq ?_
    refine GoC.region ?_
    first
      | refine GoL.y rfl (Y.lda Try.isAgg131 rfl Cells.a (by exact Try.sizeOf131)) ?_
      | refine GoL.y rfl (Y.lda Try.isAgg131 rfl (Cells.rd ‹_› ‹_›) (by exact Try.sizeOf131)) ?_
      | refine GoL.y rfl (Y.lda Try.isAgg131 rfl (Cells.rd Rd.s ‹_›) (by exact Try.sizeOf131)) ?_
      | refine GoL.y rfl (Y.lda Try.isAgg131 rfl (Cells.part0 Cells.a rfl) (by exact Try.sizeOf131)) ?_
    refine GoL.does rfl (Does.callE rfl Try.call63 rfl event_Runs (by repeat (first | exact Ent.nil | (apply Ent.cons; · repeat (first | exact Take.here | apply Take.there)) | apply Ent.opt0 | apply Ent.opt1 | apply Ent.void | apply Ent.emp0 | apply Ent.two | (apply Ent.allV; · exact sl_void) | (apply Ent.allM; · exact fun _ => sl_void) | apply Ent.f1 rfl | apply Ent.f2 rfl | apply Ent.f3 rfl | apply Ent.f4 rfl | apply Ent.f10 rfl | apply Ent.grp | assumption | exact trivial | rfl | omega))) ?_
    rintro _ _ ⟨⟨⟩, -, rfl, rfl⟩
    refine GoL.y rfl (Y.move rfl) ?_
    refine GoL.y rfl (Y.extract rfl rfl) ?_
    refine GoL.y rfl (Y.extract rfl rfl) ?_
    refine GoL.y rfl (Y.assign rfl) ?_
    refine GoL.y rfl (Y.assign rfl) ?_
    refine GoL.nil ?_
    refine GoE.then_normal ?_
    refine GoC.seq ?_
    refine GoC.region ?_
    first
      | refine GoL.y rfl (Y.fieldAddr0 1 3 Try.underlying131 rfl Try.sizeOf3 rfl) ?_
      | refine GoL.y rfl (Y.fieldAddr 1 3 Try.underlying131 rfl Try.sizeOf3 rfl) ?_
    first
      | refine GoL.y rfl (Y.load Try.isAgg3 rfl (Cell.a (by rfl))) ?_
      | refine GoL.y rfl (Y.load Try.isAgg3 rfl (Cell.rd0 Rd.s ‹_› (by rfl))) ?_
      | refine GoL.y rfl (Y.load Try.isAgg3 rfl (Cell.rd Rd.s ‹_› (by rfl))) ?_
      | refine GoL.y rfl (Y.load Try.isAgg3 rfl (Cell.ao (by rfl))) ?_
      | refine GoL.y rfl (Y.load Try.isAgg3 rfl (Cell.az (by rfl))) ?_
      | refine GoL.y rfl (Y.load Try.isAgg3 rfl (Cell.a ‹_›)) ?_
      | refine GoL.y rfl (Y.load Try.isAgg3 rfl (Cell.rd0 ‹_› ‹_› (by rfl))) ?_
      | refine GoL.y rfl (Y.load Try.isAgg3 rfl (Cell.rd ‹_› ‹_› (by rfl))) ?_
    refine GoL.y rfl (Y.move rfl) ?_
    refine GoL.y rfl (Y.eql rfl rfl) ?_
    refine GoL.y rfl (Y.move rfl) ?_
    first
      | apply GoL.segAD 7 32 25 [25, 26, 27, 28, 29, 30, 31, 32] rfl
      | apply GoL.segA 7 32 25 [25, 26, 27, 28, 29, 30, 31, 32] rfl
    · intro h25
      refine GoL.yg rfl rfl rfl (Y.move rfl) ?_
      refine GoL.yg rfl rfl rfl (Y.move rfl) ?_
      first
        | apply GoL.segOD 4 31 27 [27, 28, 29, 30, 31] rfl
        | apply GoL.segO 4 31 27 [27, 28, 29, 30, 31] rfl
      · intro h27
        first
          | refine GoL.yg rfl rfl rfl (Y.fieldAddr0 2 3 Try.underlying131 rfl Try.sizeOf3 rfl) ?_
          | refine GoL.yg rfl rfl rfl (Y.fieldAddr 2 3 Try.underlying131 rfl Try.sizeOf3 rfl) ?_
        first
          | refine GoL.yg rfl rfl rfl (Y.load Try.isAgg3 rfl (Cell.a (by rfl))) ?_
          | refine GoL.yg rfl rfl rfl (Y.load Try.isAgg3 rfl (Cell.rd0 Rd.s ‹_› (by rfl))) ?_
          | refine GoL.yg rfl rfl rfl (Y.load Try.isAgg3 rfl (Cell.rd Rd.s ‹_› (by rfl))) ?_
          | refine GoL.yg rfl rfl rfl (Y.load Try.isAgg3 rfl (Cell.ao (by rfl))) ?_
          | refine GoL.yg rfl rfl rfl (Y.load Try.isAgg3 rfl (Cell.az (by rfl))) ?_
          | refine GoL.yg rfl rfl rfl (Y.load Try.isAgg3 rfl (Cell.a ‹_›)) ?_
          | refine GoL.yg rfl rfl rfl (Y.load Try.isAgg3 rfl (Cell.rd0 ‹_› ‹_› (by rfl))) ?_
          | refine GoL.yg rfl rfl rfl (Y.load Try.isAgg3 rfl (Cell.rd ‹_› ‹_› (by rfl))) ?_
        refine GoL.yg rfl rfl rfl (Y.gtr rfl rfl) ?_
        refine GoL.yg rfl rfl rfl (Y.pickF rfl rfl) ?_
        refine GoL.nil ?_
        refine GoE.seg (by repeat (first | exact Top.base | refine Top.cons rfl ?_)) rfl (by first | exact fun _ h => h | exact Ent.kept (by repeat (first | exact Ent.nil | (apply Ent.cons; · repeat (first | exact Take.here | apply Take.there)) | apply Ent.opt0 | apply Ent.opt1 | apply Ent.void | apply Ent.emp0 | apply Ent.two | (apply Ent.allV; · exact sl_void) | (apply Ent.allM; · exact fun _ => sl_void) | apply Ent.f1 rfl | apply Ent.f2 rfl | apply Ent.f3 rfl | apply Ent.f4 rfl | apply Ent.f10 rfl | apply Ent.grp | assumption | exact trivial | rfl | omega)))
      · intro h27
        refine GoL.skip rfl rfl rfl rfl ?_
        refine GoL.skip rfl rfl rfl rfl ?_
        refine GoL.skip rfl rfl rfl rfl ?_
        refine GoL.yg rfl rfl rfl (Y.pickT rfl rfl) ?_
        refine GoL.nil ?_
        refine GoE.seg (by repeat (first | exact Top.base | refine Top.cons rfl ?_)) rfl (by first | exact fun _ h => h | exact Ent.kept (by repeat (first | exact Ent.nil | (apply Ent.cons; · repeat (first | exact Take.here | apply Take.there)) | apply Ent.opt0 | apply Ent.opt1 | apply Ent.void | apply Ent.emp0 | apply Ent.two | (apply Ent.allV; · exact sl_void) | (apply Ent.allM; · exact fun _ => sl_void) | apply Ent.f1 rfl | apply Ent.f2 rfl | apply Ent.f3 rfl | apply Ent.f4 rfl | apply Ent.f10 rfl | apply Ent.grp | assumption | exact trivial | rfl | omega)))
      refine GoL.y rfl (Y.pickT rfl rfl) ?_
      refine GoL.nil ?_
      refine GoE.seg (by repeat (first | exact Top.base | refine Top.cons rfl ?_)) rfl (by first | exact fun _ h => h | exact Ent.kept (by repeat (first | exact Ent.nil | (apply Ent.cons; · repeat (first | exact Take.here | apply Take.there)) | apply Ent.opt0 | apply Ent.opt1 | apply Ent.void | apply Ent.emp0 | apply Ent.two | (apply Ent.allV; · exact sl_void) | (apply Ent.allM; · exact fun _ => sl_void) | apply Ent.f1 rfl | apply Ent.f2 rfl | apply Ent.f3 rfl | apply Ent.f4 rfl | apply Ent.f10 rfl | apply Ent.grp | assumption | exact trivial | rfl | omega)))
    · intro h25
      refine GoL.skip rfl rfl rfl rfl ?_
      refine GoL.skip rfl rfl rfl rfl ?_
      refine GoL.skip rfl rfl rfl rfl ?_
      refine GoL.skip rfl rfl rfl rfl ?_
      refine GoL.skip rfl rfl rfl rfl ?_
      refine GoL.skip rfl rfl rfl rfl ?_
      refine GoL.y rfl (Y.pickF rfl rfl) ?_
      refine GoL.nil ?_
      refine GoE.seg (by repeat (first | exact Top.base | refine Top.cons rfl ?_)) rfl (by first | exact fun _ h => h | exact Ent.kept (by repeat (first | exact Ent.nil | (apply Ent.cons; · repeat (first | exact Take.here | apply Take.there)) | apply Ent.opt0 | apply Ent.opt1 | apply Ent.void | apply Ent.emp0 | apply Ent.two | (apply Ent.allV; · exact sl_void) | (apply Ent.allM; · exact fun _ => sl_void) | apply Ent.f1 rfl | apply Ent.f2 rfl | apply Ent.f3 rfl | apply Ent.f4 rfl | apply Ent.f10 rfl | apply Ent.grp | assumption | exact trivial | rfl | omega)))
    refine GoL.nil ?_
    refine GoE.then_normal ?_
    refine GoC.cond rfl (fun h32 => ?_) (fun h32 => ?_)
    · refine GoC.region ?_
      refine GoL.y rfl (Y.move rfl) ?_
      refine GoL.y rfl (Y.valW (Y.add rfl rfl (by dsimp only; omega)) (show (c : Int) + 1 = ((c + 1 : Nat) : Int) from by omega)) ?_
      refine GoL.y rfl (Y.assign rfl) ?_
      refine GoL.nil ?_
      refine GoE.block_normal (GoE.then_normal ?_)
      refine GoC.region ?_
      first
        | refine GoL.y rfl (Y.inc rfl rfl (by omega)) ?_
        | refine GoL.y rfl (Y.add rfl rfl (by omega)) ?_
      refine GoL.y rfl (Y.move rfl) ?_
      refine GoL.nil ?_
      refine GoE.againK (k + 1, c + 1) (by repeat (first | exact Top.base | refine Top.cons rfl ?_)) rfl ?_ ?_ ?_ ?_
      · show xs.length - (k + 1) < xs.length - k; omega
      · exact ⟨by show k + 1 ≤ _; omega, by show c + 1 ≤ k + 1; omega, by rw [told_yes hx h32, ← hc]⟩
      · exact ⟨rfl, rfl, trivial⟩
      · exact fun w s => Ent.kept (by repeat (first | exact Ent.nil | (apply Ent.cons; · repeat (first | exact Take.here | apply Take.there)) | apply Ent.opt0 | apply Ent.opt1 | apply Ent.void | apply Ent.emp0 | apply Ent.two | (apply Ent.allV; · exact sl_void) | (apply Ent.allM; · exact fun _ => sl_void) | apply Ent.f1 rfl | apply Ent.f2 rfl | apply Ent.f3 rfl | apply Ent.f4 rfl | apply Ent.f10 rfl | apply Ent.grp | assumption | exact trivial | rfl | omega)) w s
    · refine GoC.skip ?_
      refine GoE.block_normal (GoE.then_normal ?_)
      refine GoC.region ?_
      first
        | refine GoL.y rfl (Y.inc rfl rfl (by omega)) ?_
        | refine GoL.y rfl (Y.add rfl rfl (by omega)) ?_
      refine GoL.y rfl (Y.move rfl) ?_
      refine GoL.nil ?_
      refine GoE.againK (k + 1, c) (by repeat (first | exact Top.base | refine Top.cons rfl ?_)) rfl ?_ ?_ ?_ ?_
      · show xs.length - (k + 1) < xs.length - k; omega
      · exact ⟨by show k + 1 ≤ _; omega, by show c ≤ k + 1; omega, by rw [told_no hx h32, ← hc]⟩
      · exact ⟨rfl, rfl, trivial⟩
      · exact fun w s => Ent.kept (by repeat (first | exact Ent.nil | (apply Ent.cons; · repeat (first | exact Take.here | apply Take.there)) | apply Ent.opt0 | apply Ent.opt1 | apply Ent.void | apply Ent.emp0 | apply Ent.two | (apply Ent.allV; · exact sl_void) | (apply Ent.allM; · exact fun _ => sl_void) | apply Ent.f1 rfl | apply Ent.f2 rfl | apply Ent.f3 rfl | apply Ent.f4 rfl | apply Ent.f10 rfl | apply Ent.grp | assumption | exact trivial | rfl | omega)) w s
  · obtain rfl : k = xs.length := by omega
    rw [List.take_length] at hc
    subst hc
    refine GoC.exit ?_
    refine GoE.then_exit (GoE.then_exit (GoE.block_here (GoE.then_normal ?_)))
    refine GoC.seq ?_
    refine GoC.region ?_
    refine GoL.y rfl (Y.move rfl) ?_
    refine GoL.y rfl (Y.assign rfl) ?_
    refine GoL.nil ?_
    refine GoE.then_normal ?_
    refine GoC.ret ?_
    refine GoE.ret1 rfl rfl fun w s => ⟨(), ?_, trivial, finE (by repeat (first | exact Ent.nil | (apply Ent.cons; · repeat (first | exact Take.here | apply Take.there)) | apply Ent.opt0 | apply Ent.opt1 | apply Ent.void | apply Ent.emp0 | apply Ent.two | (apply Ent.allV; · exact sl_void) | (apply Ent.allM; · exact fun _ => sl_void) | apply Ent.f1 rfl | apply Ent.f2 rfl | apply Ent.f3 rfl | apply Ent.f4 rfl | apply Ent.f10 rfl | apply Ent.grp | assumption | exact trivial | rfl | omega)) s⟩
    rfl

set_option maxRecDepth 20000 in
theorem rows_Where {W : World} {b : Nat} {rs : List (List Int)} {t : Int} (hl : rs.length ≤ 64 ∧ ∀ r ∈ rs, r.length ≤ 1000000000) : Fn Try.prog W 33 [ptr b, .int .i64 t] [rwsH b rs] Unit (fun _ => .tuple #[.int .i64 (whereFrom t rs 0).1, .bool (whereFrom t rs 0).2]) (fun _ => True) (fun _ => [rwsH b rs]) := by
  refine Fn.intro (N := 35) Try.func33 rfl Try.ntmps33 rfl fun F => ?_
  show GoC _ _ _ _ _ _ [rwsH b rs, F]
  refine GoC.o2 (C := rwsH b rs) (by repeat (first | exact Take.here | apply Take.there)) rfl ?_
  rintro v xs hxs
  have hxl := map_len hxs
  refine GoC.seq ?_
  refine GoC.region ?_
  refine GoL.y rfl (Y.assign rfl) ?_
  refine GoL.y rfl (Y.assign rfl) ?_
  refine GoL.nil ?_
  refine GoE.then_normal ?_
  refine GoC.seq ?_
  refine GoC.seq ?_
  refine GoC.region ?_
  refine GoL.y rfl (Y.move rfl) ?_
  refine GoL.y rfl (Y.eqPtrNil Try.underlying75 rfl rfl) ?_
  refine GoL.nil ?_
  refine GoE.then_normal ?_
  refine GoC.condF rfl ?_
  refine GoC.skip ?_
  refine GoE.then_normal ?_
  refine GoC.seq ?_
  refine GoC.seq ?_
  refine GoC.region ?_
  refine GoL.y rfl (Y.move rfl) ?_
  refine GoL.y rfl (Y.nilCheck rfl) ?_
  refine GoL.y rfl (Y.fieldAddrZ 126 Try.underlying128 rfl Try.sizeOf126 rfl) ?_
  first
    | refine GoL.y rfl (Y.load Try.isAgg126 rfl (Cell.a (by rfl))) ?_
    | refine GoL.y rfl (Y.load Try.isAgg126 rfl (Cell.rd0 Rd.s ‹_› (by rfl))) ?_
    | refine GoL.y rfl (Y.load Try.isAgg126 rfl (Cell.rd Rd.s ‹_› (by rfl))) ?_
    | refine GoL.y rfl (Y.load Try.isAgg126 rfl (Cell.ao (by rfl))) ?_
    | refine GoL.y rfl (Y.load Try.isAgg126 rfl (Cell.az (by rfl))) ?_
    | refine GoL.y rfl (Y.load Try.isAgg126 rfl (Cell.a ‹_›)) ?_
    | refine GoL.y rfl (Y.load Try.isAgg126 rfl (Cell.rd0 ‹_› ‹_› (by rfl))) ?_
    | refine GoL.y rfl (Y.load Try.isAgg126 rfl (Cell.rd ‹_› ‹_› (by rfl))) ?_
  first
    | refine GoL.y rfl (Y.lenRd Try.underlying126 rfl Rd.s) ?_
    | refine GoL.y rfl (Y.lenRd Try.underlying126 rfl ‹_›) ?_
    | refine GoL.y rfl (Y.lenSlice Try.underlying126 rfl) ?_
  refine GoL.y rfl (Y.move rfl) ?_
  refine GoL.nil ?_
  refine GoE.then_normal ?_
  refine GoC.block ?_
  refine GoC.loopK (X := Nat) [4, 5, 6, 7, 9, 17, 18, 19, 20, 21, 22, 23, 24, 25, 26, 27, 28, 29, 30, 31, 32, 33, 34] (fun z => rs.length - z) (fun z => z ≤ rs.length ∧ whereFrom t rs 0 = whereFrom t (rs.drop z) z) (fun z => [(17, some (.int .i64 (z : Int)))]) (fun z => [arr b 0 [v], sl ptrE 1 v xs, allH (fun x : Nat × List Int => dqH x.1 x.2) xs, F]) 0 ?_ ?_ ?_ ?_
  · exact ⟨Nat.zero_le _, by rw [List.drop_zero]⟩
  · exact ⟨rfl, trivial⟩
  · exact fun w s => Ent.kept (by repeat (first | exact Ent.nil | (apply Ent.cons; · repeat (first | exact Take.here | apply Take.there)) | apply Ent.opt0 | apply Ent.opt1 | apply Ent.void | apply Ent.emp0 | apply Ent.two | (apply Ent.allV; · exact sl_void) | (apply Ent.allM; · exact fun _ => sl_void) | apply Ent.f1 rfl | apply Ent.f2 rfl | apply Ent.f3 rfl | apply Ent.f4 rfl | apply Ent.f10 rfl | apply Ent.grp | assumption | exact trivial | rfl | omega)) w s
  rintro n ⟨hn, hw⟩
  refine GoC.seq ?_
  refine GoC.region ?_
  refine GoL.y rfl (Y.lss rfl rfl) ?_
  refine GoL.nil ?_
  refine GoE.then_normal ?_
  refine GoC.seq ?_
  refine GoC.condD rfl (fun h18 => ?_) (fun h18 => ?_)
  · refine GoC.skip ?_
    refine GoE.then_normal ?_
    refine GoC.seq ?_
    refine GoC.block ?_
    refine GoC.seq ?_
    refine GoC.region ?_
    obtain ⟨x, hx⟩ := at_some (show n < xs.length by omega)
    have hx2 := map_get hxs hx
    have hxl2 := hl.2 x.2 (List.mem_of_getElem? hx2)
    refine GoL.y rfl (Y.move rfl) ?_
    first
      | refine GoL.y rfl (Y.ixRd _ Try.underlying126 Try.sizeOf129 rfl rfl Rd.s rfl (by first | omega | decide)) ?_
      | refine GoL.y rfl (Y.ixRd _ Try.underlying126 Try.sizeOf129 rfl rfl ‹_› rfl (by first | omega | decide)) ?_
    first
      | refine GoL.y rfl (Y.load Try.isAgg129 rfl (Cell.a (by rfl))) ?_
      | refine GoL.y rfl (Y.load Try.isAgg129 rfl (Cell.rd0 Rd.s ‹_› (by rfl))) ?_
      | refine GoL.y rfl (Y.load Try.isAgg129 rfl (Cell.rd Rd.s ‹_› (by rfl))) ?_
      | refine GoL.y rfl (Y.load Try.isAgg129 rfl (Cell.ao (by rfl))) ?_
      | refine GoL.y rfl (Y.load Try.isAgg129 rfl (Cell.az (by rfl))) ?_
      | refine GoL.y rfl (Y.load Try.isAgg129 rfl (Cell.a ‹_›)) ?_
      | refine GoL.y rfl (Y.load Try.isAgg129 rfl (Cell.rd0 ‹_› ‹_› (by rfl))) ?_
      | refine GoL.y rfl (Y.load Try.isAgg129 rfl (Cell.rd ‹_› ‹_› (by rfl))) ?_
    refine GoL.y rfl (Y.assign rfl) ?_
    refine GoL.y rfl (Y.assign rfl) ?_
    refine GoL.nil ?_
    refine GoE.then_normal ?_
    refine GoC.seq ?_
    refine GoC.region ?_
    refine GoL.fr (by repeat (first | exact Take.here | apply Take.there)) (all_out (f := fun x : Nat × List Int => dqH x.1 x.2) hx) ?_
    refine GoL.y rfl (Y.move rfl) ?_
    refine GoL.does rfl (Does.callE rfl Try.call62 rfl (deque_All (l := x.2) (hl.2 x.2 (List.mem_of_getElem? hx2))) (by repeat (first | exact Ent.nil | (apply Ent.cons; · repeat (first | exact Take.here | apply Take.there)) | apply Ent.opt0 | apply Ent.opt1 | apply Ent.void | apply Ent.emp0 | apply Ent.two | (apply Ent.allV; · exact sl_void) | (apply Ent.allM; · exact fun _ => sl_void) | apply Ent.f1 rfl | apply Ent.f2 rfl | apply Ent.f3 rfl | apply Ent.f4 rfl | apply Ent.f10 rfl | apply Ent.grp | assumption | exact trivial | rfl | omega))) ?_
    rintro _ _ ⟨u23, -, rfl, rfl⟩
    refine GoL.to (A := allH (fun x : Nat × List Int => dqH x.1 x.2) xs) (by repeat (first | exact Ent.nil | (apply Ent.cons; · repeat (first | exact Take.here | apply Take.there)) | apply Ent.opt0 | apply Ent.opt1 | apply Ent.void | apply Ent.emp0 | apply Ent.two | (apply Ent.allV; · exact sl_void) | (apply Ent.allM; · exact fun _ => sl_void) | apply Ent.f1 rfl | apply Ent.f2 rfl | apply Ent.f3 rfl | apply Ent.f4 rfl | apply Ent.f10 rfl | apply Ent.grp | assumption | exact trivial | rfl | omega)) (all_back (f := fun x : Nat × List Int => dqH x.1 x.2) hx) ?_
    first
      | refine GoL.y rfl (Y.lenRd Try.underlying23 rfl Rd.s) ?_
      | refine GoL.y rfl (Y.lenRd Try.underlying23 rfl ‹_›) ?_
      | refine GoL.y rfl (Y.lenSlice Try.underlying23 rfl) ?_
    refine GoL.y rfl (Y.move rfl) ?_
    refine GoL.nil ?_
    refine GoE.then_normal ?_
    refine GoC.block ?_
    refine GoC.loopK (X := Nat) [4, 5, 9, 25, 26, 27, 28, 29, 30, 31, 32, 33] (fun z => x.2.length - z) (fun z => z ≤ x.2.length ∧ t ∉ x.2.take z) (fun z => [(25, some (.int .i64 (z : Int)))]) (fun z => [sl intE 1 u23 x.2, arr b 0 [v], sl ptrE 1 v xs, allH (fun x : Nat × List Int => dqH x.1 x.2) xs, F]) 0 ?_ ?_ ?_ ?_
    · exact ⟨Nat.zero_le _, by simp⟩
    · exact ⟨rfl, trivial⟩
    · exact fun w s => Ent.kept (by repeat (first | exact Ent.nil | (apply Ent.cons; · repeat (first | exact Take.here | apply Take.there)) | apply Ent.opt0 | apply Ent.opt1 | apply Ent.void | apply Ent.emp0 | apply Ent.two | (apply Ent.allV; · exact sl_void) | (apply Ent.allM; · exact fun _ => sl_void) | apply Ent.f1 rfl | apply Ent.f2 rfl | apply Ent.f3 rfl | apply Ent.f4 rfl | apply Ent.f10 rfl | apply Ent.grp | assumption | exact trivial | rfl | omega)) w s
    rintro j ⟨hj, hjt⟩
    refine GoC.seq ?_
    refine GoC.region ?_
    refine GoL.y rfl (Y.lss rfl rfl) ?_
    refine GoL.nil ?_
    refine GoE.then_normal ?_
    refine GoC.seq ?_
    refine GoC.condD rfl (fun h26 => ?_) (fun h26 => ?_)
    · refine GoC.skip ?_
      refine GoE.then_normal ?_
      refine GoC.seq ?_
      refine GoC.block ?_
      refine GoC.seq ?_
      refine GoC.region ?_
      obtain ⟨y, hy⟩ := at_some (show j < x.2.length by omega)
      first
        | refine GoL.y rfl (Y.ixRd _ Try.underlying23 Try.sizeOf3 rfl rfl Rd.s rfl (by first | omega | decide)) ?_
        | refine GoL.y rfl (Y.ixRd _ Try.underlying23 Try.sizeOf3 rfl rfl ‹_› rfl (by first | omega | decide)) ?_
      refine GoL.y rfl (Y.load Try.isAgg3 rfl (Cell.rd0 Rd.s hy rfl)) ?_
      refine GoL.y rfl (Y.assign rfl) ?_
      refine GoL.nil ?_
      refine GoE.then_normal ?_
      refine GoC.seq ?_
      refine GoC.region ?_
      refine GoL.y rfl (Y.move rfl) ?_
      refine GoL.y rfl (Y.move rfl) ?_
      refine GoL.y rfl (Y.eql rfl rfl) ?_
      refine GoL.nil ?_
      refine GoE.then_normal ?_
      refine GoC.condD rfl (fun h31 => ?_) (fun h31 => ?_)
      · rw [hw, where_yes hx2 (by rw [← h31]; exact List.mem_of_getElem? hy)]
        refine GoC.seq ?_
        refine GoC.region ?_
        refine GoL.y rfl (Y.move rfl) ?_
        refine GoL.y rfl (Y.assign rfl) ?_
        refine GoL.y rfl (Y.assign rfl) ?_
        refine GoL.nil ?_
        refine GoE.then_normal ?_
        refine GoC.ret ?_
        refine GoE.block_ret (GoE.then_ret (GoE.then_ret (GoE.block_ret (GoE.block_ret (GoE.then_ret (GoE.then_ret (GoE.block_ret (GoE.then_ret ?_))))))))
        refine GoE.ret2 rfl rfl rfl fun w s => ⟨(), ?_, trivial, finE (by repeat (first | exact Ent.nil | (apply Ent.cons; · repeat (first | exact Take.here | apply Take.there)) | apply Ent.opt0 | apply Ent.opt1 | apply Ent.void | apply Ent.emp0 | apply Ent.two | (apply Ent.allV; · exact sl_void) | (apply Ent.allM; · exact fun _ => sl_void) | apply Ent.f1 rfl | apply Ent.f2 rfl | apply Ent.f3 rfl | apply Ent.f4 rfl | apply Ent.f10 rfl | apply Ent.grp | assumption | exact trivial | rfl | omega)) s⟩
        rfl
      · refine GoC.skip ?_
        refine GoE.block_normal (GoE.then_normal ?_)
        refine GoC.region ?_
        first
          | refine GoL.y rfl (Y.inc rfl rfl (by omega)) ?_
          | refine GoL.y rfl (Y.add rfl rfl (by omega)) ?_
        refine GoL.y rfl (Y.move rfl) ?_
        refine GoL.nil ?_
        refine GoE.againK (j + 1) (by repeat (first | exact Top.base | refine Top.cons rfl ?_)) rfl ?_ ?_ ?_ ?_
        · omega
        · exact ⟨by omega, by rw [take_snoc hy, List.mem_append]; rintro (h | h); exact hjt h; exact h31 (List.mem_singleton.1 h).symm⟩
        · exact ⟨rfl, trivial⟩
        · exact fun w s => Ent.kept (by repeat (first | exact Ent.nil | (apply Ent.cons; · repeat (first | exact Take.here | apply Take.there)) | apply Ent.opt0 | apply Ent.opt1 | apply Ent.void | apply Ent.emp0 | apply Ent.two | (apply Ent.allV; · exact sl_void) | (apply Ent.allM; · exact fun _ => sl_void) | apply Ent.f1 rfl | apply Ent.f2 rfl | apply Ent.f3 rfl | apply Ent.f4 rfl | apply Ent.f10 rfl | apply Ent.grp | assumption | exact trivial | rfl | omega)) w s
    · obtain rfl : j = x.2.length := by omega
      rw [List.take_length] at hjt
      refine GoC.exit ?_
      refine GoE.then_exit (GoE.then_exit (GoE.block_here (GoE.block_normal (GoE.then_normal ?_))))
      refine GoC.region ?_
      first
        | refine GoL.y rfl (Y.inc rfl rfl (by omega)) ?_
        | refine GoL.y rfl (Y.add rfl rfl (by omega)) ?_
      refine GoL.y rfl (Y.move rfl) ?_
      refine GoL.nil ?_
      refine GoE.againK (n + 1) (by repeat (first | exact Top.base | refine Top.cons rfl ?_)) rfl ?_ ?_ ?_ ?_
      · omega
      · exact ⟨by omega, by rw [hw, where_no hx2 hjt]⟩
      · exact ⟨rfl, trivial⟩
      · exact fun w s => Ent.kept (by repeat (first | exact Ent.nil | (apply Ent.cons; · repeat (first | exact Take.here | apply Take.there)) | apply Ent.opt0 | apply Ent.opt1 | apply Ent.void | apply Ent.emp0 | apply Ent.two | (apply Ent.allV; · exact sl_void) | (apply Ent.allM; · exact fun _ => sl_void) | apply Ent.f1 rfl | apply Ent.f2 rfl | apply Ent.f3 rfl | apply Ent.f4 rfl | apply Ent.f10 rfl | apply Ent.grp | assumption | exact trivial | rfl | omega)) w s
  · obtain rfl : n = rs.length := by omega
    rw [hw, where_end (Nat.le_refl _)]
    refine GoC.exit ?_
    refine GoE.then_exit (GoE.then_exit (GoE.block_here (GoE.then_normal ?_)))
    refine GoC.seq ?_
    refine GoC.region ?_
    refine GoL.y rfl (Y.assign rfl) ?_
    refine GoL.y rfl (Y.assign rfl) ?_
    refine GoL.nil ?_
    refine GoE.then_normal ?_
    refine GoC.ret ?_
    refine GoE.ret2 rfl rfl rfl fun w s => ⟨(), ?_, trivial, finE (by repeat (first | exact Ent.nil | (apply Ent.cons; · repeat (first | exact Take.here | apply Take.there)) | apply Ent.opt0 | apply Ent.opt1 | apply Ent.void | apply Ent.emp0 | apply Ent.two | (apply Ent.allV; · exact sl_void) | (apply Ent.allM; · exact fun _ => sl_void) | apply Ent.f1 rfl | apply Ent.f2 rfl | apply Ent.f3 rfl | apply Ent.f4 rfl | apply Ent.f10 rfl | apply Ent.grp | assumption | exact trivial | rfl | omega)) s⟩
    rfl

set_option maxRecDepth 20000 in
theorem place_add {W : World} {b n : Nat} {slot kind at_ : Int} {v : Value} {ys : List Plc} (hl : ys.length + n ≤ 1000000000) : Fn Try.prog W 34 [ptr b, .int .i64 (n : Int), .int .i64 kind, .int .i64 at_] [arr b 0 [.int .i64 slot, v], sl plcE 2 v ys] Value (fun _ => .tuple #[]) (fun _ => True) (fun u => [arr b 0 [.int .i64 slot, u], sl plcE 2 u (ys ++ List.replicate n ⟨kind, at_⟩)]) := by
  refine Fn.intro (N := 24) Try.func34 rfl Try.ntmps34 rfl fun F => ?_
  show GoC _ _ _ _ _ _ [arr b 0 [.int .i64 slot, v], sl plcE 2 v ys, F]
  refine GoC.seq ?_
  refine GoC.region ?_
  refine GoL.y rfl (Y.move rfl) ?_
  refine GoL.y rfl (Y.move rfl) ?_
  refine GoL.nil ?_
  refine GoE.then_normal ?_
  refine GoC.block ?_
  refine GoC.loopK (X := Nat × Value) [9, 10, 11, 12, 13, 14, 15, 16, 17, 18, 19, 20, 21, 22, 23] (fun z => n - z.1) (fun z => z.1 ≤ n) (fun z => [(9, some (.int .i64 (z.1 : Int)))]) (fun z => [arr b 0 [.int .i64 slot, z.2], sl plcE 2 z.2 (ys ++ List.replicate z.1 ⟨kind, at_⟩), F]) (0, v) ?_ ?_ ?_ ?_
  · exact Nat.zero_le _
  · exact ⟨rfl, trivial⟩
  · show ∀ w, Sat _ w _ → Sat _ w (seps [_, sl plcE 2 v (ys ++ []), F])
    rw [List.append_nil]
    exact fun w s => Ent.kept (by repeat (first | exact Ent.nil | (apply Ent.cons; · repeat (first | exact Take.here | apply Take.there)) | apply Ent.opt0 | apply Ent.opt1 | apply Ent.void | apply Ent.emp0 | apply Ent.two | (apply Ent.allV; · exact sl_void) | (apply Ent.allM; · exact fun _ => sl_void) | apply Ent.f1 rfl | apply Ent.f2 rfl | apply Ent.f3 rfl | apply Ent.f4 rfl | apply Ent.f10 rfl | apply Ent.grp | assumption | exact trivial | rfl | omega)) w s
  rintro ⟨j, u⟩ hj
  simp only at hj
  refine GoC.seq ?_
  refine GoC.region ?_
  refine GoL.y rfl (Y.lss rfl rfl) ?_
  refine GoL.nil ?_
  refine GoE.then_normal ?_
  refine GoC.seq ?_
  refine GoC.condD rfl (fun h10 => ?_) (fun h10 => ?_)
  · refine GoC.skip ?_
    refine GoE.then_normal ?_
    refine GoC.seq ?_
    refine GoC.block ?_
    refine GoC.region ?_
    refine GoL.y rfl (Y.move rfl) ?_
    refine GoL.y rfl (Y.move rfl) ?_
    refine GoL.y rfl (Y.nilCheck rfl) ?_
    first
      | refine GoL.y rfl (Y.fieldAddr0 1 37 Try.underlying73 rfl Try.sizeOf37 rfl) ?_
      | refine GoL.y rfl (Y.fieldAddr 1 37 Try.underlying73 rfl Try.sizeOf37 rfl) ?_
    first
      | refine GoL.y rfl (Y.load Try.isAgg37 rfl (Cell.a (by rfl))) ?_
      | refine GoL.y rfl (Y.load Try.isAgg37 rfl (Cell.rd0 Rd.s ‹_› (by rfl))) ?_
      | refine GoL.y rfl (Y.load Try.isAgg37 rfl (Cell.rd Rd.s ‹_› (by rfl))) ?_
      | refine GoL.y rfl (Y.load Try.isAgg37 rfl (Cell.ao (by rfl))) ?_
      | refine GoL.y rfl (Y.load Try.isAgg37 rfl (Cell.az (by rfl))) ?_
      | refine GoL.y rfl (Y.load Try.isAgg37 rfl (Cell.a ‹_›)) ?_
      | refine GoL.y rfl (Y.load Try.isAgg37 rfl (Cell.rd0 ‹_› ‹_› (by rfl))) ?_
      | refine GoL.y rfl (Y.load Try.isAgg37 rfl (Cell.rd ‹_› ‹_› (by rfl))) ?_
    refine GoL.y rfl (Y.move rfl) ?_
    refine GoL.y rfl (Y.move rfl) ?_
    refine GoL.y rfl (Y.bld2 (fun v1 v2 => [v1, v2]) rfl rfl (by kernel_rfl)) ?_
    refine GoL.does rfl (Does.bsl 70 rfl rfl (by kernel_rfl)) ?_
    rintro _ _ ⟨b19, rfl, rfl⟩
    refine GoL.does rfl (Does.app1 (enc := plcE) (k := 2) (⟨kind, at_⟩ : Plc) rfl Try.underlying37 Try.underlying37 Try.typeInfo70 rfl rfl rfl (by decide) rfl rfl rfl (by repeat (first | exact At.here | refine At.there ?_)) rfl (by repeat (first | exact Take.here | apply Take.there)) (by rw [List.length_append, List.length_replicate]; omega) rfl) ?_
    rintro _ _ ⟨v20, rfl, rfl⟩
    refine GoL.y rfl (Y.nilCheck rfl) ?_
    first
      | refine GoL.y rfl (Y.fieldAddr0 1 37 Try.underlying73 rfl Try.sizeOf37 rfl) ?_
      | refine GoL.y rfl (Y.fieldAddr 1 37 Try.underlying73 rfl Try.sizeOf37 rfl) ?_
    first
      | refine GoL.does rfl (Does.stS Try.sizeOf37 rfl rfl rfl) ?_
      | refine GoL.does rfl (Does.st Try.sizeOf37 rfl rfl rfl rfl) ?_
      | refine GoL.does rfl (Does.stoS Try.sizeOf37 rfl rfl rfl) ?_
      | refine GoL.does rfl (Does.stzS Try.sizeOf37 rfl rfl rfl) ?_
    rintro _ _ ⟨rfl, rfl⟩
    refine GoL.nil ?_
    refine GoE.block_normal (GoE.then_normal ?_)
    refine GoC.region ?_
    first
      | refine GoL.y rfl (Y.inc rfl rfl (by omega)) ?_
      | refine GoL.y rfl (Y.add rfl rfl (by omega)) ?_
    refine GoL.y rfl (Y.move rfl) ?_
    refine GoL.nil ?_
    refine GoE.againK (j + 1, v20) (by repeat (first | exact Top.base | refine Top.cons rfl ?_)) rfl ?_ ?_ ?_ ?_
    · show n - (j + 1) < n - j; omega
    · show j + 1 ≤ n; omega
    · exact ⟨rfl, trivial⟩
    · show ∀ w, Sat _ w _ → Sat _ w (seps [_, sl plcE 2 v20 (ys ++ List.replicate (j + 1) ⟨kind, at_⟩), F])
      rw [List.replicate_succ', ← List.append_assoc]
      exact fun w s => Ent.kept (by repeat (first | exact Ent.nil | (apply Ent.cons; · repeat (first | exact Take.here | apply Take.there)) | apply Ent.opt0 | apply Ent.opt1 | apply Ent.void | apply Ent.emp0 | apply Ent.two | (apply Ent.allV; · exact sl_void) | (apply Ent.allM; · exact fun _ => sl_void) | apply Ent.f1 rfl | apply Ent.f2 rfl | apply Ent.f3 rfl | apply Ent.f4 rfl | apply Ent.f10 rfl | apply Ent.grp | assumption | exact trivial | rfl | omega)) w s
  · obtain rfl : n = j := by omega
    refine GoC.exit ?_
    refine GoE.then_exit (GoE.then_exit (GoE.block_here ?_))
    refine GoE.end0 rfl fun w s => ⟨_, ?_, trivial, finE (by repeat (first | exact Ent.nil | (apply Ent.cons; · repeat (first | exact Take.here | apply Take.there)) | apply Ent.opt0 | apply Ent.opt1 | apply Ent.void | apply Ent.emp0 | apply Ent.two | (apply Ent.allV; · exact sl_void) | (apply Ent.allM; · exact fun _ => sl_void) | apply Ent.f1 rfl | apply Ent.f2 rfl | apply Ent.f3 rfl | apply Ent.f4 rfl | apply Ent.f10 rfl | apply Ent.grp | assumption | exact trivial | rfl | omega)) s⟩
    rfl

set_option maxRecDepth 20000 in
theorem place_proc {W : World} {b c bs br : Nat} {slot p : Int} {v : Value} {ys : List Plc} {l : Lib} (hl : ∀ v ∈ l.vs, v.evs.length ≤ 300000000) (hy : ys.length ≤ 600000000) : Fn Try.prog W 31 [ptr b, ptr c, .int .i64 p] [arr b 0 [.int .i64 slot, v], sl plcE 2 v ys, libX c bs br l] Value (fun _ => .tuple #[]) (fun _ => True) (fun u => [arr b 0 [.int .i64 slot, u], sl plcE 2 u (ys ++ atProc l slot p), libX c bs br l]) := by
  refine Fn.intro (N := 43) Try.func31 rfl Try.ntmps31 rfl fun F => ?_
  show GoC _ _ _ _ _ _ [arr b 0 [.int .i64 slot, v], sl plcE 2 v ys, libX c bs br l, F]
  have hle := look_ev hl p
  have htl := told_le (lookV l p).evs slot
  refine GoC.seq ?_
  refine GoC.region ?_
  refine GoL.y rfl (Y.move rfl) ?_
  refine GoL.y rfl (Y.move rfl) ?_
  refine GoL.does rfl (Does.callE rfl Try.call60 rfl (lib_Look (b := c) (l := l) (p := p) (fun v hv => Nat.le_trans (hl v hv) (by decide))) (by repeat (first | exact Ent.nil | (apply Ent.cons; · repeat (first | exact Take.here | apply Take.there)) | apply Ent.opt0 | apply Ent.opt1 | apply Ent.void | apply Ent.emp0 | apply Ent.two | (apply Ent.allV; · exact sl_void) | (apply Ent.allM; · exact fun _ => sl_void) | apply Ent.f1 rfl | apply Ent.f2 rfl | apply Ent.f3 rfl | apply Ent.f4 rfl | apply Ent.f10 rfl | apply Ent.grp | assumption | exact trivial | rfl | omega))) ?_
  rintro _ _ ⟨u13, -, rfl, rfl⟩
  refine GoL.know (fun w s => Rd.isSl (Rd.sl (by repeat (first | exact At.here | refine At.there ?_))) w s) fun hu13 => ?_
  refine GoL.y rfl (Y.move rfl) ?_
  refine GoL.y rfl (Y.extract rfl rfl) ?_
  refine GoL.y rfl (Y.extract rfl rfl) ?_
  refine GoL.does rfl (Does.alloc rfl Try.zeroValue122 rfl) ?_
  rintro _ _ ⟨b6, rfl, rfl⟩
  refine GoL.does rfl (Does.stp (by exact Try.sizeOf122) rfl rfl (vsl_one hu13) rfl) ?_
  rintro _ _ ⟨rfl, rfl⟩
  refine GoL.y rfl (Y.assign rfl) ?_
  refine GoL.nil ?_
  refine GoE.then_normal ?_
  refine GoC.seq ?_
  refine GoC.seq ?_
  refine GoC.region ?_
  first
    | refine GoL.y rfl (Y.lda Try.isAgg122 rfl Cells.a (by exact Try.sizeOf122)) ?_
    | refine GoL.y rfl (Y.lda Try.isAgg122 rfl (Cells.rd ‹_› ‹_›) (by exact Try.sizeOf122)) ?_
    | refine GoL.y rfl (Y.lda Try.isAgg122 rfl (Cells.rd Rd.s ‹_›) (by exact Try.sizeOf122)) ?_
    | refine GoL.y rfl (Y.lda Try.isAgg122 rfl (Cells.part0 Cells.a rfl) (by exact Try.sizeOf122)) ?_
  refine GoL.does rfl (Does.callE rfl Try.call61 rfl (vessel_Runs (x := lookV l p) hu13) (by repeat (first | exact Ent.nil | (apply Ent.cons; · repeat (first | exact Take.here | apply Take.there)) | apply Ent.opt0 | apply Ent.opt1 | apply Ent.void | apply Ent.emp0 | apply Ent.two | (apply Ent.allV; · exact sl_void) | (apply Ent.allM; · exact fun _ => sl_void) | apply Ent.f1 rfl | apply Ent.f2 rfl | apply Ent.f3 rfl | apply Ent.f4 rfl | apply Ent.f10 rfl | apply Ent.grp | assumption | exact trivial | rfl | omega))) ?_
  rintro _ _ ⟨⟨⟩, -, rfl, rfl⟩
  refine GoL.y rfl (Y.move rfl) ?_
  refine GoL.y rfl (Y.extract rfl rfl) ?_
  refine GoL.y rfl (Y.extract rfl rfl) ?_
  refine GoL.y rfl (Y.assign rfl) ?_
  refine GoL.y rfl (Y.assign rfl) ?_
  refine GoL.nil ?_
  refine GoE.then_normal ?_
  refine GoC.seq ?_
  refine GoC.region ?_
  refine GoL.y rfl (Y.move rfl) ?_
  refine GoL.y rfl (Y.move rfl) ?_
  first
    | apply GoL.segAD 7 29 22 [22, 23, 24, 25, 26, 27, 28, 29] rfl
    | apply GoL.segA 7 29 22 [22, 23, 24, 25, 26, 27, 28, 29] rfl
  · intro h22
    refine GoL.yg rfl rfl rfl (Y.move rfl) ?_
    refine GoL.yg rfl rfl rfl (Y.move rfl) ?_
    refine GoL.yg rfl rfl rfl (Y.nilCheck rfl) ?_
    refine GoL.yg rfl rfl rfl (Y.fieldAddrZ 3 Try.underlying73 rfl Try.sizeOf3 rfl) ?_
    first
      | refine GoL.yg rfl rfl rfl (Y.load Try.isAgg3 rfl (Cell.a (by rfl))) ?_
      | refine GoL.yg rfl rfl rfl (Y.load Try.isAgg3 rfl (Cell.rd0 Rd.s ‹_› (by rfl))) ?_
      | refine GoL.yg rfl rfl rfl (Y.load Try.isAgg3 rfl (Cell.rd Rd.s ‹_› (by rfl))) ?_
      | refine GoL.yg rfl rfl rfl (Y.load Try.isAgg3 rfl (Cell.ao (by rfl))) ?_
      | refine GoL.yg rfl rfl rfl (Y.load Try.isAgg3 rfl (Cell.az (by rfl))) ?_
      | refine GoL.yg rfl rfl rfl (Y.load Try.isAgg3 rfl (Cell.a ‹_›)) ?_
      | refine GoL.yg rfl rfl rfl (Y.load Try.isAgg3 rfl (Cell.rd0 ‹_› ‹_› (by rfl))) ?_
      | refine GoL.yg rfl rfl rfl (Y.load Try.isAgg3 rfl (Cell.rd ‹_› ‹_› (by rfl))) ?_
    refine GoL.yg rfl rfl rfl (Y.eql rfl rfl) ?_
    refine GoL.y rfl (Y.pickT rfl rfl) ?_
    refine GoL.nil ?_
    refine GoE.seg (by repeat (first | exact Top.base | refine Top.cons rfl ?_)) rfl (by first | exact fun _ h => h | exact Ent.kept (by repeat (first | exact Ent.nil | (apply Ent.cons; · repeat (first | exact Take.here | apply Take.there)) | apply Ent.opt0 | apply Ent.opt1 | apply Ent.void | apply Ent.emp0 | apply Ent.two | (apply Ent.allV; · exact sl_void) | (apply Ent.allM; · exact fun _ => sl_void) | apply Ent.f1 rfl | apply Ent.f2 rfl | apply Ent.f3 rfl | apply Ent.f4 rfl | apply Ent.f10 rfl | apply Ent.grp | assumption | exact trivial | rfl | omega)))
  · intro h22
    refine GoL.skip rfl rfl rfl rfl ?_
    refine GoL.skip rfl rfl rfl rfl ?_
    refine GoL.skip rfl rfl rfl rfl ?_
    refine GoL.skip rfl rfl rfl rfl ?_
    refine GoL.skip rfl rfl rfl rfl ?_
    refine GoL.skip rfl rfl rfl rfl ?_
    refine GoL.y rfl (Y.pickF rfl rfl) ?_
    refine GoL.nil ?_
    refine GoE.seg (by repeat (first | exact Top.base | refine Top.cons rfl ?_)) rfl (by first | exact fun _ h => h | exact Ent.kept (by repeat (first | exact Ent.nil | (apply Ent.cons; · repeat (first | exact Take.here | apply Take.there)) | apply Ent.opt0 | apply Ent.opt1 | apply Ent.void | apply Ent.emp0 | apply Ent.two | (apply Ent.allV; · exact sl_void) | (apply Ent.allM; · exact fun _ => sl_void) | apply Ent.f1 rfl | apply Ent.f2 rfl | apply Ent.f3 rfl | apply Ent.f4 rfl | apply Ent.f10 rfl | apply Ent.grp | assumption | exact trivial | rfl | omega)))
  refine GoL.nil ?_
  refine GoE.then_normal ?_
  refine GoC.cond rfl (fun h29 => ?_) (fun h29 => ?_)
  · refine GoC.region ?_
    refine GoL.y rfl (Y.move rfl) ?_
    refine GoL.y rfl (Y.move rfl) ?_
    refine GoL.does rfl (Does.callE rfl Try.call34 rfl (place_add (n := 1) (ys := ys) (by omega)) (by repeat (first | exact Ent.nil | (apply Ent.cons; · repeat (first | exact Take.here | apply Take.there)) | apply Ent.opt0 | apply Ent.opt1 | apply Ent.void | apply Ent.emp0 | apply Ent.two | (apply Ent.allV; · exact sl_void) | (apply Ent.allM; · exact fun _ => sl_void) | apply Ent.f1 rfl | apply Ent.f2 rfl | apply Ent.f3 rfl | apply Ent.f4 rfl | apply Ent.f10 rfl | apply Ent.grp | assumption | exact trivial | rfl | omega))) ?_
    rintro _ _ ⟨u32, -, rfl, rfl⟩
    refine GoL.nil ?_
    refine GoE.then_normal ?_
    refine GoC.draw [arr b 0 [.int .i64 slot, u32]] [0, 1, 1, 1, 1, 1, 1, 2, 0, 3] rfl (by kernel_rfl) ?_
    refine GoK.k rfl (Kept.ok (by repeat (first | exact Kept.nil | exact Take.here | apply Take.there | apply Kept.take))) (Y.move rfl) ?_
    first
      | refine GoK.s rfl (Y.fieldAddr0 2 79 Try.underlying122 rfl Try.sizeOf79 rfl) ?_
      | refine GoK.s rfl (Y.fieldAddr 2 79 Try.underlying122 rfl Try.sizeOf79 rfl) ?_
    first
      | refine GoK.s rfl (Y.load Try.isAgg79 rfl (Cell.a (by rfl))) ?_
      | refine GoK.s rfl (Y.load Try.isAgg79 rfl (Cell.rd0 Rd.s ‹_› (by rfl))) ?_
      | refine GoK.s rfl (Y.load Try.isAgg79 rfl (Cell.rd Rd.s ‹_› (by rfl))) ?_
      | refine GoK.s rfl (Y.load Try.isAgg79 rfl (Cell.ao (by rfl))) ?_
      | refine GoK.s rfl (Y.load Try.isAgg79 rfl (Cell.az (by rfl))) ?_
      | refine GoK.s rfl (Y.load Try.isAgg79 rfl (Cell.a ‹_›)) ?_
      | refine GoK.s rfl (Y.load Try.isAgg79 rfl (Cell.rd0 ‹_› ‹_› (by rfl))) ?_
      | refine GoK.s rfl (Y.load Try.isAgg79 rfl (Cell.rd ‹_› ‹_› (by rfl))) ?_
    refine GoK.s rfl (Y.move rfl) ?_
    refine GoK.s rfl (Y.nilCheck rfl) ?_
    refine GoK.s rfl (Y.fieldAddrZ 3 Try.underlying73 rfl Try.sizeOf3 rfl) ?_
    first
      | refine GoK.s rfl (Y.load Try.isAgg3 rfl (Cell.a (by rfl))) ?_
      | refine GoK.s rfl (Y.load Try.isAgg3 rfl (Cell.rd0 Rd.s ‹_› (by rfl))) ?_
      | refine GoK.s rfl (Y.load Try.isAgg3 rfl (Cell.rd Rd.s ‹_› (by rfl))) ?_
      | refine GoK.s rfl (Y.load Try.isAgg3 rfl (Cell.ao (by rfl))) ?_
      | refine GoK.s rfl (Y.load Try.isAgg3 rfl (Cell.az (by rfl))) ?_
      | refine GoK.s rfl (Y.load Try.isAgg3 rfl (Cell.a ‹_›)) ?_
      | refine GoK.s rfl (Y.load Try.isAgg3 rfl (Cell.rd0 ‹_› ‹_› (by rfl))) ?_
      | refine GoK.s rfl (Y.load Try.isAgg3 rfl (Cell.rd ‹_› ‹_› (by rfl))) ?_
    refine GoK.d2 rfl (Kept.ok (by repeat (first | exact Kept.nil | exact Take.here | apply Take.there | apply Kept.take))) (Does.callE rfl Try.call35 rfl (place_told (A := sl evE 3 u13 (lookV l p).evs) (Rd.sl .here) (by omega)) (by repeat (first | exact Ent.nil | (apply Ent.cons; · repeat (first | exact Take.here | apply Take.there)) | apply Ent.opt0 | apply Ent.opt1 | apply Ent.void | apply Ent.emp0 | apply Ent.two | (apply Ent.allV; · exact sl_void) | (apply Ent.allM; · exact fun _ => sl_void) | apply Ent.f1 rfl | apply Ent.f2 rfl | apply Ent.f3 rfl | apply Ent.f4 rfl | apply Ent.f10 rfl | apply Ent.grp | assumption | exact trivial | rfl | omega))) (by rintro _ _ ⟨⟨⟩, -, rfl, rfl⟩; exact (Kept.ok (by repeat (first | exact Kept.nil | exact Take.here | apply Take.there | apply Kept.take)))) ?_
    rintro _ _ ⟨⟨⟩, -, rfl, rfl⟩
    refine GoK.k rfl (Kept.ok (by repeat (first | exact Kept.nil | exact Take.here | apply Take.there | apply Kept.take))) (Y.move rfl) ?_
    refine GoK.d3 rfl (Does.callE rfl Try.call34 rfl (place_add (ys := ys ++ List.replicate 1 ⟨1, p⟩) (by simp; omega)) (by repeat (first | exact Ent.nil | (apply Ent.cons; · repeat (first | exact Take.here | apply Take.there)) | apply Ent.opt0 | apply Ent.opt1 | apply Ent.void | apply Ent.emp0 | apply Ent.two | (apply Ent.allV; · exact sl_void) | (apply Ent.allM; · exact fun _ => sl_void) | apply Ent.f1 rfl | apply Ent.f2 rfl | apply Ent.f3 rfl | apply Ent.f4 rfl | apply Ent.f10 rfl | apply Ent.grp | assumption | exact trivial | rfl | omega))) ?_
    rintro _ _ ⟨u42, -, rfl, rfl⟩
    refine GoK.nil ?_
    rw [at_yes h29]
    refine GoE.end0 rfl fun w s => ⟨_, ?_, trivial, finE (by repeat (first | exact Ent.nil | (apply Ent.cons; · repeat (first | exact Take.here | apply Take.there)) | apply Ent.opt0 | apply Ent.opt1 | apply Ent.void | apply Ent.emp0 | apply Ent.two | (apply Ent.allV; · exact sl_void) | (apply Ent.allM; · exact fun _ => sl_void) | apply Ent.f1 rfl | apply Ent.f2 rfl | apply Ent.f3 rfl | apply Ent.f4 rfl | apply Ent.f10 rfl | apply Ent.grp | assumption | exact trivial | rfl | omega)) s⟩
    rfl
  · refine GoC.skip ?_
    refine GoE.then_normal ?_
    refine GoC.draw [arr b 0 [.int .i64 slot, v]] [0, 1, 1, 1, 1, 1, 1, 2, 0, 3] rfl (by kernel_rfl) ?_
    refine GoK.k rfl (Kept.ok (by repeat (first | exact Kept.nil | exact Take.here | apply Take.there | apply Kept.take))) (Y.move rfl) ?_
    first
      | refine GoK.s rfl (Y.fieldAddr0 2 79 Try.underlying122 rfl Try.sizeOf79 rfl) ?_
      | refine GoK.s rfl (Y.fieldAddr 2 79 Try.underlying122 rfl Try.sizeOf79 rfl) ?_
    first
      | refine GoK.s rfl (Y.load Try.isAgg79 rfl (Cell.a (by rfl))) ?_
      | refine GoK.s rfl (Y.load Try.isAgg79 rfl (Cell.rd0 Rd.s ‹_› (by rfl))) ?_
      | refine GoK.s rfl (Y.load Try.isAgg79 rfl (Cell.rd Rd.s ‹_› (by rfl))) ?_
      | refine GoK.s rfl (Y.load Try.isAgg79 rfl (Cell.ao (by rfl))) ?_
      | refine GoK.s rfl (Y.load Try.isAgg79 rfl (Cell.az (by rfl))) ?_
      | refine GoK.s rfl (Y.load Try.isAgg79 rfl (Cell.a ‹_›)) ?_
      | refine GoK.s rfl (Y.load Try.isAgg79 rfl (Cell.rd0 ‹_› ‹_› (by rfl))) ?_
      | refine GoK.s rfl (Y.load Try.isAgg79 rfl (Cell.rd ‹_› ‹_› (by rfl))) ?_
    refine GoK.s rfl (Y.move rfl) ?_
    refine GoK.s rfl (Y.nilCheck rfl) ?_
    refine GoK.s rfl (Y.fieldAddrZ 3 Try.underlying73 rfl Try.sizeOf3 rfl) ?_
    first
      | refine GoK.s rfl (Y.load Try.isAgg3 rfl (Cell.a (by rfl))) ?_
      | refine GoK.s rfl (Y.load Try.isAgg3 rfl (Cell.rd0 Rd.s ‹_› (by rfl))) ?_
      | refine GoK.s rfl (Y.load Try.isAgg3 rfl (Cell.rd Rd.s ‹_› (by rfl))) ?_
      | refine GoK.s rfl (Y.load Try.isAgg3 rfl (Cell.ao (by rfl))) ?_
      | refine GoK.s rfl (Y.load Try.isAgg3 rfl (Cell.az (by rfl))) ?_
      | refine GoK.s rfl (Y.load Try.isAgg3 rfl (Cell.a ‹_›)) ?_
      | refine GoK.s rfl (Y.load Try.isAgg3 rfl (Cell.rd0 ‹_› ‹_› (by rfl))) ?_
      | refine GoK.s rfl (Y.load Try.isAgg3 rfl (Cell.rd ‹_› ‹_› (by rfl))) ?_
    refine GoK.d2 rfl (Kept.ok (by repeat (first | exact Kept.nil | exact Take.here | apply Take.there | apply Kept.take))) (Does.callE rfl Try.call35 rfl (place_told (A := sl evE 3 u13 (lookV l p).evs) (Rd.sl .here) (by omega)) (by repeat (first | exact Ent.nil | (apply Ent.cons; · repeat (first | exact Take.here | apply Take.there)) | apply Ent.opt0 | apply Ent.opt1 | apply Ent.void | apply Ent.emp0 | apply Ent.two | (apply Ent.allV; · exact sl_void) | (apply Ent.allM; · exact fun _ => sl_void) | apply Ent.f1 rfl | apply Ent.f2 rfl | apply Ent.f3 rfl | apply Ent.f4 rfl | apply Ent.f10 rfl | apply Ent.grp | assumption | exact trivial | rfl | omega))) (by rintro _ _ ⟨⟨⟩, -, rfl, rfl⟩; exact (Kept.ok (by repeat (first | exact Kept.nil | exact Take.here | apply Take.there | apply Kept.take)))) ?_
    rintro _ _ ⟨⟨⟩, -, rfl, rfl⟩
    refine GoK.k rfl (Kept.ok (by repeat (first | exact Kept.nil | exact Take.here | apply Take.there | apply Kept.take))) (Y.move rfl) ?_
    refine GoK.d3 rfl (Does.callE rfl Try.call34 rfl (place_add (ys := ys) (by omega)) (by repeat (first | exact Ent.nil | (apply Ent.cons; · repeat (first | exact Take.here | apply Take.there)) | apply Ent.opt0 | apply Ent.opt1 | apply Ent.void | apply Ent.emp0 | apply Ent.two | (apply Ent.allV; · exact sl_void) | (apply Ent.allM; · exact fun _ => sl_void) | apply Ent.f1 rfl | apply Ent.f2 rfl | apply Ent.f3 rfl | apply Ent.f4 rfl | apply Ent.f10 rfl | apply Ent.grp | assumption | exact trivial | rfl | omega))) ?_
    rintro _ _ ⟨u42, -, rfl, rfl⟩
    refine GoK.nil ?_
    rw [at_no h29]
    refine GoE.end0 rfl fun w s => ⟨_, ?_, trivial, finE (by repeat (first | exact Ent.nil | (apply Ent.cons; · repeat (first | exact Take.here | apply Take.there)) | apply Ent.opt0 | apply Ent.opt1 | apply Ent.void | apply Ent.emp0 | apply Ent.two | (apply Ent.allV; · exact sl_void) | (apply Ent.allM; · exact fun _ => sl_void) | apply Ent.f1 rfl | apply Ent.f2 rfl | apply Ent.f3 rfl | apply Ent.f4 rfl | apply Ent.f10 rfl | apply Ent.grp | assumption | exact trivial | rfl | omega)) s⟩
    rfl

end Go.SLYtkflpgknieoknaa
