/- Walks of functions, and what they compute. Conditions: none, this text proves no statement. -/
import Derived.Test.YtkflpgknieoknaaProg
import Derived.Test.YtkflpgknieoknaaRi
import Derived.Test.YtkflpgknieoknaaK12
import Derived.KernelRfl
namespace Go.SLYtkflpgknieoknaa
open Go Go.RowKit Go.Proofs

set_option maxRecDepth 20000 in
theorem law18_awake {W : World}  : Fn Try.prog W 7 [] [] Unit (fun _ => .bool true) (fun _ => True) (fun _ => []) := by
  refine Fn.intro (N := 59) Try.func7 rfl Try.ntmps7 rfl fun F => ?_
  show GoC _ _ _ _ _ _ [F]
  refine GoC.seq ?_
  refine GoC.region ?_
  refine GoL.y rfl (Y.assign rfl) ?_
  refine GoL.nil ?_
  refine GoE.then_normal ?_
  refine GoC.seq ?_
  refine GoC.region ?_
  refine GoL.y rfl (Y.bld3 (fun v1 v2 v3 => [v1, v2, (.int .i64 0), (.int .i64 0), v3]) rfl rfl rfl (by kernel_rfl)) ?_
  refine GoL.does rfl (Does.bsl 55 rfl rfl (by kernel_rfl)) ?_
  rintro _ _ ⟨b7, rfl, rfl⟩
  refine GoL.does rfl (Does.bsl 56 rfl rfl (by kernel_rfl)) ?_
  rintro _ _ ⟨b8, rfl, rfl⟩
  refine GoL.y rfl (Y.bld1 (fun v1 => [v1, (.int .i64 0), (.int .i64 0), (.int .i64 0), (.slice none 0 0), (.slice none 0 0), (.int .i64 0), (.int .i64 0)]) rfl (by kernel_rfl)) ?_
  refine GoL.does rfl (Does.alloc rfl Try.zeroValue47 rfl) ?_
  rintro _ _ ⟨b1, rfl, rfl⟩
  first
    | refine GoL.does rfl (Does.sta (by exact Try.sizeOf47) rfl rfl rfl (by rfl)) ?_
    | refine GoL.does rfl (Does.stp (by exact Try.sizeOf47) rfl rfl rfl rfl) ?_
  rintro _ _ ⟨rfl, rfl⟩
  refine GoL.nil ?_
  refine GoE.then_normal ?_
  refine GoC.seq ?_
  refine GoC.region ?_
  first
    | refine GoL.y rfl (Y.lda Try.isAgg47 rfl Cells.a (by exact Try.sizeOf47)) ?_
    | refine GoL.y rfl (Y.lda Try.isAgg47 rfl (Cells.rd ‹_› ‹_›) (by exact Try.sizeOf47)) ?_
    | refine GoL.y rfl (Y.lda Try.isAgg47 rfl (Cells.rd Rd.s ‹_›) (by exact Try.sizeOf47)) ?_
    | refine GoL.y rfl (Y.lda Try.isAgg47 rfl (Cells.part0 Cells.a rfl) (by exact Try.sizeOf47)) ?_
  first
    | refine GoL.y rfl (Y.lda Try.isAgg47 rfl Cells.a (by exact Try.sizeOf47)) ?_
    | refine GoL.y rfl (Y.lda Try.isAgg47 rfl (Cells.rd ‹_› ‹_›) (by exact Try.sizeOf47)) ?_
    | refine GoL.y rfl (Y.lda Try.isAgg47 rfl (Cells.rd Rd.s ‹_›) (by exact Try.sizeOf47)) ?_
    | refine GoL.y rfl (Y.lda Try.isAgg47 rfl (Cells.part0 Cells.a rfl) (by exact Try.sizeOf47)) ?_
  refine GoL.does rfl (Does.bsl 47 rfl rfl (by kernel_rfl)) ?_
  rintro _ _ ⟨b13, rfl, rfl⟩
  refine GoL.does rfl (Does.callE rfl Try.call6 rfl (kern_New (A := A18 b7 b8 b13) (ps := [pv18 b7 b8, pv18 b7 b8]) (procs := 3) pv18_two pv18_all pv18_len) (by repeat (first | exact Ent.nil | (apply Ent.cons; · repeat (first | exact Take.here | apply Take.there)) | apply Ent.opt0 | apply Ent.opt1 | apply Ent.void | apply Ent.emp0 | apply Ent.two | (apply Ent.allV; · exact sl_void) | (apply Ent.allM; · exact fun _ => sl_void) | apply Ent.f1 rfl | apply Ent.f2 rfl | apply Ent.f3 rfl | apply Ent.f4 rfl | apply Ent.f10 rfl | apply Ent.grp | assumption | exact trivial | rfl | omega))) ?_
  rintro _ _ ⟨o, ho, rfl, rfl⟩
  rw [show [pv18 b7 b8, pv18 b7 b8].map PrgV.p = [P18, P18] from rfl] at ho ⊢
  rw [a18_0] at ho ⊢
  obtain ⟨kb, rfl⟩ := Option.isSome_iff_exists.1 ho
  refine GoL.fr (A := optH (fun b => krnH b (Krn.new 3 [P18, P18])) (some kb)) (Bs := [krnH kb K18]) (by repeat (first | exact Take.here | apply Take.there)) opt_some ?_
  refine GoL.o1 (C := krnH kb K18) (by repeat (first | exact Take.here | apply Take.there)) rfl ?_
  rintro bl -
  have hi : Inv 16 K18 := (new_inv a18_0).1
  have hk := share_kept hi [0, 0] 0
  refine GoL.y rfl (Y.move rfl) ?_
  refine GoL.y rfl (Y.extract rfl rfl) ?_
  refine GoL.y rfl (Y.extract rfl rfl) ?_
  refine GoL.y rfl (Y.assign rfl) ?_
  refine GoL.y rfl (Y.assign rfl) ?_
  refine GoL.nil ?_
  refine GoE.then_normal ?_
  refine GoC.seq ?_
  refine GoC.seq ?_
  refine GoC.region ?_
  refine GoL.y rfl (Y.move rfl) ?_
  refine GoL.y rfl (Y.neq rfl rfl) ?_
  refine GoL.y rfl (Y.move rfl) ?_
  refine GoL.yg rfl rfl rfl (Y.move rfl) ?_
  refine GoL.yg rfl rfl rfl (Y.eqPtrNil Try.underlying24 rfl rfl) ?_
  refine GoL.y rfl (Y.pickF rfl rfl) ?_
  refine GoL.nil ?_
  refine GoE.then_normal ?_
  refine GoC.cond rfl (fun h22 => ?_) (fun h22 => ?_)
  · cases h22
  · refine GoC.skip ?_
    refine GoE.then_normal ?_
    refine GoC.seq ?_
    refine GoC.region ?_
    refine GoL.y rfl (Y.move rfl) ?_
    refine GoL.does rfl (Does.bsl 3 rfl rfl (by kernel_rfl)) ?_
    rintro _ _ ⟨b24, rfl, rfl⟩
    refine GoL.does rfl (Does.callE rfl Try.call19 rfl (alloc_Fair (k := K18) (A := arr b24 0 [.int .i64 0, .int .i64 0]) (prio := [0, 0]) (Rd.lit .here rfl (fun _ _ => rfl) rfl) (by decide) hi.ok) (by repeat (first | exact Ent.nil | (apply Ent.cons; · repeat (first | exact Take.here | apply Take.there)) | apply Ent.opt0 | apply Ent.opt1 | apply Ent.void | apply Ent.emp0 | apply Ent.two | (apply Ent.allV; · exact sl_void) | (apply Ent.allM; · exact fun _ => sl_void) | apply Ent.f1 rfl | apply Ent.f2 rfl | apply Ent.f3 rfl | apply Ent.f4 rfl | apply Ent.f10 rfl | apply Ent.grp | assumption | exact trivial | rfl | omega))) ?_
    rintro _ _ ⟨⟨⟩, -, rfl, rfl⟩
    rw [a18_1]
    refine GoL.y rfl (Y.assign rfl) ?_
    refine GoL.nil ?_
    refine GoE.then_normal ?_
    refine GoC.seq ?_
    refine GoC.region ?_
    refine GoL.y rfl (Y.move rfl) ?_
    refine GoL.does rfl (Does.bsl 3 rfl rfl (by kernel_rfl)) ?_
    rintro _ _ ⟨b27, rfl, rfl⟩
    refine GoL.does rfl (Does.callE rfl Try.call8 rfl (alloc_Share (k := K18) (A := arr b27 0 [.int .i64 0, .int .i64 0]) (prio := [0, 0]) (Rd.lit .here rfl (fun _ _ => rfl) rfl) (by decide) hi (by decide)) (by repeat (first | exact Ent.nil | (apply Ent.cons; · repeat (first | exact Take.here | apply Take.there)) | apply Ent.opt0 | apply Ent.opt1 | apply Ent.void | apply Ent.emp0 | apply Ent.two | (apply Ent.allV; · exact sl_void) | (apply Ent.allM; · exact fun _ => sl_void) | apply Ent.f1 rfl | apply Ent.f2 rfl | apply Ent.f3 rfl | apply Ent.f4 rfl | apply Ent.f10 rfl | apply Ent.grp | assumption | exact trivial | rfl | omega))) ?_
    rintro _ _ ⟨⟨⟩, -, rfl, rfl⟩
    rw [a18_2]
    refine GoL.y rfl (Y.assign rfl) ?_
    refine GoL.nil ?_
    refine GoE.then_normal ?_
    refine GoC.seq ?_
    refine GoC.region ?_
    refine GoL.y rfl (Y.move rfl) ?_
    first
      | refine GoL.y rfl (Y.notD rfl) ?_
      | refine GoL.y rfl (Y.not rfl) ?_
    refine GoL.y rfl (Y.move rfl) ?_
    refine GoL.yg rfl rfl rfl (Y.move rfl) ?_
    refine GoL.yg rfl rfl rfl (Y.eql rfl rfl) ?_
    refine GoL.y rfl (Y.pickT rfl rfl) ?_
    refine GoL.y rfl (Y.move rfl) ?_
    refine GoL.yg rfl rfl rfl (Y.move rfl) ?_
    refine GoL.dg rfl rfl rfl (Does.bsl 3 rfl rfl (by kernel_rfl)) ?_
    rintro _ _ ⟨b37, rfl, rfl⟩
    refine GoL.dg rfl rfl rfl (Does.callE rfl Try.call19 rfl (alloc_Fair (k := (K18.share [0, 0] 0).1) (A := arr b37 0 [.int .i64 0, .int .i64 0]) (prio := [0, 0]) (Rd.lit .here rfl (fun _ _ => rfl) rfl) (by decide) hk.1.ok) (by repeat (first | exact Ent.nil | (apply Ent.cons; · repeat (first | exact Take.here | apply Take.there)) | apply Ent.opt0 | apply Ent.opt1 | apply Ent.void | apply Ent.emp0 | apply Ent.two | (apply Ent.allV; · exact sl_void) | (apply Ent.allM; · exact fun _ => sl_void) | apply Ent.f1 rfl | apply Ent.f2 rfl | apply Ent.f3 rfl | apply Ent.f4 rfl | apply Ent.f10 rfl | apply Ent.grp | assumption | exact trivial | rfl | omega))) ?_
    rintro _ _ ⟨⟨⟩, -, rfl, rfl⟩
    rw [a18_3]
    refine GoL.y rfl (Y.pickT rfl rfl) ?_
    refine GoL.y rfl (Y.move rfl) ?_
    refine GoL.yg rfl rfl rfl (Y.move rfl) ?_
    refine GoL.dg rfl rfl rfl (Does.bsl 3 rfl rfl (by kernel_rfl)) ?_
    rintro _ _ ⟨b42, rfl, rfl⟩
    refine GoL.dg rfl rfl rfl (Does.callE rfl Try.call12 rfl (alloc_Targets (k := (K18.share [0, 0] 0).1) (A := arr b42 0 [.int .i64 0, .int .i64 0]) (prio := [0, 0]) (Rd.lit .here rfl (fun _ _ => rfl) rfl) (by decide) hk.1.ok) (by repeat (first | exact Ent.nil | (apply Ent.cons; · repeat (first | exact Take.here | apply Take.there)) | apply Ent.opt0 | apply Ent.opt1 | apply Ent.void | apply Ent.emp0 | apply Ent.two | (apply Ent.allV; · exact sl_void) | (apply Ent.allM; · exact fun _ => sl_void) | apply Ent.f1 rfl | apply Ent.f2 rfl | apply Ent.f3 rfl | apply Ent.f4 rfl | apply Ent.f10 rfl | apply Ent.grp | assumption | exact trivial | rfl | omega))) ?_
    rintro _ _ ⟨u43, -, rfl, rfl⟩
    rw [a18_4]
    refine GoL.dg rfl rfl rfl (Does.bsl 3 rfl rfl (by kernel_rfl)) ?_
    rintro _ _ ⟨b44, rfl, rfl⟩
    refine GoL.dg rfl rfl rfl (Does.callE rfl Try.call10 rfl (ref_Ints (A := seps [sl intE 1 u43 [1, 1], arr b44 0 [.int .i64 1, .int .i64 1]]) (xs := [1, 1]) (ys := [1, 1]) (Rd.grp (Rd.sl .here)) (Rd.grp (Rd.lit (.there .here) rfl (fun _ _ => rfl) rfl)) (by decide)) (by repeat (first | exact Ent.nil | (apply Ent.cons; · repeat (first | exact Take.here | apply Take.there)) | apply Ent.opt0 | apply Ent.opt1 | apply Ent.void | apply Ent.emp0 | apply Ent.two | (apply Ent.allV; · exact sl_void) | (apply Ent.allM; · exact fun _ => sl_void) | apply Ent.f1 rfl | apply Ent.f2 rfl | apply Ent.f3 rfl | apply Ent.f4 rfl | apply Ent.f10 rfl | apply Ent.grp | assumption | exact trivial | rfl | omega))) ?_
    rintro _ _ ⟨⟨⟩, -, rfl, rfl⟩
    refine GoL.y rfl (Y.pickT rfl rfl) ?_
    refine GoL.y rfl (Y.move rfl) ?_
    refine GoL.yg rfl rfl rfl (Y.move rfl) ?_
    refine GoL.dg rfl rfl rfl (Does.callE rfl Try.call9 rfl (kern_Free (k := (K18.share [0, 0] 0).1) hk.1.ok.ol) (by repeat (first | exact Ent.nil | (apply Ent.cons; · repeat (first | exact Take.here | apply Take.there)) | apply Ent.opt0 | apply Ent.opt1 | apply Ent.void | apply Ent.emp0 | apply Ent.two | (apply Ent.allV; · exact sl_void) | (apply Ent.allM; · exact fun _ => sl_void) | apply Ent.f1 rfl | apply Ent.f2 rfl | apply Ent.f3 rfl | apply Ent.f4 rfl | apply Ent.f10 rfl | apply Ent.grp | assumption | exact trivial | rfl | omega))) ?_
    rintro _ _ ⟨u49, -, rfl, rfl⟩
    rw [a18_5]
    refine GoL.dg rfl rfl rfl (Does.bsl 3 rfl rfl (by kernel_rfl)) ?_
    rintro _ _ ⟨b50, rfl, rfl⟩
    refine GoL.dg rfl rfl rfl (Does.callE rfl Try.call10 rfl (ref_Ints (A := seps [sl intE 1 u49 [2], arr b50 0 [.int .i64 2]]) (xs := [2]) (ys := [2]) (Rd.grp (Rd.sl .here)) (Rd.grp (Rd.lit (.there .here) rfl (fun _ _ => rfl) rfl)) (by decide)) (by repeat (first | exact Ent.nil | (apply Ent.cons; · repeat (first | exact Take.here | apply Take.there)) | apply Ent.opt0 | apply Ent.opt1 | apply Ent.void | apply Ent.emp0 | apply Ent.two | (apply Ent.allV; · exact sl_void) | (apply Ent.allM; · exact fun _ => sl_void) | apply Ent.f1 rfl | apply Ent.f2 rfl | apply Ent.f3 rfl | apply Ent.f4 rfl | apply Ent.f10 rfl | apply Ent.grp | assumption | exact trivial | rfl | omega))) ?_
    rintro _ _ ⟨⟨⟩, -, rfl, rfl⟩
    refine GoL.y rfl (Y.pickT rfl rfl) ?_
    refine GoL.y rfl (Y.move rfl) ?_
    refine GoL.yg rfl rfl rfl (Y.move rfl) ?_
    refine GoL.dg rfl rfl rfl (Does.bsl 3 rfl rfl (by kernel_rfl)) ?_
    rintro _ _ ⟨b55, rfl, rfl⟩
    refine GoL.dg rfl rfl rfl (Does.callE rfl Try.call8 rfl (alloc_Share (k := (K18.share [0, 0] 0).1) (A := arr b55 0 [.int .i64 0]) (prio := [0]) (Rd.lit .here rfl (fun _ _ => rfl) rfl) (by decide) hk.1 (by decide)) (by repeat (first | exact Ent.nil | (apply Ent.cons; · repeat (first | exact Take.here | apply Take.there)) | apply Ent.opt0 | apply Ent.opt1 | apply Ent.void | apply Ent.emp0 | apply Ent.two | (apply Ent.allV; · exact sl_void) | (apply Ent.allM; · exact fun _ => sl_void) | apply Ent.f1 rfl | apply Ent.f2 rfl | apply Ent.f3 rfl | apply Ent.f4 rfl | apply Ent.f10 rfl | apply Ent.grp | assumption | exact trivial | rfl | omega))) ?_
    rintro _ _ ⟨⟨⟩, -, rfl, rfl⟩
    rw [a18_6]
    refine GoL.yg rfl rfl rfl (Y.eql rfl rfl) ?_
    refine GoL.y rfl (Y.pickT rfl rfl) ?_
    refine GoL.y rfl (Y.assign rfl) ?_
    refine GoL.nil ?_
    refine GoE.then_normal ?_
    refine GoC.ret ?_
    refine GoE.ret1 rfl rfl fun w s => ⟨(), ?_, trivial, finE (by repeat (first | exact Ent.nil | (apply Ent.cons; · repeat (first | exact Take.here | apply Take.there)) | apply Ent.opt0 | apply Ent.opt1 | apply Ent.void | apply Ent.emp0 | apply Ent.two | (apply Ent.allV; · exact sl_void) | (apply Ent.allM; · exact fun _ => sl_void) | apply Ent.f1 rfl | apply Ent.f2 rfl | apply Ent.f3 rfl | apply Ent.f4 rfl | apply Ent.f10 rfl | apply Ent.grp | assumption | exact trivial | rfl | omega)) s⟩
    rfl

set_option maxRecDepth 20000 in
theorem law18_Again {W : World} {A : HProp} {v pv : Value} {ps : List PrgV} {p turn : Int} {prio : List Int} (h8 : 0 ≤ p ∧ p ≤ 255) (hr : Rd W [A] prgE 8 v ps) (hp : ∀ p ∈ ps, PrgRd W [A] p) (hb : ps.length ≤ 1000000000 ∧ ∀ p ∈ ps, p.fs.length ≤ 1000000000 ∧ p.sems.length ≤ 1000000000 ∧ p.pipes.length ≤ 1000000000) (hpr : Rd W [A] intE 1 pv prio) (hpl : prio.length ≤ 1000000000) : Fn Try.prog W 3 [.int .u8 p, v, pv, .int .i64 turn] [A] Unit (fun _ => .bool true) (fun _ => True) (fun _ => [A]) := by
  refine Fn.intro (N := 44) Try.func3 rfl Try.ntmps3 rfl fun F => ?_
  show GoC _ _ _ _ _ _ [A, F]
  have hq : 0 ≤ p.tmod 17 ∧ p.tmod 17 < 17 := ⟨Int.tmod_nonneg _ h8.1, Int.tmod_lt_of_pos _ (by decide)⟩
  obtain ⟨q, hqe⟩ : ∃ q : Int, q = p.tmod 17 := ⟨_, rfl⟩
  rw [← hqe] at hq
  refine GoC.seq ?_
  refine GoC.region ?_
  refine GoL.y rfl (Y.assign rfl) ?_
  refine GoL.nil ?_
  refine GoE.then_normal ?_
  refine GoC.seq ?_
  refine GoC.region ?_
  refine GoL.y rfl (Y.move rfl) ?_
  refine GoL.y rfl (Y.valW (Y.rem rfl rfl (by decide)) hqe.symm) ?_
  first
    | refine GoL.y rfl (Y.convI Try.underlying5 Try.underlying3 rfl (by omega)) ?_
    | refine GoL.y rfl (Y.conv Try.underlying5 Try.underlying3 rfl) ?_
  first
    | refine GoL.y rfl (Y.inc rfl rfl (by omega)) ?_
    | refine GoL.y rfl (Y.add rfl rfl (by omega)) ?_
  refine GoL.y rfl (Y.move rfl) ?_
  refine GoL.does rfl (Does.callE rfl Try.call6 rfl (kern_New (procs := q + 1) hr hp hb) (by repeat (first | exact Ent.nil | (apply Ent.cons; · repeat (first | exact Take.here | apply Take.there)) | apply Ent.opt0 | apply Ent.opt1 | apply Ent.void | apply Ent.emp0 | apply Ent.two | (apply Ent.allV; · exact sl_void) | (apply Ent.allM; · exact fun _ => sl_void) | apply Ent.f1 rfl | apply Ent.f2 rfl | apply Ent.f3 rfl | apply Ent.f4 rfl | apply Ent.f10 rfl | apply Ent.grp | assumption | exact trivial | rfl | omega))) ?_
  rintro _ _ ⟨o, ho, rfl, rfl⟩
  refine GoL.y rfl (Y.move rfl) ?_
  refine GoL.y rfl (Y.extract rfl rfl) ?_
  refine GoL.y rfl (Y.extract rfl rfl) ?_
  refine GoL.y rfl (Y.assign rfl) ?_
  refine GoL.y rfl (Y.assign rfl) ?_
  refine GoL.nil ?_
  refine GoE.then_normal ?_
  refine GoC.seq ?_
  refine GoC.seq ?_
  refine GoC.region ?_
  refine GoL.y rfl (Y.move rfl) ?_
  refine GoL.y rfl (Y.neq rfl rfl) ?_
  refine GoL.nil ?_
  refine GoE.then_normal ?_
  refine GoC.condD rfl (fun h22 => ?_) (fun h22 => ?_)
  · refine GoC.seq ?_
    refine GoC.region ?_
    refine GoL.does rfl (Does.callE rfl Try.call7 rfl law18_awake (by repeat (first | exact Ent.nil | (apply Ent.cons; · repeat (first | exact Take.here | apply Take.there)) | apply Ent.opt0 | apply Ent.opt1 | apply Ent.void | apply Ent.emp0 | apply Ent.two | (apply Ent.allV; · exact sl_void) | (apply Ent.allM; · exact fun _ => sl_void) | apply Ent.f1 rfl | apply Ent.f2 rfl | apply Ent.f3 rfl | apply Ent.f4 rfl | apply Ent.f10 rfl | apply Ent.grp | assumption | exact trivial | rfl | omega))) ?_
    rintro _ _ ⟨⟨⟩, -, rfl, rfl⟩
    refine GoL.y rfl (Y.assign rfl) ?_
    refine GoL.nil ?_
    refine GoE.then_normal ?_
    refine GoC.ret ?_
    refine GoE.then_ret ?_
    refine GoE.ret1 rfl rfl fun w s => ⟨(), ?_, trivial, finE (by repeat (first | exact Ent.nil | (apply Ent.cons; · repeat (first | exact Take.here | apply Take.there)) | apply Ent.opt0 | apply Ent.opt1 | apply Ent.void | apply Ent.emp0 | apply Ent.two | (apply Ent.allV; · exact sl_void) | (apply Ent.allM; · exact fun _ => sl_void) | apply Ent.f1 rfl | apply Ent.f2 rfl | apply Ent.f3 rfl | apply Ent.f4 rfl | apply Ent.f10 rfl | apply Ent.grp | assumption | exact trivial | rfl | omega)) s⟩
    rfl
  · have hk0 := Decidable.of_not_not h22
    obtain ⟨kb, rfl⟩ := Option.isSome_iff_exists.1 (ho.trans (decide_eq_true hk0))
    obtain ⟨k, hk⟩ : ∃ k, k = Krn.new (q + 1) (ps.map PrgV.p) := ⟨_, rfl⟩
    have hi : Inv 16 k := by rw [hk]; exact (new_inv hk0).1
    have hk2 := share_kept hi prio turn
    rw [← hk]
    refine GoC.fr (A := optH (fun b => krnH b k) (some kb)) (Bs := [krnH kb k]) (by repeat (first | exact Take.here | apply Take.there)) opt_some ?_
    refine GoC.o1 (C := krnH kb k) (by repeat (first | exact Take.here | apply Take.there)) rfl ?_
    rintro bl -
    refine GoC.skip ?_
    refine GoE.then_normal ?_
    refine GoC.seq ?_
    refine GoC.region ?_
    refine GoL.y rfl (Y.move rfl) ?_
    refine GoL.y rfl (Y.move rfl) ?_
    refine GoL.y rfl (Y.move rfl) ?_
    refine GoL.does rfl (Does.callE rfl Try.call8 rfl (alloc_Share hpr hpl hi (by decide)) (by repeat (first | exact Ent.nil | (apply Ent.cons; · repeat (first | exact Take.here | apply Take.there)) | apply Ent.opt0 | apply Ent.opt1 | apply Ent.void | apply Ent.emp0 | apply Ent.two | (apply Ent.allV; · exact sl_void) | (apply Ent.allM; · exact fun _ => sl_void) | apply Ent.f1 rfl | apply Ent.f2 rfl | apply Ent.f3 rfl | apply Ent.f4 rfl | apply Ent.f10 rfl | apply Ent.grp | assumption | exact trivial | rfl | omega))) ?_
    rintro _ _ ⟨⟨⟩, -, rfl, rfl⟩
    refine GoL.nil ?_
    refine GoE.then_normal ?_
    refine GoC.seq ?_
    refine GoC.region ?_
    refine GoL.y rfl (Y.move rfl) ?_
    refine GoL.does rfl (Does.callE rfl Try.call9 rfl (kern_Free (k := (k.share prio turn).1) hk2.1.ok.ol) (by repeat (first | exact Ent.nil | (apply Ent.cons; · repeat (first | exact Take.here | apply Take.there)) | apply Ent.opt0 | apply Ent.opt1 | apply Ent.void | apply Ent.emp0 | apply Ent.two | (apply Ent.allV; · exact sl_void) | (apply Ent.allM; · exact fun _ => sl_void) | apply Ent.f1 rfl | apply Ent.f2 rfl | apply Ent.f3 rfl | apply Ent.f4 rfl | apply Ent.f10 rfl | apply Ent.grp | assumption | exact trivial | rfl | omega))) ?_
    rintro _ _ ⟨u29, -, rfl, rfl⟩
    refine GoL.y rfl (Y.assign rfl) ?_
    refine GoL.nil ?_
    refine GoE.then_normal ?_
    refine GoC.seq ?_
    refine GoC.region ?_
    refine GoL.does rfl (Does.callE rfl Try.call7 rfl law18_awake (by repeat (first | exact Ent.nil | (apply Ent.cons; · repeat (first | exact Take.here | apply Take.there)) | apply Ent.opt0 | apply Ent.opt1 | apply Ent.void | apply Ent.emp0 | apply Ent.two | (apply Ent.allV; · exact sl_void) | (apply Ent.allM; · exact fun _ => sl_void) | apply Ent.f1 rfl | apply Ent.f2 rfl | apply Ent.f3 rfl | apply Ent.f4 rfl | apply Ent.f10 rfl | apply Ent.grp | assumption | exact trivial | rfl | omega))) ?_
    rintro _ _ ⟨⟨⟩, -, rfl, rfl⟩
    refine GoL.y rfl (Y.move rfl) ?_
    refine GoL.yg rfl rfl rfl (Y.move rfl) ?_
    refine GoL.yg rfl rfl rfl (Y.move rfl) ?_
    refine GoL.yg rfl rfl rfl (Y.move rfl) ?_
    refine GoL.dg rfl rfl rfl (Does.callE rfl Try.call8 rfl (alloc_Share (k := (k.share prio turn).1) hpr hpl hk2.1 (by decide)) (by repeat (first | exact Ent.nil | (apply Ent.cons; · repeat (first | exact Take.here | apply Take.there)) | apply Ent.opt0 | apply Ent.opt1 | apply Ent.void | apply Ent.emp0 | apply Ent.two | (apply Ent.allV; · exact sl_void) | (apply Ent.allM; · exact fun _ => sl_void) | apply Ent.f1 rfl | apply Ent.f2 rfl | apply Ent.f3 rfl | apply Ent.f4 rfl | apply Ent.f10 rfl | apply Ent.grp | assumption | exact trivial | rfl | omega))) ?_
    rintro _ _ ⟨⟨⟩, -, rfl, rfl⟩
    rw [share_again hi]
    refine GoL.yg rfl rfl rfl (Y.eql rfl rfl) ?_
    refine GoL.y rfl (Y.pickT rfl rfl) ?_
    refine GoL.y rfl (Y.move rfl) ?_
    refine GoL.yg rfl rfl rfl (Y.move rfl) ?_
    refine GoL.dg rfl rfl rfl (Does.callE rfl Try.call9 rfl (kern_Free (k := (k.share prio turn).1) hk2.1.ok.ol) (by repeat (first | exact Ent.nil | (apply Ent.cons; · repeat (first | exact Take.here | apply Take.there)) | apply Ent.opt0 | apply Ent.opt1 | apply Ent.void | apply Ent.emp0 | apply Ent.two | (apply Ent.allV; · exact sl_void) | (apply Ent.allM; · exact fun _ => sl_void) | apply Ent.f1 rfl | apply Ent.f2 rfl | apply Ent.f3 rfl | apply Ent.f4 rfl | apply Ent.f10 rfl | apply Ent.grp | assumption | exact trivial | rfl | omega))) ?_
    rintro _ _ ⟨u40, -, rfl, rfl⟩
    refine GoL.yg rfl rfl rfl (Y.move rfl) ?_
    refine GoL.dg rfl rfl rfl (Does.callE rfl Try.call10 rfl (ref_Ints (A := seps [sl intE 1 u40 (k.share prio turn).1.free, sl intE 1 u29 (k.share prio turn).1.free]) (Rd.grp (Rd.sl .here)) (Rd.grp (Rd.sl (.there .here))) (free_le hk2.1.ok.ol)) (by repeat (first | exact Ent.nil | (apply Ent.cons; · repeat (first | exact Take.here | apply Take.there)) | apply Ent.opt0 | apply Ent.opt1 | apply Ent.void | apply Ent.emp0 | apply Ent.two | (apply Ent.allV; · exact sl_void) | (apply Ent.allM; · exact fun _ => sl_void) | apply Ent.f1 rfl | apply Ent.f2 rfl | apply Ent.f3 rfl | apply Ent.f4 rfl | apply Ent.f10 rfl | apply Ent.grp | assumption | exact trivial | rfl | omega))) ?_
    rintro _ _ ⟨⟨⟩, -, rfl, rfl⟩
    refine GoL.y rfl (Y.pickT rfl rfl) ?_
    refine GoL.y rfl (Y.assign rfl) ?_
    refine GoL.nil ?_
    refine GoE.then_normal ?_
    refine GoC.ret ?_
    refine GoE.ret1 rfl rfl fun w s => ⟨(), ?_, trivial, finE (by repeat (first | exact Ent.nil | (apply Ent.cons; · repeat (first | exact Take.here | apply Take.there)) | apply Ent.opt0 | apply Ent.opt1 | apply Ent.void | apply Ent.emp0 | apply Ent.two | (apply Ent.allV; · exact sl_void) | (apply Ent.allM; · exact fun _ => sl_void) | apply Ent.f1 rfl | apply Ent.f2 rfl | apply Ent.f3 rfl | apply Ent.f4 rfl | apply Ent.f10 rfl | apply Ent.grp | assumption | exact trivial | rfl | omega)) s⟩
    rw [decide_eq_true rfl]

end Go.SLYtkflpgknieoknaa
