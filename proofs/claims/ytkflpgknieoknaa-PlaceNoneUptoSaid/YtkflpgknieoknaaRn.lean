/- Walks of functions, and what they compute. Conditions: none, this text proves no statement. -/
import Derived.Test.YtkflpgknieoknaaProg
import Derived.Test.YtkflpgknieoknaaRm
import Derived.Test.YtkflpgknieoknaaK15
import Derived.Test.YtkflpgknieoknaaSLh
import Derived.KernelRfl
namespace Go.SLYtkflpgknieoknaa
open Go Go.RowKit Go.Proofs

set_option maxRecDepth 20000 in
theorem sys_New {W : World} {A : HProp} {v : Value} {ps : List PrgV} {procs : Int} (hr : Rd W [A] prgE 8 v ps) (hp : ∀ p ∈ ps, PrgRd W [A] p) (hb : ps.length ≤ 1000000000 ∧ ∀ p ∈ ps, p.fs.length ≤ 1000000000 ∧ p.sems.length ≤ 1000000000 ∧ p.pipes.length ≤ 1000000000) : Fn Try.prog W 29 [.int .i64 procs, v] [A] (Option Nat) (fun o => .tuple #[ptrO o, .int .i64 (krnErr procs (ps.map PrgV.p))]) (fun o => o.isSome = decide (krnErr procs (ps.map PrgV.p) = 0)) (fun o => [optH (fun b => sysH b ((Krn.new procs (ps.map PrgV.p)).share (ps.map (·.prio)) 0).1 (ps.map (·.prio))) o, A]) := by
  refine Fn.intro (N := 48) Try.func29 rfl Try.ntmps29 rfl fun F => ?_
  haveI hRI : ∀ (H : List HProp) [HasH H A], ReadsC W H v prgE 8 ps := fun H h => ⟨hr.at h.has⟩
  show GoC _ _ _ _ _ _ [A, F]
  have hml : (ps.map PrgV.p).length = ps.length := List.length_map ..
  refine GoC.seq ?_
  refine GoC.region ?_
  refine GoL.y rfl (Y.assign rfl) ?_
  refine GoL.y rfl (Y.assign rfl) ?_
  refine GoL.nil ?_
  refine GoE.then_normal ?_
  refine GoC.seq ?_
  refine GoC.region ?_
  refine GoL.y rfl (Y.move rfl) ?_
  refine GoL.y rfl (Y.move rfl) ?_
  refine GoL.does rfl (Does.callE rfl Try.call6 rfl (kern_New hr hp hb) (by repeat (first | exact Ent.nil | (apply Ent.cons; · repeat (first | exact Take.here | apply Take.there)) | apply Ent.opt0 | apply Ent.opt1 | apply Ent.void | apply Ent.emp0 | apply Ent.two | (apply Ent.allV; · exact sl_void) | (apply Ent.allM; · exact fun _ => sl_void) | apply Ent.f1 rfl | apply Ent.f2 rfl | apply Ent.f3 rfl | apply Ent.f4 rfl | apply Ent.f10 rfl | apply Ent.grp | assumption | exact trivial | rfl | omega))) ?_
  rintro _ _ ⟨o, ho, rfl, rfl⟩
  refine GoL.y rfl (Y.move rfl) ?_
  refine GoL.y rfl (Y.extract rfl rfl) ?_
  refine GoL.y rfl (Y.extract rfl rfl) ?_
  refine GoL.y rfl (Y.assign rfl) ?_
  refine GoL.y rfl (Y.assign rfl) ?_
  refine GoL.nil ?_
  refine GoE.then_normal ?_
  refine GoC.seq ?_
  refine GoC.seq ?_
  refine GoC.region ?_
  refine GoL.y rfl (Y.move rfl) ?_
  refine GoL.y rfl (Y.neq rfl rfl) ?_
  refine GoL.nil ?_
  refine GoE.then_normal ?_
  refine GoC.condD rfl (fun h18 => ?_) (fun h18 => ?_)
  · refine GoC.seq ?_
    refine GoC.region ?_
    refine GoL.y rfl (Y.move rfl) ?_
    refine GoL.y rfl (Y.assign rfl) ?_
    refine GoL.y rfl (Y.assign rfl) ?_
    refine GoL.nil ?_
    refine GoE.then_normal ?_
    refine GoC.ret ?_
    refine GoE.then_ret ?_
    refine GoE.ret2 rfl rfl rfl fun w s => ⟨none, ?_, (decide_eq_false h18).symm, finE (by repeat (first | exact Ent.nil | (apply Ent.cons; · repeat (first | exact Take.here | apply Take.there)) | apply Ent.opt0 | apply Ent.opt1 | apply Ent.void | apply Ent.emp0 | apply Ent.two | (apply Ent.allV; · exact sl_void) | (apply Ent.allM; · exact fun _ => sl_void) | apply Ent.f1 rfl | apply Ent.f2 rfl | apply Ent.f3 rfl | apply Ent.f4 rfl | apply Ent.f10 rfl | apply Ent.grp | assumption | exact trivial | rfl | omega | (focus (obtain ⟨rfl⟩ : o = none := by simpa [h18] using ho)))) s⟩
    rfl
  · have h18 := Decidable.of_not_not h18
    obtain ⟨kb, rfl⟩ := Option.isSome_iff_exists.1 (ho.trans (decide_eq_true h18))
    have hi := (new_inv h18).1
    have hps8 : ps.length ≤ 8 := by have := (new_inv h18).2.2.2.2.2; omega
    refine GoC.fr (A := optH (fun b => krnH b (Krn.new procs (ps.map PrgV.p))) (some kb)) (Bs := [krnH kb (Krn.new procs (ps.map PrgV.p))]) (by repeat (first | exact Take.here | apply Take.there)) opt_some ?_
    refine GoC.o1 (C := krnH kb (Krn.new procs (ps.map PrgV.p))) (by repeat (first | exact Take.here | apply Take.there)) rfl ?_
    rintro bl -
    refine GoC.skip ?_
    refine GoE.then_normal ?_
    refine GoC.seq ?_
    refine GoC.region ?_
    refine GoL.y rfl (Y.move rfl) ?_
    refine GoL.y rfl (Y.bld1 (fun v1 => [v1, (.slice none 0 0), (.int .i64 0), (.slice none 0 0)]) rfl (by kernel_rfl)) ?_
    refine GoL.does rfl (Does.box rfl rfl rfl) ?_
    rintro _ _ ⟨b22, rfl, rfl⟩
    refine GoL.y rfl (Y.assign rfl) ?_
    refine GoL.nil ?_
    refine GoE.then_normal ?_
    refine GoC.seq ?_
    refine GoC.seq ?_
    refine GoC.region ?_
    refine GoL.y rfl (Y.move rfl) ?_
    first
      | refine GoL.y rfl (Y.lenRd Try.underlying22 rfl Rd.s) ?_
      | refine GoL.y rfl (Y.lenRd Try.underlying22 rfl ‹_›) ?_
      | refine GoL.y rfl (Y.lenSlice Try.underlying22 rfl) ?_
    refine GoL.y rfl (Y.move rfl) ?_
    refine GoL.nil ?_
    refine GoE.then_normal ?_
    refine GoC.block ?_
    refine GoC.loopK (X := Nat × Value) [10, 25, 26, 27, 28, 29, 30, 31, 32, 33, 34, 35, 36, 37, 38, 39, 40] (fun z => ps.length - z.1) (fun z => z.1 ≤ ps.length) (fun z => [(25, some (.int .i64 (z.1 : Int)))]) (fun z => [arr b22 0 [ptr kb, z.2, .int .i64 0, .slice none 0 0], sl intE 1 z.2 ((ps.take z.1).map (·.prio)), krnX kb bl (Krn.new procs (ps.map PrgV.p)), A, F]) (0, .slice none 0 0) ?_ ?_ ?_ ?_
    · exact Nat.zero_le _
    · exact ⟨rfl, trivial⟩
    · exact fun w s => Ent.kept (by repeat (first | exact Ent.nil | (apply Ent.cons; · repeat (first | exact Take.here | apply Take.there)) | apply Ent.opt0 | apply Ent.opt1 | apply Ent.void | apply Ent.emp0 | apply Ent.two | (apply Ent.allV; · exact sl_void) | (apply Ent.allM; · exact fun _ => sl_void) | apply Ent.f1 rfl | apply Ent.f2 rfl | apply Ent.f3 rfl | apply Ent.f4 rfl | apply Ent.f10 rfl | apply Ent.grp | assumption | exact trivial | rfl | omega)) w s
    rintro ⟨n, u⟩ hn
    simp only at hn
    refine GoC.seq ?_
    refine GoC.region ?_
    refine GoL.y rfl (Y.lss rfl rfl) ?_
    refine GoL.nil ?_
    refine GoE.then_normal ?_
    refine GoC.seq ?_
    refine GoC.condD rfl (fun h26 => ?_) (fun h26 => ?_)
    · refine GoC.skip ?_
      refine GoE.then_normal ?_
      refine GoC.seq ?_
      refine GoC.block ?_
      refine GoC.seq ?_
      refine GoC.region ?_
      obtain ⟨x, hx⟩ := at_some (show n < ps.length by omega)
      have hpx := hp x (List.mem_of_getElem? hx)
      refine GoL.know (fun w s => prg_all hpx (by repeat (first | exact At.here | refine At.there ?_)) w s) fun hone => ?_
      first
        | refine GoL.y rfl (Y.ixRd _ Try.underlying22 Try.sizeOf47 rfl rfl Rd.s rfl (by first | omega | decide)) ?_
        | refine GoL.y rfl (Y.ixRd _ Try.underlying22 Try.sizeOf47 rfl rfl ‹_› rfl (by first | omega | decide)) ?_
      refine GoL.y rfl (Y.lda Try.isAgg47 rfl (Cells.rd Rd.s hx) (by exact Try.sizeOf47)) ?_
      refine GoL.does rfl (Does.alloc rfl Try.zeroValue47 rfl) ?_
      rintro _ _ ⟨b10, rfl, rfl⟩
      refine GoL.does rfl (Does.stp (by exact Try.sizeOf47) rfl rfl hone rfl) ?_
      rintro _ _ ⟨rfl, rfl⟩
      refine GoL.nil ?_
      refine GoE.then_normal ?_
      refine GoC.draw [arr b22 0 [ptr kb, u, .int .i64 0, .slice none 0 0], arr b10 0 (prgE x)] [0, 0, 0, 0, 0, 1, 1, 2, 2, 1, 1, 3] rfl (by kernel_rfl) ?_
      refine GoK.k rfl (Kept.ok (by repeat (first | exact Kept.nil | exact Take.here | apply Take.there | apply Kept.take))) (Y.move rfl) ?_
      refine GoK.k rfl (Kept.ok (by repeat (first | exact Kept.nil | exact Take.here | apply Take.there | apply Kept.take))) (Y.move rfl) ?_
      refine GoK.k rfl (Kept.ok (by repeat (first | exact Kept.nil | exact Take.here | apply Take.there | apply Kept.take))) (Y.nilCheck rfl) ?_
      first
        | refine GoK.k rfl (Kept.ok (by repeat (first | exact Kept.nil | exact Take.here | apply Take.there | apply Kept.take))) (Y.fieldAddr0 1 23 Try.underlying120 rfl Try.sizeOf23 rfl) ?_
        | refine GoK.k rfl (Kept.ok (by repeat (first | exact Kept.nil | exact Take.here | apply Take.there | apply Kept.take))) (Y.fieldAddr 1 23 Try.underlying120 rfl Try.sizeOf23 rfl) ?_
      first
        | refine GoK.k rfl (Kept.ok (by repeat (first | exact Kept.nil | exact Take.here | apply Take.there | apply Kept.take))) (Y.load Try.isAgg23 rfl (Cell.a (by rfl))) ?_
        | refine GoK.k rfl (Kept.ok (by repeat (first | exact Kept.nil | exact Take.here | apply Take.there | apply Kept.take))) (Y.load Try.isAgg23 rfl (Cell.rd0 Rd.s ‹_› (by rfl))) ?_
        | refine GoK.k rfl (Kept.ok (by repeat (first | exact Kept.nil | exact Take.here | apply Take.there | apply Kept.take))) (Y.load Try.isAgg23 rfl (Cell.rd Rd.s ‹_› (by rfl))) ?_
        | refine GoK.k rfl (Kept.ok (by repeat (first | exact Kept.nil | exact Take.here | apply Take.there | apply Kept.take))) (Y.load Try.isAgg23 rfl (Cell.ao (by rfl))) ?_
        | refine GoK.k rfl (Kept.ok (by repeat (first | exact Kept.nil | exact Take.here | apply Take.there | apply Kept.take))) (Y.load Try.isAgg23 rfl (Cell.az (by rfl))) ?_
        | refine GoK.k rfl (Kept.ok (by repeat (first | exact Kept.nil | exact Take.here | apply Take.there | apply Kept.take))) (Y.load Try.isAgg23 rfl (Cell.a ‹_›)) ?_
        | refine GoK.k rfl (Kept.ok (by repeat (first | exact Kept.nil | exact Take.here | apply Take.there | apply Kept.take))) (Y.load Try.isAgg23 rfl (Cell.rd0 ‹_› ‹_› (by rfl))) ?_
        | refine GoK.k rfl (Kept.ok (by repeat (first | exact Kept.nil | exact Take.here | apply Take.there | apply Kept.take))) (Y.load Try.isAgg23 rfl (Cell.rd ‹_› ‹_› (by rfl))) ?_
      first
        | refine GoK.s rfl (Y.fieldAddr0 7 3 Try.underlying47 rfl Try.sizeOf3 rfl) ?_
        | refine GoK.s rfl (Y.fieldAddr 7 3 Try.underlying47 rfl Try.sizeOf3 rfl) ?_
      first
        | refine GoK.s rfl (Y.load Try.isAgg3 rfl (Cell.a (by rfl))) ?_
        | refine GoK.s rfl (Y.load Try.isAgg3 rfl (Cell.rd0 Rd.s ‹_› (by rfl))) ?_
        | refine GoK.s rfl (Y.load Try.isAgg3 rfl (Cell.rd Rd.s ‹_› (by rfl))) ?_
        | refine GoK.s rfl (Y.load Try.isAgg3 rfl (Cell.ao (by rfl))) ?_
        | refine GoK.s rfl (Y.load Try.isAgg3 rfl (Cell.az (by rfl))) ?_
        | refine GoK.s rfl (Y.load Try.isAgg3 rfl (Cell.a ‹_›)) ?_
        | refine GoK.s rfl (Y.load Try.isAgg3 rfl (Cell.rd0 ‹_› ‹_› (by rfl))) ?_
        | refine GoK.s rfl (Y.load Try.isAgg3 rfl (Cell.rd ‹_› ‹_› (by rfl))) ?_
      refine GoK.d2 rfl (Kept.ok (by repeat (first | exact Kept.nil | exact Take.here | apply Take.there | apply Kept.take))) (Does.bsl 3 rfl rfl (by kernel_rfl)) (by rintro _ _ ⟨b36, rfl, rfl⟩; exact (Kept.ok (by repeat (first | exact Kept.nil | exact Take.here | apply Take.there | apply Kept.take)))) ?_
      rintro _ _ ⟨b36, rfl, rfl⟩
      refine GoK.d2 rfl (Kept.ok (by repeat (first | exact Kept.nil | exact Take.here | apply Take.there | apply Kept.take))) (Does.app1 (enc := intE) (k := 1) x.prio rfl Try.underlying23 Try.underlying23 Try.typeInfo3 rfl rfl rfl (by decide) rfl rfl rfl (by repeat (first | exact At.here | refine At.there ?_)) rfl (by repeat (first | exact Take.here | apply Take.there)) (by rw [List.length_map, List.length_take]; omega) rfl) (by rintro _ _ ⟨v37, rfl, rfl⟩; exact (Kept.ok (by repeat (first | exact Kept.nil | exact Take.here | apply Take.there | apply Kept.take)))) ?_
      rintro _ _ ⟨v37, rfl, rfl⟩
      refine GoK.s rfl (Y.nilCheck rfl) ?_
      first
        | refine GoK.s rfl (Y.fieldAddr0 1 23 Try.underlying120 rfl Try.sizeOf23 rfl) ?_
        | refine GoK.s rfl (Y.fieldAddr 1 23 Try.underlying120 rfl Try.sizeOf23 rfl) ?_
      first
        | refine GoK.d3 rfl (Does.stS Try.sizeOf23 rfl rfl rfl) ?_
        | refine GoK.d3 rfl (Does.st Try.sizeOf23 rfl rfl rfl rfl) ?_
        | refine GoK.d3 rfl (Does.stoS Try.sizeOf23 rfl rfl rfl) ?_
        | refine GoK.d3 rfl (Does.stzS Try.sizeOf23 rfl rfl rfl) ?_
      rintro _ _ ⟨rfl, rfl⟩
      refine GoK.nil ?_
      refine GoE.block_normal (GoE.then_normal ?_)
      refine GoC.region ?_
      first
        | refine GoL.y rfl (Y.inc rfl rfl (by omega)) ?_
        | refine GoL.y rfl (Y.add rfl rfl (by omega)) ?_
      refine GoL.y rfl (Y.move rfl) ?_
      refine GoL.nil ?_
      refine GoE.againK (n + 1, v37) (by repeat (first | exact Top.base | refine Top.cons rfl ?_)) rfl ?_ ?_ ?_ ?_
      · show ps.length - (n + 1) < ps.length - n; omega
      · show n + 1 ≤ _; omega
      · exact ⟨rfl, trivial⟩
      · show ∀ w, Sat _ w _ → Sat _ w (seps [_, sl intE 1 v37 ((ps.take (n + 1)).map (·.prio)), _, A, F])
        rw [prio_snoc hx]
        exact fun w s => Ent.kept (by repeat (first | exact Ent.nil | (apply Ent.cons; · repeat (first | exact Take.here | apply Take.there)) | apply Ent.opt0 | apply Ent.opt1 | apply Ent.void | apply Ent.emp0 | apply Ent.two | (apply Ent.allV; · exact sl_void) | (apply Ent.allM; · exact fun _ => sl_void) | apply Ent.f1 rfl | apply Ent.f2 rfl | apply Ent.f3 rfl | apply Ent.f4 rfl | apply Ent.f10 rfl | apply Ent.grp | assumption | exact trivial | rfl | omega)) w s
    · obtain rfl : n = ps.length := by omega
      rw [List.take_length]
      refine GoC.exit ?_
      refine GoE.then_exit (GoE.then_exit (GoE.block_here (GoE.then_normal ?_)))
      refine GoC.seq ?_
      refine GoC.region ?_
      refine GoL.y rfl (Y.move rfl) ?_
      refine GoL.y rfl (Y.move rfl) ?_
      refine GoL.y rfl (Y.nilCheck rfl) ?_
      first
        | refine GoL.y rfl (Y.fieldAddr0 1 23 Try.underlying120 rfl Try.sizeOf23 rfl) ?_
        | refine GoL.y rfl (Y.fieldAddr 1 23 Try.underlying120 rfl Try.sizeOf23 rfl) ?_
      first
        | refine GoL.y rfl (Y.load Try.isAgg23 rfl (Cell.a (by rfl))) ?_
        | refine GoL.y rfl (Y.load Try.isAgg23 rfl (Cell.rd0 Rd.s ‹_› (by rfl))) ?_
        | refine GoL.y rfl (Y.load Try.isAgg23 rfl (Cell.rd Rd.s ‹_› (by rfl))) ?_
        | refine GoL.y rfl (Y.load Try.isAgg23 rfl (Cell.ao (by rfl))) ?_
        | refine GoL.y rfl (Y.load Try.isAgg23 rfl (Cell.az (by rfl))) ?_
        | refine GoL.y rfl (Y.load Try.isAgg23 rfl (Cell.a ‹_›)) ?_
        | refine GoL.y rfl (Y.load Try.isAgg23 rfl (Cell.rd0 ‹_› ‹_› (by rfl))) ?_
        | refine GoL.y rfl (Y.load Try.isAgg23 rfl (Cell.rd ‹_› ‹_› (by rfl))) ?_
      refine GoL.does rfl (Does.callE rfl Try.call8 rfl (alloc_Share (A := sl intE 1 u (ps.map (·.prio))) (prio := (ps.map (·.prio))) (turn := 0) (Rd.sl .here) (by rw [List.length_map]; omega) hi (by decide)) (by repeat (first | exact Ent.nil | (apply Ent.cons; · repeat (first | exact Take.here | apply Take.there)) | apply Ent.opt0 | apply Ent.opt1 | apply Ent.void | apply Ent.emp0 | apply Ent.two | (apply Ent.allV; · exact sl_void) | (apply Ent.allM; · exact fun _ => sl_void) | apply Ent.f1 rfl | apply Ent.f2 rfl | apply Ent.f3 rfl | apply Ent.f4 rfl | apply Ent.f10 rfl | apply Ent.grp | assumption | exact trivial | rfl | omega))) ?_
      rintro _ _ ⟨⟨⟩, -, rfl, rfl⟩
      refine GoL.nil ?_
      refine GoE.then_normal ?_
      refine GoC.seq ?_
      refine GoC.region ?_
      refine GoL.y rfl (Y.move rfl) ?_
      refine GoL.y rfl (Y.assign rfl) ?_
      refine GoL.y rfl (Y.assign rfl) ?_
      refine GoL.nil ?_
      refine GoE.then_normal ?_
      refine GoC.ret ?_
      refine GoE.ret2 rfl rfl rfl fun w s => ⟨some b22, ?_, (decide_eq_true h18).symm, finE (by repeat (first | exact Ent.nil | (apply Ent.cons; · repeat (first | exact Take.here | apply Take.there)) | apply Ent.opt0 | apply Ent.opt1 | apply Ent.void | apply Ent.emp0 | apply Ent.two | (apply Ent.allV; · exact sl_void) | (apply Ent.allM; · exact fun _ => sl_void) | apply Ent.f1 rfl | apply Ent.f2 rfl | apply Ent.f3 rfl | apply Ent.f4 rfl | apply Ent.f10 rfl | apply Ent.grp | assumption | exact trivial | rfl | omega)) s⟩
      rw [h18]; rfl

set_option maxRecDepth 20000 in
theorem sys_Kern {W : World} {b kb : Nat} {v : Value} : Fn Try.prog W 30 [ptr b] [arr b 0 [ptr kb, v, .int .i64 0, .slice none 0 0]] Unit (fun _ => ptr kb) (fun _ => True) (fun _ => [arr b 0 [ptr kb, v, .int .i64 0, .slice none 0 0]]) := by
  refine Fn.intro (N := 9) Try.func30 rfl Try.ntmps30 rfl fun F => ?_
  show GoC _ _ _ _ _ _ [arr b 0 [ptr kb, v, .int .i64 0, .slice none 0 0], F]
  refine GoC.seq ?_
  refine GoC.region ?_
  refine GoL.y rfl (Y.assign rfl) ?_
  refine GoL.nil ?_
  refine GoE.then_normal ?_
  refine GoC.seq ?_
  refine GoC.seq ?_
  refine GoC.region ?_
  refine GoL.y rfl (Y.move rfl) ?_
  refine GoL.y rfl (Y.eqPtrNil Try.underlying65 rfl rfl) ?_
  refine GoL.nil ?_
  refine GoE.then_normal ?_
  refine GoC.condF rfl ?_
  refine GoC.skip ?_
  refine GoE.then_normal ?_
  refine GoC.seq ?_
  refine GoC.region ?_
  refine GoL.y rfl (Y.move rfl) ?_
  refine GoL.y rfl (Y.nilCheck rfl) ?_
  refine GoL.y rfl (Y.fieldAddrZ 24 Try.underlying120 rfl Try.sizeOf24 rfl) ?_
  first
    | refine GoL.y rfl (Y.load Try.isAgg24 rfl (Cell.a (by rfl))) ?_
    | refine GoL.y rfl (Y.load Try.isAgg24 rfl (Cell.rd0 Rd.s ‹_› (by rfl))) ?_
    | refine GoL.y rfl (Y.load Try.isAgg24 rfl (Cell.rd Rd.s ‹_› (by rfl))) ?_
    | refine GoL.y rfl (Y.load Try.isAgg24 rfl (Cell.ao (by rfl))) ?_
    | refine GoL.y rfl (Y.load Try.isAgg24 rfl (Cell.az (by rfl))) ?_
    | refine GoL.y rfl (Y.load Try.isAgg24 rfl (Cell.a ‹_›)) ?_
    | refine GoL.y rfl (Y.load Try.isAgg24 rfl (Cell.rd0 ‹_› ‹_› (by rfl))) ?_
    | refine GoL.y rfl (Y.load Try.isAgg24 rfl (Cell.rd ‹_› ‹_› (by rfl))) ?_
  refine GoL.y rfl (Y.assign rfl) ?_
  refine GoL.nil ?_
  refine GoE.then_normal ?_
  refine GoC.ret ?_
  refine GoE.ret1 rfl rfl fun w s => ⟨(), ?_, trivial, finE (by repeat (first | exact Ent.nil | (apply Ent.cons; · repeat (first | exact Take.here | apply Take.there)) | apply Ent.opt0 | apply Ent.opt1 | apply Ent.void | apply Ent.emp0 | apply Ent.two | (apply Ent.allV; · exact sl_void) | (apply Ent.allM; · exact fun _ => sl_void) | apply Ent.f1 rfl | apply Ent.f2 rfl | apply Ent.f3 rfl | apply Ent.f4 rfl | apply Ent.f10 rfl | apply Ent.grp | assumption | exact trivial | rfl | omega)) s⟩
  rfl

theorem eqP1 : EqV Try.prog 70 4 (.agg #[.int .i64 3, .int .i64 0]) (.agg #[.int .i64 3, .int .i64 0]) true := fun d w => by kernel_rfl
theorem eqP2 : EqV Try.prog 70 4 (.agg #[.int .i64 4, .int .i64 (-1)]) (.agg #[.int .i64 4, .int .i64 (-1)]) true := fun d w => by kernel_rfl

set_option maxRecDepth 20000 in
theorem law21_awake {W : World}  : Fn Try.prog W 13 [] [] Unit (fun _ => .bool true) (fun _ => True) (fun _ => []) := by
  refine Fn.intro (N := 63) Try.func13 rfl Try.ntmps13 rfl fun F => ?_
  show GoC _ _ _ _ _ _ [F]
  refine GoC.seq ?_
  refine GoC.region ?_
  refine GoL.y rfl (Y.assign rfl) ?_
  refine GoL.nil ?_
  refine GoE.then_normal ?_
  refine GoC.seq ?_
  refine GoC.region ?_
  refine GoL.y rfl (Y.bld3 (fun v1 v2 v3 => [v1, v2, (.int .i64 0), (.int .i64 0), v3]) rfl rfl rfl (by kernel_rfl)) ?_
  refine GoL.does rfl (Does.bsl 55 rfl rfl (by kernel_rfl)) ?_
  rintro _ _ ⟨b7, rfl, rfl⟩
  refine GoL.does rfl (Does.bsl 56 rfl rfl (by kernel_rfl)) ?_
  rintro _ _ ⟨b8, rfl, rfl⟩
  refine GoL.y rfl (Y.bld1 (fun v1 => [v1, (.int .i64 0), (.int .i64 0), (.int .i64 0), (.slice none 0 0), (.slice none 0 0), (.int .i64 0), (.int .i64 0)]) rfl (by kernel_rfl)) ?_
  refine GoL.does rfl (Does.alloc rfl Try.zeroValue47 rfl) ?_
  rintro _ _ ⟨b1, rfl, rfl⟩
  first
    | refine GoL.does rfl (Does.sta (by exact Try.sizeOf47) rfl rfl rfl (by rfl)) ?_
    | refine GoL.does rfl (Does.stp (by exact Try.sizeOf47) rfl rfl rfl rfl) ?_
  rintro _ _ ⟨rfl, rfl⟩
  refine GoL.nil ?_
  refine GoE.then_normal ?_
  refine GoC.seq ?_
  refine GoC.region ?_
  first
    | refine GoL.y rfl (Y.lda Try.isAgg47 rfl Cells.a (by exact Try.sizeOf47)) ?_
    | refine GoL.y rfl (Y.lda Try.isAgg47 rfl (Cells.rd ‹_› ‹_›) (by exact Try.sizeOf47)) ?_
    | refine GoL.y rfl (Y.lda Try.isAgg47 rfl (Cells.rd Rd.s ‹_›) (by exact Try.sizeOf47)) ?_
    | refine GoL.y rfl (Y.lda Try.isAgg47 rfl (Cells.part0 Cells.a rfl) (by exact Try.sizeOf47)) ?_
  first
    | refine GoL.y rfl (Y.lda Try.isAgg47 rfl Cells.a (by exact Try.sizeOf47)) ?_
    | refine GoL.y rfl (Y.lda Try.isAgg47 rfl (Cells.rd ‹_› ‹_›) (by exact Try.sizeOf47)) ?_
    | refine GoL.y rfl (Y.lda Try.isAgg47 rfl (Cells.rd Rd.s ‹_›) (by exact Try.sizeOf47)) ?_
    | refine GoL.y rfl (Y.lda Try.isAgg47 rfl (Cells.part0 Cells.a rfl) (by exact Try.sizeOf47)) ?_
  refine GoL.does rfl (Does.bsl 47 rfl rfl (by kernel_rfl)) ?_
  rintro _ _ ⟨b13, rfl, rfl⟩
  refine GoL.does rfl (Does.callE rfl Try.call29 rfl (sys_New (A := A18 b7 b8 b13) (ps := [pv18 b7 b8, pv18 b7 b8]) (procs := 1) pv18_two pv18_all pv18_len) (by repeat (first | exact Ent.nil | (apply Ent.cons; · repeat (first | exact Take.here | apply Take.there)) | apply Ent.opt0 | apply Ent.opt1 | apply Ent.void | apply Ent.emp0 | apply Ent.two | (apply Ent.allV; · exact sl_void) | (apply Ent.allM; · exact fun _ => sl_void) | apply Ent.f1 rfl | apply Ent.f2 rfl | apply Ent.f3 rfl | apply Ent.f4 rfl | apply Ent.f10 rfl | apply Ent.grp | assumption | exact trivial | rfl | omega))) ?_
  rintro _ _ ⟨o, ho, rfl, rfl⟩
  rw [show [pv18 b7 b8, pv18 b7 b8].map PrgV.p = [P18, P18] from rfl, show [pv18 b7 b8, pv18 b7 b8].map (·.prio) = [0, 0] from rfl] at *
  rw [a21_0] at ho ⊢
  obtain ⟨sb, rfl⟩ := Option.isSome_iff_exists.1 ho
  refine GoL.fr (A := optH (fun b => sysH b K21 [0, 0]) (some sb)) (Bs := [sysH sb K21 [0, 0]]) (by repeat (first | exact Take.here | apply Take.there)) opt_some ?_
  refine GoL.o2 (C := sysH sb K21 [0, 0]) (by repeat (first | exact Take.here | apply Take.there)) rfl ?_
  rintro kb pv -
  refine GoL.o1 (C := krnH kb K21) (by repeat (first | exact Take.here | apply Take.there)) rfl ?_
  rintro bl -
  have hi : Inv (16 + 2048) K21 := (share_kept (new_inv a21_0).1 [0, 0] 0).1
  have hpo := pok_of a21_p
  refine GoL.y rfl (Y.move rfl) ?_
  refine GoL.y rfl (Y.extract rfl rfl) ?_
  refine GoL.y rfl (Y.extract rfl rfl) ?_
  refine GoL.y rfl (Y.assign rfl) ?_
  refine GoL.y rfl (Y.assign rfl) ?_
  refine GoL.nil ?_
  refine GoE.then_normal ?_
  refine GoC.seq ?_
  refine GoC.seq ?_
  refine GoC.region ?_
  refine GoL.y rfl (Y.move rfl) ?_
  refine GoL.y rfl (Y.neq rfl rfl) ?_
  refine GoL.y rfl (Y.move rfl) ?_
  refine GoL.yg rfl rfl rfl (Y.move rfl) ?_
  refine GoL.yg rfl rfl rfl (Y.eqPtrNil Try.underlying65 rfl rfl) ?_
  refine GoL.y rfl (Y.pickF rfl rfl) ?_
  refine GoL.nil ?_
  refine GoE.then_normal ?_
  refine GoC.cond rfl (fun h22 => ?_) (fun h22 => ?_)
  · cases h22
  · refine GoC.skip ?_
    refine GoE.then_normal ?_
    refine GoC.seq ?_
    refine GoC.region ?_
    refine GoL.y rfl (Y.move rfl) ?_
    refine GoL.does rfl (Does.callE rfl Try.call30 rfl sys_Kern (by repeat (first | exact Ent.nil | (apply Ent.cons; · repeat (first | exact Take.here | apply Take.there)) | apply Ent.opt0 | apply Ent.opt1 | apply Ent.void | apply Ent.emp0 | apply Ent.two | (apply Ent.allV; · exact sl_void) | (apply Ent.allM; · exact fun _ => sl_void) | apply Ent.f1 rfl | apply Ent.f2 rfl | apply Ent.f3 rfl | apply Ent.f4 rfl | apply Ent.f10 rfl | apply Ent.grp | assumption | exact trivial | rfl | omega))) ?_
    rintro _ _ ⟨⟨⟩, -, rfl, rfl⟩
    refine GoL.does rfl (Does.callE rfl Try.call14 rfl (place_Of (k := K21) (l := L21a) (n := 0) (slot := 0) a21_a ((hi.ok.lib _ (List.mem_of_getElem? a21_a)).vl) (hpo.ev _ (List.mem_of_getElem? a21_a))) (by repeat (first | exact Ent.nil | (apply Ent.cons; · repeat (first | exact Take.here | apply Take.there)) | apply Ent.opt0 | apply Ent.opt1 | apply Ent.void | apply Ent.emp0 | apply Ent.two | (apply Ent.allV; · exact sl_void) | (apply Ent.allM; · exact fun _ => sl_void) | apply Ent.f1 rfl | apply Ent.f2 rfl | apply Ent.f3 rfl | apply Ent.f4 rfl | apply Ent.f10 rfl | apply Ent.grp | assumption | exact trivial | rfl | omega))) ?_
    rintro _ _ ⟨u25, -, rfl, rfl⟩
    rw [a21_1]
    refine GoL.y rfl (Y.move rfl) ?_
    refine GoL.does rfl (Does.callE rfl Try.call30 rfl sys_Kern (by repeat (first | exact Ent.nil | (apply Ent.cons; · repeat (first | exact Take.here | apply Take.there)) | apply Ent.opt0 | apply Ent.opt1 | apply Ent.void | apply Ent.emp0 | apply Ent.two | (apply Ent.allV; · exact sl_void) | (apply Ent.allM; · exact fun _ => sl_void) | apply Ent.f1 rfl | apply Ent.f2 rfl | apply Ent.f3 rfl | apply Ent.f4 rfl | apply Ent.f10 rfl | apply Ent.grp | assumption | exact trivial | rfl | omega))) ?_
    rintro _ _ ⟨⟨⟩, -, rfl, rfl⟩
    refine GoL.does rfl (Does.callE rfl Try.call14 rfl (place_Of (k := K21) (l := L21b) (n := 1) (slot := 0) a21_b ((hi.ok.lib _ (List.mem_of_getElem? a21_b)).vl) (hpo.ev _ (List.mem_of_getElem? a21_b))) (by repeat (first | exact Ent.nil | (apply Ent.cons; · repeat (first | exact Take.here | apply Take.there)) | apply Ent.opt0 | apply Ent.opt1 | apply Ent.void | apply Ent.emp0 | apply Ent.two | (apply Ent.allV; · exact sl_void) | (apply Ent.allM; · exact fun _ => sl_void) | apply Ent.f1 rfl | apply Ent.f2 rfl | apply Ent.f3 rfl | apply Ent.f4 rfl | apply Ent.f10 rfl | apply Ent.grp | assumption | exact trivial | rfl | omega))) ?_
    rintro _ _ ⟨u28, -, rfl, rfl⟩
    rw [a21_2]
    refine GoL.y rfl (Y.assign rfl) ?_
    refine GoL.y rfl (Y.assign rfl) ?_
    refine GoL.nil ?_
    refine GoE.then_normal ?_
    refine GoC.seq ?_
    refine GoC.region ?_
    refine GoL.y rfl (Y.move rfl) ?_
    first
      | refine GoL.y rfl (Y.lenRd Try.underlying37 rfl Rd.s) ?_
      | refine GoL.y rfl (Y.lenRd Try.underlying37 rfl ‹_›) ?_
      | refine GoL.y rfl (Y.lenSlice Try.underlying37 rfl) ?_
    refine GoL.y rfl (Y.eql rfl rfl) ?_
    refine GoL.y rfl (Y.move rfl) ?_
    refine GoL.yg rfl rfl rfl (Y.move rfl) ?_
    refine GoL.yg rfl rfl rfl (Y.ixRd 0 Try.underlying37 Try.sizeOf70 rfl rfl Rd.s rfl (by decide)) ?_
    refine GoL.yg rfl rfl rfl (Y.lda Try.isAgg70 rfl (Cells.rd Rd.s (show ([⟨3, 0⟩] : List Plc)[0]? = some ⟨3, 0⟩ from rfl)) (by exact Try.sizeOf70)) ?_
    refine GoL.yg rfl rfl rfl (Y.bld1 (fun v1 => [v1, (.int .i64 0)]) rfl (by kernel_rfl)) ?_
    refine GoL.yg rfl rfl rfl (Y.eqAgg (by kernel_rfl) eqP1 rfl rfl rfl) ?_
    refine GoL.y rfl (Y.pickT rfl rfl) ?_
    refine GoL.y rfl (Y.move rfl) ?_
    refine GoL.yg rfl rfl rfl (Y.move rfl) ?_
    first
      | refine GoL.yg rfl rfl rfl (Y.lenRd Try.underlying37 rfl Rd.s) ?_
      | refine GoL.yg rfl rfl rfl (Y.lenRd Try.underlying37 rfl ‹_›) ?_
      | refine GoL.yg rfl rfl rfl (Y.lenSlice Try.underlying37 rfl) ?_
    refine GoL.yg rfl rfl rfl (Y.eql rfl rfl) ?_
    refine GoL.y rfl (Y.pickT rfl rfl) ?_
    refine GoL.y rfl (Y.move rfl) ?_
    refine GoL.yg rfl rfl rfl (Y.move rfl) ?_
    refine GoL.yg rfl rfl rfl (Y.ixRd 0 Try.underlying37 Try.sizeOf70 rfl rfl Rd.s rfl (by decide)) ?_
    refine GoL.yg rfl rfl rfl (Y.lda Try.isAgg70 rfl (Cells.rd Rd.s (show ([⟨4, -1⟩] : List Plc)[0]? = some ⟨4, -1⟩ from rfl)) (by exact Try.sizeOf70)) ?_
    refine GoL.yg rfl rfl rfl (Y.bld2 (fun v1 v2 => [v1, v2]) rfl rfl (by kernel_rfl)) ?_
    refine GoL.yg rfl rfl rfl (Y.eqAgg (by kernel_rfl) eqP2 rfl rfl rfl) ?_
    refine GoL.y rfl (Y.pickT rfl rfl) ?_
    refine GoL.y rfl (Y.move rfl) ?_
    refine GoL.yg rfl rfl rfl (Y.move rfl) ?_
    refine GoL.dg rfl rfl rfl (Does.callE rfl Try.call30 rfl sys_Kern (by repeat (first | exact Ent.nil | (apply Ent.cons; · repeat (first | exact Take.here | apply Take.there)) | apply Ent.opt0 | apply Ent.opt1 | apply Ent.void | apply Ent.emp0 | apply Ent.two | (apply Ent.allV; · exact sl_void) | (apply Ent.allM; · exact fun _ => sl_void) | apply Ent.f1 rfl | apply Ent.f2 rfl | apply Ent.f3 rfl | apply Ent.f4 rfl | apply Ent.f10 rfl | apply Ent.grp | assumption | exact trivial | rfl | omega))) ?_
    rintro _ _ ⟨⟨⟩, -, rfl, rfl⟩
    refine GoL.dg rfl rfl rfl (Does.callE rfl Try.call14 rfl (place_Of (k := K21) (l := L21a) (n := 0) (slot := 1) a21_a ((hi.ok.lib _ (List.mem_of_getElem? a21_a)).vl) (hpo.ev _ (List.mem_of_getElem? a21_a))) (by repeat (first | exact Ent.nil | (apply Ent.cons; · repeat (first | exact Take.here | apply Take.there)) | apply Ent.opt0 | apply Ent.opt1 | apply Ent.void | apply Ent.emp0 | apply Ent.two | (apply Ent.allV; · exact sl_void) | (apply Ent.allM; · exact fun _ => sl_void) | apply Ent.f1 rfl | apply Ent.f2 rfl | apply Ent.f3 rfl | apply Ent.f4 rfl | apply Ent.f10 rfl | apply Ent.grp | assumption | exact trivial | rfl | omega))) ?_
    rintro _ _ ⟨u54, -, rfl, rfl⟩
    rw [a21_3]
    first
      | refine GoL.yg rfl rfl rfl (Y.lenRd Try.underlying37 rfl Rd.s) ?_
      | refine GoL.yg rfl rfl rfl (Y.lenRd Try.underlying37 rfl ‹_›) ?_
      | refine GoL.yg rfl rfl rfl (Y.lenSlice Try.underlying37 rfl) ?_
    refine GoL.yg rfl rfl rfl (Y.eql rfl rfl) ?_
    refine GoL.y rfl (Y.pickT rfl rfl) ?_
    refine GoL.y rfl (Y.move rfl) ?_
    refine GoL.yg rfl rfl rfl (Y.move rfl) ?_
    refine GoL.dg rfl rfl rfl (Does.callE rfl Try.call30 rfl sys_Kern (by repeat (first | exact Ent.nil | (apply Ent.cons; · repeat (first | exact Take.here | apply Take.there)) | apply Ent.opt0 | apply Ent.opt1 | apply Ent.void | apply Ent.emp0 | apply Ent.two | (apply Ent.allV; · exact sl_void) | (apply Ent.allM; · exact fun _ => sl_void) | apply Ent.f1 rfl | apply Ent.f2 rfl | apply Ent.f3 rfl | apply Ent.f4 rfl | apply Ent.f10 rfl | apply Ent.grp | assumption | exact trivial | rfl | omega))) ?_
    rintro _ _ ⟨⟨⟩, -, rfl, rfl⟩
    refine GoL.dg rfl rfl rfl (Does.callE rfl Try.call15 rfl (place_Right hi.ok hpo) (by repeat (first | exact Ent.nil | (apply Ent.cons; · repeat (first | exact Take.here | apply Take.there)) | apply Ent.opt0 | apply Ent.opt1 | apply Ent.void | apply Ent.emp0 | apply Ent.two | (apply Ent.allV; · exact sl_void) | (apply Ent.allM; · exact fun _ => sl_void) | apply Ent.f1 rfl | apply Ent.f2 rfl | apply Ent.f3 rfl | apply Ent.f4 rfl | apply Ent.f10 rfl | apply Ent.grp | assumption | exact trivial | rfl | omega))) ?_
    rintro _ _ ⟨⟨⟩, -, rfl, rfl⟩
    rw [a21_4]
    refine GoL.y rfl (Y.pickT rfl rfl) ?_
    refine GoL.y rfl (Y.assign rfl) ?_
    refine GoL.nil ?_
    refine GoE.then_normal ?_
    refine GoC.ret ?_
    refine GoE.ret1 rfl rfl fun w s => ⟨(), ?_, trivial, finE (by repeat (first | exact Ent.nil | (apply Ent.cons; · repeat (first | exact Take.here | apply Take.there)) | apply Ent.opt0 | apply Ent.opt1 | apply Ent.void | apply Ent.emp0 | apply Ent.two | (apply Ent.allV; · exact sl_void) | (apply Ent.allM; · exact fun _ => sl_void) | apply Ent.f1 rfl | apply Ent.f2 rfl | apply Ent.f3 rfl | apply Ent.f4 rfl | apply Ent.f10 rfl | apply Ent.grp | assumption | exact trivial | rfl | omega)) s⟩
    rfl

set_option maxRecDepth 20000 in
theorem law21_None {W : World} {n slot : Int} : Fn Try.prog W 5 [.int .i64 n, .int .i64 slot] [] Unit (fun _ => .bool true) (fun _ => True) (fun _ => []) := by
  refine Fn.intro (N := 17) Try.func5 rfl Try.ntmps5 rfl fun F => ?_
  show GoC _ _ _ _ _ _ [F]
  refine GoC.seq ?_
  refine GoC.region ?_
  refine GoL.y rfl (Y.assign rfl) ?_
  refine GoL.nil ?_
  refine GoE.then_normal ?_
  refine GoC.seq ?_
  refine GoC.region ?_
  refine GoL.does rfl (Does.callE rfl Try.call13 rfl law21_awake (by repeat (first | exact Ent.nil | (apply Ent.cons; · repeat (first | exact Take.here | apply Take.there)) | apply Ent.opt0 | apply Ent.opt1 | apply Ent.void | apply Ent.emp0 | apply Ent.two | (apply Ent.allV; · exact sl_void) | (apply Ent.allM; · exact fun _ => sl_void) | apply Ent.f1 rfl | apply Ent.f2 rfl | apply Ent.f3 rfl | apply Ent.f4 rfl | apply Ent.f10 rfl | apply Ent.grp | assumption | exact trivial | rfl | omega))) ?_
  rintro _ _ ⟨⟨⟩, -, rfl, rfl⟩
  refine GoL.y rfl (Y.move rfl) ?_
  refine GoL.yg rfl rfl rfl (Y.move rfl) ?_
  refine GoL.yg rfl rfl rfl (Y.move rfl) ?_
  refine GoL.dg rfl rfl rfl (Does.callE rfl Try.call14 rfl place_OfN (by repeat (first | exact Ent.nil | (apply Ent.cons; · repeat (first | exact Take.here | apply Take.there)) | apply Ent.opt0 | apply Ent.opt1 | apply Ent.void | apply Ent.emp0 | apply Ent.two | (apply Ent.allV; · exact sl_void) | (apply Ent.allM; · exact fun _ => sl_void) | apply Ent.f1 rfl | apply Ent.f2 rfl | apply Ent.f3 rfl | apply Ent.f4 rfl | apply Ent.f10 rfl | apply Ent.grp | assumption | exact trivial | rfl | omega))) ?_
  rintro _ _ ⟨u9, -, rfl, rfl⟩
  first
    | refine GoL.yg rfl rfl rfl (Y.lenRd Try.underlying37 rfl Rd.s) ?_
    | refine GoL.yg rfl rfl rfl (Y.lenRd Try.underlying37 rfl ‹_›) ?_
    | refine GoL.yg rfl rfl rfl (Y.lenSlice Try.underlying37 rfl) ?_
  refine GoL.yg rfl rfl rfl (Y.eql rfl rfl) ?_
  refine GoL.y rfl (Y.pickT rfl rfl) ?_
  refine GoL.y rfl (Y.move rfl) ?_
  refine GoL.dg rfl rfl rfl (Does.callE rfl Try.call15 rfl place_RightN (by repeat (first | exact Ent.nil | (apply Ent.cons; · repeat (first | exact Take.here | apply Take.there)) | apply Ent.opt0 | apply Ent.opt1 | apply Ent.void | apply Ent.emp0 | apply Ent.two | (apply Ent.allV; · exact sl_void) | (apply Ent.allM; · exact fun _ => sl_void) | apply Ent.f1 rfl | apply Ent.f2 rfl | apply Ent.f3 rfl | apply Ent.f4 rfl | apply Ent.f10 rfl | apply Ent.grp | assumption | exact trivial | rfl | omega))) ?_
  rintro _ _ ⟨⟨⟩, -, rfl, rfl⟩
  first
    | refine GoL.yg rfl rfl rfl (Y.notD rfl) ?_
    | refine GoL.yg rfl rfl rfl (Y.not rfl) ?_
  refine GoL.y rfl (Y.pickT rfl rfl) ?_
  refine GoL.y rfl (Y.assign rfl) ?_
  refine GoL.nil ?_
  refine GoE.then_normal ?_
  refine GoC.ret ?_
  refine GoE.ret1 rfl rfl fun w s => ⟨(), ?_, trivial, finE (by repeat (first | exact Ent.nil | (apply Ent.cons; · repeat (first | exact Take.here | apply Take.there)) | apply Ent.opt0 | apply Ent.opt1 | apply Ent.void | apply Ent.emp0 | apply Ent.two | (apply Ent.allV; · exact sl_void) | (apply Ent.allM; · exact fun _ => sl_void) | apply Ent.f1 rfl | apply Ent.f2 rfl | apply Ent.f3 rfl | apply Ent.f4 rfl | apply Ent.f10 rfl | apply Ent.grp | assumption | exact trivial | rfl | omega)) s⟩
  rfl

end Go.SLYtkflpgknieoknaa
