/- Walks of functions, and what they compute. Conditions: none, this text proves no statement. -/
import Derived.Test.YtnceicnimongcaaGreatG05
import Derived.Test.YtnceicnimongcaaGreatProg
import Derived.Test.YtnceicnimongcaaGreatG09
import Derived.Test.YtnceicnimongcaaGreatG08
import Derived.Test.YtnceicnimongcaaGreatG04
import Derived.KernelRfl
import Derived.Test.YtnceicnimongcaaGreatG03
import Derived.Test.YtnceicnimongcaaGreatG07
set_option maxRecDepth 20000
namespace Go.SLYtnceicnimongcaaGreat
open Go Go.RowKit Go.Proofs Go.Proofs.Tryz

theorem next_codeH {W : World} {fv c1 c2 c3 c4 c5 c6 c7 : Value} {p : Prg} {f : Frm} (hl : p.funcs.length ≤ 1000000) (hl2 : ∀ g ∈ p.funcs, g.length ≤ 256) : Fn Tryz.prog W 81 [.agg #[fv, c1, c2, c3, c4, c5, c6, c7], .agg (frmE f).toArray] [codeH fv p.funcs] Unit (fun _ => nextR (nextI p f)) (fun _ => True) (fun _ => [codeH fv p.funcs]) :=
  Fn.byX1 fun fs hfs => frame_Next (A := seps [sl fstE 1 fv fs, allH (fun x => sl insE 5 x.1 x.2) fs]) (Rd.grp (Rd.sl .here)) (fun x hx => Rd.grp (rd_one (f := fun x : Value × List Ins => x.1) (g := fun x => x.2) hx (.there .here))) hfs (by rw [← List.length_map (f := (·.2)), hfs]; exact hl) (fun x hx => Nat.le_trans (hl2 _ (by rw [← hfs]; exact List.mem_map_of_mem hx)) (by decide))

theorem core_Run {W : World} {b : Nat} {s : Spc} {n choice : Int} (hO : SpcOk s) : Fn Tryz.prog W 82 [ptr b, .int .i64 n, .int .i64 choice] [spcH b s] Value (fun u => .tuple #[.agg (effE u (s.run n choice).1).toArray, .int .i64 (s.run n choice).2.1]) (fun _ => True) (fun u => [sl intE 1 u (s.run n choice).1.woken, spcH b (s.run n choice).2.2]) := by
  refine Fn.intro (N := 76) func82 rfl ntmps82 rfl fun F => ?_
  show GoC _ _ _ _ _ _ [spcH b s, F]
  refine .o1 (C := spcH b s) .auto rfl ?_
  rintro ps -
  refine .o10 (C := spcX b ps s) .auto rfl ?_
  rintro fv sv pv bt vm bg vt bk bw vr -
  refine .know (fun w st => st.fact .auto thrs_same) fun hs => ?_
  refine .s (.r ?_)
  refine .does rfl (Does.alloc rfl zeroValue38 rfl) ?_
  rintro _ _ ⟨b6, rfl, rfl⟩
  refine .p (.a rfl) (.n (.t (.s (.r (.p (.m rfl) (.p (.m rfl) ?_))))))
  refine .does rfl (Does.callE rfl call80 rfl core_at .auto) ?_
  rintro _ _ ⟨⟨⟩, -, rfl, rfl⟩
  refine .p (.a rfl) (.n (.t (.s (.b (.s (.r (.p (.m rfl) (.p (.eqp rfl rfl) (.p (.a rfl) (.n (.t (.cond rfl (fun h15 => ?_) (fun h15 => ?_)))))))))))))
  · have hap : atP ps n = none := by
      cases hh : atP ps n with
      | none => rfl
      | some p => rw [hh] at h15; cases h15
    refine .s (.r ?_)
    refine .p (.bld0 ([(.slice none 0 0), (.bool false), (.bool false), (.bool false)]) (by kernel_rfl)) ?_
    refine .does rfl (Does.sta (by exact sizeOf38) rfl rfl rfl (by rfl)) ?_
    rintro _ _ ⟨rfl, rfl⟩
    refine .p (.a rfl) (.n (.t (.e (.br (.tr ?_)))))
    rw [run_none (at_no hs hap hO.lt)]
    refine .retCT rfl rfl isAgg38 (by exact sizeOf38) Cells.a rfl fun w s => ⟨(.slice none 0 0), ?_, trivial, finE .auto s⟩
    rfl
  · obtain ⟨p, hap⟩ : ∃ p, atP ps n = some p := by
      cases hh : atP ps n with
      | none => rw [hh] at h15; cases h15
      | some p => exact ⟨p, rfl⟩
    rw [hap]
    obtain ⟨k, t, rfl, hk16, hp, ht, hat⟩ := at_yes hs hap hO.lt
    have hR := (hO.R k t ht).1
    have hpc := (hO.R k t ht).2
    refine .s (.r ?_)
    refine .o10 (C := spcX b ps s) .auto rfl ?_
    rintro fv sv pv bt vm bg vt bk bw vr -
    refine .fr .auto (thrs_out hp ht) ?_
    refine .p (.m rfl) (.p (.n rfl) (.p (.f rfl) (.p (.l rfl) (.p (.neq rfl rfl) (.p (.a rfl) (.n (.t (.condD rfl (fun h19 => ?_) (fun h19 => ?_)))))))))
    · refine .s (.r ?_)
      refine .p (.bld0 ([(.slice none 0 0), (.bool false), (.bool false), (.bool false)]) (by kernel_rfl)) ?_
      refine .does rfl (Does.sta (by exact sizeOf38) rfl rfl rfl (by rfl)) ?_
      rintro _ _ ⟨rfl, rfl⟩
      refine .p (.a rfl) (.n (.t (.e (.br (.tr ?_)))))
      refine .to (A := thrsH ps s.thr) (Bs := [arr p 0 (thrC t), thrsH (ps.set k none) (s.thr.set k none)]) .auto (thrs_keep hp ht) ?_
      rw [run_wait hat h19]
      refine .retCT rfl rfl isAgg38 (by exact sizeOf38) Cells.a rfl fun w s => ⟨(.slice none 0 0), ?_, trivial, finE .auto s⟩
      rfl
    · have hw0 : t.why = 0 := Decidable.not_not.mp h19
      refine .v (.b (.t (.s ?_)))
      refine .drawF [arr b 0 (spcC fv sv pv s.prg bt ps vm bg vt bk bw vr), arr p 0 (thrC t)] [0, 0, 0, 0, 0, 0, 0, 0, 2, 0, 0, 0, 4, 2, 0] [0, 1, 2, 3, 4, 5, 6, 7, 8, 9, 10, 11, 12, 13, 14] rfl (by kernel_rfl) ?_
      refine GoF.q rfl rfl rfl Kept.auto (Y.m rfl) ?_
      refine GoF.q rfl rfl rfl Kept.auto (Y.n rfl) ?_
      refine GoF.q rfl rfl rfl Kept.auto (Y.fieldAddrZ 25 underlying74 rfl sizeOf25 rfl) ?_
      refine GoF.q rfl rfl rfl Kept.auto (Y.lda isAgg25 rfl (Cells.part0 (ds := prgCells fv sv pv s.prg) (Cells.a (cs := spcC fv sv pv s.prg bt ps vm bg vt bk bw vr)) rfl) (by exact sizeOf25)) ?_
      refine GoF.q rfl rfl rfl Kept.auto (Y.m rfl) ?_
      refine GoF.q rfl rfl rfl Kept.auto (Y.n rfl) ?_
      refine GoF.q rfl rfl rfl Kept.auto (Y.fieldAddrZ 128 underlying130 rfl sizeOf128 rfl) ?_
      refine GoF.q rfl rfl rfl Kept.auto (Y.lda isAgg128 rfl (Cells.part0 (ds := frmE t.frm) (Cells.a (cs := thrC t)) rfl) (by exact sizeOf128)) ?_
      refine GoF.callE rfl (.inl rfl) rfl (fun _ => Kept.auto) call81 rfl (next_codeH (p := s.prg) (f := t.frm) hO.codel.1 hO.codel.2) .auto (fun _ _ => Kept.auto) ?_
      rintro ⟨⟩ -
      refine GoF.q rfl rfl rfl Kept.auto (Y.m rfl) ?_
      refine GoF.q rfl rfl rfl Kept.auto (Y.extract (v := .agg (insE ((nextI s.prg t.frm).getD Ins.z)).toArray) rfl rfl) ?_
      refine GoF.q rfl rfl rfl Kept.auto (Y.extract (v := .bool (nextI s.prg t.frm).isSome) rfl rfl) ?_
      refine GoF.fresh rfl rfl rfl (by decide) Kept.auto (fresh_alloc zeroValue80 rfl) ?_
      rintro b9
      refine GoF.sta2 rfl rfl (by exact sizeOf80) rfl rfl rfl (by rfl) Kept.auto Kept.auto ?_
      refine GoF.q rfl rfl rfl Kept.auto (Y.a rfl) ?_
      refine GoF.nil ?_
      refine .t (.s (.r (.p (.m rfl) (.p (.m rfl) (.p (.m rfl) (.p (.lA rfl) (.p (.m rfl) ?_)))))))
      refine .p (.bld5 (fun _ _ _ _ _ => dngC b p (s.doing k ((nextI s.prg t.frm).getD Ins.z) choice) (.slice none 0 0) (.slice none 0 0)) rfl rfl rfl rfl rfl (by kernel_rfl)) ?_
      refine .does rfl (Does.box rfl rfl rfl) ?_
      rintro _ _ ⟨b44, rfl, rfl⟩
      refine .p (.a rfl) (.n (.t (.s (.b (.s (.r (.p (.m rfl) (.p (.not rfl) (.p (.a rfl) (.n (.t (.cond rfl (fun h56 => ?_) (fun h56 => ?_)))))))))))))
      · have hn : (nextI s.prg t.frm) = none := Option.isNone_iff_eq_none.mp (by simpa using h56)
        refine .s (.r (.p (.m rfl) ?_))
        refine .p (.bld1 (fun v1 => [v1, (.int .i64 0), (.int .i64 0), (.int .i64 0), (.int .u64 0)]) rfl (by kernel_rfl)) ?_
        refine .p (.n rfl) (.p (.f rfl) ?_)
        refine .does rfl (Does.stp (vs := insE ⟨23, 0, 0, 0, 0⟩) (by exact sizeOf80) rfl rfl rfl rfl) ?_
        rintro _ _ ⟨rfl, rfl⟩
        rw [show setFrom (dngC b p (s.doing k ((nextI s.prg t.frm).getD Ins.z) choice) (.slice none 0 0) (.slice none 0 0)) 3 (insE ⟨23, 0, 0, 0, 0⟩) = dngC b p (s.doing k ⟨23, 0, 0, 0, 0⟩ choice) (.slice none 0 0) (.slice none 0 0) from rfl]
        refine .n (.t (.s (.r (.p (.m rfl) ?_))))
        refine .to (A := thrsH ps s.thr) (Bs := [arr p 0 (thrC t), thrsH (ps.set k none) (s.thr.set k none)]) .auto (thrs_keep hp ht) ?_
        refine .does rfl (Does.callE rfl call88 rfl (dng_tell (d := (s.doing k ⟨23, 0, 0, 0, 0⟩ choice)) hp ht (Nat.le_trans hO.recs (by decide))) .auto) ?_
        rintro _ _ ⟨⟨⟩, -, rfl, rfl⟩
        refine .n (.t (.r (.p (.m rfl) ?_)))
        refine .does rfl (Does.callE rfl call89 rfl (dng_fin (d := (s.doing k ⟨23, 0, 0, 0, 0⟩ choice).tell 0 0 0 true) hp ht hO.lt (hs.1.trans hO.lt) hO.T hR (Nat.zero_le _) (Nat.zero_le _) (hO.joins hs ht hw0)) .auto) ?_
        rintro _ _ ⟨qs, -, rfl, rfl⟩
        refine .n (.b (.t (.s (.r (.p (.m rfl) ?_)))))
        refine .does rfl (Does.callE rfl call92 rfl (dng_finish (d := (((s.doing k ⟨23, 0, 0, 0, 0⟩ choice).tell 0 0 0 true).fin 0)) (Nat.le_trans (grew_tell.trans grew_fin).1 (by have := hO.recs; show s.recs.length + _ ≤ _; omega)) (Nat.le_trans (grew_tell.trans grew_fin).2 (by show 0 + _ ≤ _; decide))) .auto) ?_
        rintro _ _ ⟨u75, -, rfl, rfl⟩
        refine .does rfl (Does.staS (vs := [.bool (((s.doing k ⟨23, 0, 0, 0, 0⟩ choice).tell 0 0 0 true).fin 0).finish.1.stopped, .bool (((s.doing k ⟨23, 0, 0, 0, 0⟩ choice).tell 0 0 0 true).fin 0).finish.1.ended, .bool (((s.doing k ⟨23, 0, 0, 0, 0⟩ choice).tell 0 0 0 true).fin 0).finish.1.yielded]) (by exact sizeOf38) rfl rfl rfl rfl) ?_
        rintro _ _ ⟨rfl, rfl⟩
        refine .p (.a rfl) (.n (.t (.e ?_)))
        rw [run_end hat h19 hn rfl]
        refine .retCT rfl rfl isAgg38 (by exact sizeOf38) Cells.a rfl fun w s => ⟨u75, ?_, trivial, finE .auto s⟩
        rfl
      · obtain ⟨i, hn⟩ : ∃ i, (nextI s.prg t.frm) = some i := Option.isSome_iff_exists.mp (by simpa using h56)
        rw [show ((nextI s.prg t.frm).getD Ins.z) = i from by rw [hn]; rfl]
        obtain ⟨hI, hIn, hIt⟩ := next_code hO hn
        refine .s (.r (.p (.z rfl) (.p (.l rfl) ?_)))
        refine .does rfl (Does.callE rfl call68 rfl inst_Class .auto) ?_
        rintro _ _ ⟨⟨⟩, -, rfl, rfl⟩
        refine .p (.eql rfl rfl) (.p (.a rfl) (.n (.t (.condD rfl (fun h67 => ?_) (fun h67 => ?_)))))
        · refine .r (.p (.m rfl) ?_)
          refine .to (A := thrsH ps s.thr) (Bs := [arr p 0 (thrC t), thrsH (ps.set k none) (s.thr.set k none)]) .auto (thrs_keep hp ht) ?_
          refine .does rfl (Does.callE rfl call90 rfl (dng_plain (d := (s.doing k i choice)) hp ht hI (hR.frm hpc) h67 hO.mem (Nat.le_trans hO.recs (by decide)) hO.lt (hs.1.trans hO.lt) hO.T hR (Nat.zero_le _) (Nat.zero_le _) (hO.joins hs ht hw0)) .auto) ?_
          rintro _ _ ⟨qs, -, rfl, rfl⟩
          refine .n (.b (.t (.s (.r (.p (.m rfl) ?_)))))
          refine .does rfl (Does.callE rfl call92 rfl (dng_finish (d := (s.doing k i choice).plain) (Nat.le_trans (grew_plain).1 (by have := hO.recs; show s.recs.length + _ ≤ _; omega)) (Nat.le_trans (grew_plain).2 (by show 0 + _ ≤ _; decide))) .auto) ?_
          rintro _ _ ⟨u75, -, rfl, rfl⟩
          refine .does rfl (Does.staS (vs := [.bool (s.doing k i choice).plain.finish.1.stopped, .bool (s.doing k i choice).plain.finish.1.ended, .bool (s.doing k i choice).plain.finish.1.yielded]) (by exact sizeOf38) rfl rfl rfl rfl) ?_
          rintro _ _ ⟨rfl, rfl⟩
          refine .p (.a rfl) (.n (.t (.e ?_)))
          rw [run_plain hat h19 hn h67 rfl]
          refine .retCT rfl rfl isAgg38 (by exact sizeOf38) Cells.a rfl fun w s => ⟨u75, ?_, trivial, finE .auto s⟩
          rfl
        · refine .s (.r (.p (.m rfl) (.p (.n rfl) (.p (.z rfl) (.p (.f rfl) (.p (.l rfl) ?_))))))
          refine .p (.add rfl rfl (by omega)) ?_
          refine .p (.n rfl) (.p (.z rfl) (.p (.f rfl) ?_))
          refine .does rfl (Does.st sizeOf3 rfl rfl rfl rfl) ?_
          rintro _ _ ⟨rfl, rfl⟩
          rw [thr_pc]
          refine .n (.t (.r (.p (.m rfl) ?_)))
          refine .to (A := thrsH ps (s.thr.set k (some ({ t with pc := t.pc + 1 })))) (Bs := [arr p 0 (thrC ({ t with pc := t.pc + 1 })), thrsH (ps.set k none) (s.thr.set k none)]) .auto (thrs_shut (List.getElem?_eq_some_iff.1 ht).1 hp) ?_
          refine .does rfl (Does.callE rfl call91 rfl (dng_call (d := ((s.doing k i choice).setT { t with pc := t.pc + 1 })) hp (setT_same ht) (hO.call hs ht hw0 hI (hIn h67) hIt)) .auto) ?_
          rintro _ _ ⟨qs, -, rfl, rfl⟩
          refine .n (.b (.t (.s (.r (.p (.m rfl) ?_)))))
          refine .does rfl (Does.callE rfl call92 rfl (dng_finish (d := ((s.doing k i choice).setT { t with pc := t.pc + 1 }).call) (Nat.le_trans (grew_call hO.gsm.2).1 (by have := hO.recs; show s.recs.length + _ ≤ _; omega)) (Nat.le_trans (grew_call hO.gsm.2).2 (by show 0 + _ ≤ _; decide))) .auto) ?_
          rintro _ _ ⟨u75, -, rfl, rfl⟩
          refine .does rfl (Does.staS (vs := [.bool ((s.doing k i choice).setT { t with pc := t.pc + 1 }).call.finish.1.stopped, .bool ((s.doing k i choice).setT { t with pc := t.pc + 1 }).call.finish.1.ended, .bool ((s.doing k i choice).setT { t with pc := t.pc + 1 }).call.finish.1.yielded]) (by exact sizeOf38) rfl rfl rfl rfl) ?_
          rintro _ _ ⟨rfl, rfl⟩
          refine .p (.a rfl) (.n (.t (.e ?_)))
          rw [run_call hat h19 hn h67 rfl]
          refine .retCT rfl rfl isAgg38 (by exact sizeOf38) Cells.a rfl fun w s => ⟨u75, ?_, trivial, finE .auto s⟩
          rfl

end Go.SLYtnceicnimongcaaGreat
namespace Go.SLYtnceicnimongcaaGreat
open Go Go.RowKit Go.Proofs Go.Proofs.Tryz

end Go.SLYtnceicnimongcaaGreat
namespace Go.SLYtnceicnimongcaaGreat
open Go Go.RowKit Go.Proofs Go.Proofs.Tryz

theorem core_Class {W : World} {b : Nat} {s : Spc} {n : Int} (hO : SpcOk s) : Fn Tryz.prog W 60 [ptr b, .int .i64 n] [spcH b s] Unit (fun _ => .int .i64 (s.class n)) (fun _ => True) (fun _ => [spcH b s]) := by
  refine Fn.intro (N := 37) func60 rfl ntmps60 rfl fun F => ?_
  show GoC _ _ _ _ _ _ [spcH b s, F]
  refine .o1 (C := spcH b s) .auto rfl ?_
  rintro ps -
  refine .o10 (C := spcX b ps s) .auto rfl ?_
  rintro fv sv pv bt vm bg vt bk bw vr -
  refine .know (fun w st => st.fact .auto thrs_same) fun hs => ?_
  refine .s (.r (.p (.a rfl) (.n (.t (.s (.r (.p (.m rfl) (.p (.m rfl) ?_))))))))
  refine .does rfl (Does.callE rfl call80 rfl core_at .auto) ?_
  rintro _ _ ⟨⟨⟩, -, rfl, rfl⟩
  refine .p (.a rfl) (.n (.t (.s (.s (.r (.p (.m rfl) (.p (.eqp rfl rfl) (.p (.m rfl) ?_))))))))
  refine .part (t := 13) rfl (fun h13 => ?_) (fun h13 => ?_)
  · refine .u (.u (.u (.u (.u (.p (.t rfl rfl) (.n (.t (.condT rfl ?_))))))))
    refine .s (.r (.p (.a rfl) (.n (.t (.e (.tr ?_))))))
    have hap : atP ps n = none := by
      cases hh : atP ps n with
      | none => rfl
      | some p => rw [hh] at h13; cases h13
    rw [class_none (at_no hs hap hO.lt)]
    refine .ret1 rfl rfl fun w s => ⟨(), ?_, trivial, finE .auto s⟩
    rfl
  · obtain ⟨p, hap⟩ : ∃ p, atP ps n = some p := by
      cases hh : atP ps n with
      | none => rw [hh] at h13; cases h13
      | some p => exact ⟨p, rfl⟩
    rw [hap]
    obtain ⟨k, t, rfl, hk16, hp, ht, hat⟩ := at_yes hs hap hO.lt
    refine .o10 (C := spcX b ps s) .auto rfl ?_
    rintro fv sv pv bt vm bg vt bk bw vr -
    refine .fr .auto (thrs_out hp ht) ?_
    refine .g (.m rfl) (.g (.n rfl) (.g (.f rfl) (.g (.l rfl) (.g (.neq rfl rfl) (.p (.u rfl rfl) (.n (.t (.condD rfl (fun h19 => ?_) (fun h19 => ?_)))))))))
    · refine .s (.r (.p (.a rfl) (.n (.t (.e (.tr ?_))))))
      refine .to (A := thrsH ps s.thr) (Bs := [arr p 0 (thrC t), thrsH (ps.set k none) (s.thr.set k none)]) .auto (thrs_keep hp ht) ?_
      rw [class_wait hat h19]
      refine .ret1 rfl rfl fun w s => ⟨(), ?_, trivial, finE .auto s⟩
      rfl
    · refine .v (.t (.s ?_))
      refine .drawF [arr b 0 (spcC fv sv pv s.prg bt ps vm bg vt bk bw vr), arr p 0 (thrC t)] [0, 0, 0, 0, 0, 0, 0, 0, 2, 0, 0, 0, 4, 2, 0] [0, 1, 2, 3, 4, 5, 6, 7, 8, 9, 10, 11, 12, 13, 14] rfl (by kernel_rfl) ?_
      refine GoF.q rfl rfl rfl Kept.auto (Y.m rfl) ?_
      refine GoF.q rfl rfl rfl Kept.auto (Y.n rfl) ?_
      refine GoF.q rfl rfl rfl Kept.auto (Y.fieldAddrZ 25 underlying74 rfl sizeOf25 rfl) ?_
      refine GoF.q rfl rfl rfl Kept.auto (Y.lda isAgg25 rfl (Cells.part0 (ds := prgCells fv sv pv s.prg) (Cells.a (cs := spcC fv sv pv s.prg bt ps vm bg vt bk bw vr)) rfl) (by exact sizeOf25)) ?_
      refine GoF.q rfl rfl rfl Kept.auto (Y.m rfl) ?_
      refine GoF.q rfl rfl rfl Kept.auto (Y.n rfl) ?_
      refine GoF.q rfl rfl rfl Kept.auto (Y.fieldAddrZ 128 underlying130 rfl sizeOf128 rfl) ?_
      refine GoF.q rfl rfl rfl Kept.auto (Y.lda isAgg128 rfl (Cells.part0 (ds := frmE t.frm) (Cells.a (cs := thrC t)) rfl) (by exact sizeOf128)) ?_
      refine GoF.callE rfl (.inl rfl) rfl (fun _ => Kept.auto) call81 rfl (next_codeH (p := s.prg) (f := t.frm) hO.codel.1 hO.codel.2) .auto (fun _ _ => Kept.auto) ?_
      rintro ⟨⟩ -
      refine GoF.q rfl rfl rfl Kept.auto (Y.m rfl) ?_
      refine GoF.q rfl rfl rfl Kept.auto (Y.extract (v := .agg (insE ((nextI s.prg t.frm).getD Ins.z)).toArray) rfl rfl) ?_
      refine GoF.q rfl rfl rfl Kept.auto (Y.extract (v := .bool (nextI s.prg t.frm).isSome) rfl rfl) ?_
      refine GoF.fresh rfl rfl rfl (by decide) Kept.auto (fresh_alloc zeroValue80 rfl) ?_
      rintro b6
      refine GoF.sta2 rfl rfl (by exact sizeOf80) rfl rfl rfl (by rfl) Kept.auto Kept.auto ?_
      refine GoF.q rfl rfl rfl Kept.auto (Y.a rfl) ?_
      refine GoF.nil ?_
      refine .t (.s (.s (.r (.p (.m rfl) (.p (.not rfl) (.n (.t (.cond rfl (fun h33 => ?_) (fun h33 => ?_)))))))))
      · refine .s (.r (.p (.a rfl) (.n (.t (.e (.tr ?_))))))
        refine .to (A := thrsH ps s.thr) (Bs := [arr p 0 (thrC t), thrsH (ps.set k none) (s.thr.set k none)]) .auto (thrs_keep hp ht) ?_
        rw [class_end hat h19 (Option.isNone_iff_eq_none.mp (by simpa using h33))]
        refine .ret1 rfl rfl fun w s => ⟨(), ?_, trivial, finE .auto s⟩
        rfl
      · obtain ⟨i, hn⟩ : ∃ i, (nextI s.prg t.frm) = some i := Option.isSome_iff_exists.mp (by simpa using h33)
        rw [show ((nextI s.prg t.frm).getD Ins.z) = i from by rw [hn]; rfl]
        refine .v (.t (.s (.r (.p (.z rfl) (.p (.l rfl) ?_)))))
        refine .does rfl (Does.callE rfl call68 rfl inst_Class .auto) ?_
        rintro _ _ ⟨⟨⟩, -, rfl, rfl⟩
        refine .p (.a rfl) (.n (.t (.e ?_)))
        refine .to (A := thrsH ps s.thr) (Bs := [arr p 0 (thrC t), thrsH (ps.set k none) (s.thr.set k none)]) .auto (thrs_keep hp ht) ?_
        rw [class_some hat h19 hn]
        refine .ret1 rfl rfl fun w s => ⟨(), ?_, trivial, finE .auto s⟩
        rfl

end Go.SLYtnceicnimongcaaGreat
namespace Go.SLYtnceicnimongcaaGreat
open Go Go.RowKit Go.Proofs Go.Proofs.Tryz

theorem ref_Ints {W : World} {A : HProp} {v u : Value} {xs ys : List Int} (hv : Rd W [A] intE 1 v xs) (hu : Rd W [A] intE 1 u ys) (hl : xs.length ≤ 1000000000) : Fn Tryz.prog W 29 [v, u] [A] Unit (fun _ => .bool (decide (xs = ys))) (fun _ => True) (fun _ => [A]) := by
  refine Fn.intro (N := 26) func29 rfl ntmps29 rfl fun F => ?_
  haveI hRI : ∀ (H : List HProp) [HasH H A], ReadsC W H v intE 1 xs := fun H h => ⟨hv.at h.has⟩
  haveI hRJ : ∀ (H : List HProp) [HasH H A], ReadsC W H u intE 1 ys := fun H h => ⟨hu.at h.has⟩
  show GoC _ _ _ _ _ _ [A, F]
  refine .s (.r (.p (.a rfl) (.n (.t (.s (.s (.r (.p (.m rfl) (.p (.len rfl) (.p (.m rfl) (.p (.len rfl) (.p (.neq rfl rfl) (.n (.t (.condD rfl (fun h10 => ?_) (fun h10 => ?_))))))))))))))))
  · refine .s (.r (.p (.a rfl) (.n (.t (.e (.tr (.ret1 rfl rfl fun w s => ⟨(), ?_, trivial, finE .auto s⟩)))))))
    rw [decide_eq_false (fun e => h10 (by rw [e]))]
  · refine .v (.t (.s (.s (.r (.p (.a rfl) (.n (.t (.b ?_))))))))
    refine .loopK (X := Nat) [4, 5, 11, 12, 13, 14, 15, 16, 17, 18, 19, 20, 21, 22, 23, 24, 25] (fun k => xs.length - k) (fun k => k ≤ xs.length ∧ xs.take k = ys.take k) (fun k => [(5, some (.int .i64 (k : Int)))]) (fun k => [A, F]) 0 ?_ ?_ ?_ ?_
    · exact ⟨Nat.zero_le _, rfl⟩
    · exact ⟨rfl, trivial⟩
    · exact fun w s => Ent.kept .auto w s
    rintro k ⟨hk, hn⟩
    refine .s (.s (.r (.p (.m rfl) (.p (.m rfl) (.p (.len rfl) (.p (.lss rfl rfl) (.n (.t (.condD rfl (fun h14 => ?_) (fun h14 => ?_))))))))))
    · refine .v (.t (.s (.b (.s ?_))))
      refine .draw [] [1, 1, 1, 1, 1, 1, 1, 1, 1] rfl (by kernel_rfl) ?_
      obtain ⟨x, hx⟩ := at_some (show k < xs.length by omega)
      obtain ⟨y, hy⟩ := at_some (show k < ys.length by omega)
      refine .p (.m rfl) (.p (.m rfl) ?_)
      refine .p (.ix _ rfl rfl rfl (by first | omega | decide)) ?_
      refine .p (.lr rfl hx) ?_
      refine .p (.m rfl) (.p (.m rfl) ?_)
      refine .p (.ix _ rfl rfl rfl (by first | omega | decide)) ?_
      refine .p (.lr rfl hy) ?_
      refine .p (.neq rfl rfl) (.n (.t (.condD rfl (fun h25 => ?_) (fun h25 => ?_))))
      · refine .s (.r (.p (.a rfl) (.n (.t (.e (.br (.tr (.tr (.br (.tr (.ret1 rfl rfl fun w s => ⟨(), ?_, trivial, finE .auto s⟩)))))))))))
        rw [decide_eq_false (fun e => h25 (by rw [e] at hx; exact Option.some.inj (hx.symm.trans hy)))]
      · refine .v (.b (.t (.r (.p (.m rfl) ?_))))
        refine .p (.inc rfl rfl (by omega)) ?_
        refine .p (.a rfl) (.n ?_)
        refine .againK (k + 1) .auto rfl ?_ ?_ ?_ ?_
        · first | omega | (dsimp only; omega)
        · exact ⟨by omega, by rw [take_snoc hx, take_snoc hy, hn, Decidable.of_not_not h25]⟩
        · exact ⟨rfl, trivial⟩
        · exact fun w s => Ent.kept .auto w s
    · refine .x (.tx (.tx (.bh (.t (.s (.r (.p (.a rfl) (.n (.t (.e ?_))))))))))
      obtain rfl : k = xs.length := by omega
      rw [List.take_length, List.take_of_length_le (by omega)] at hn
      refine .ret1 rfl rfl fun w s => ⟨(), ?_, trivial, finE .auto s⟩
      rw [decide_eq_true hn]

end Go.SLYtnceicnimongcaaGreat
namespace Go.SLYtnceicnimongcaaGreat
open Go Go.RowKit Go.Proofs Go.Proofs.Tryz

end Go.SLYtnceicnimongcaaGreat
namespace Go.SLYtnceicnimongcaaGreat
open Go Go.RowKit

/-! rows of threads -/
def rHas (rows : List (List Int)) (t : Int) : Bool := rows.any fun r => r.contains t
def rAdd (rows : List (List Int)) (p t : Int) : List (List Int) :=
  if rHas rows t = true then rows else match geti rows p with | none => rows | some r => rows.set p.toNat (r ++ [t])
def rAdds (rows : List (List Int)) (p : Int) (ts : List Int) : List (List Int) := ts.foldl (fun r t => rAdd r p t) rows
def rSteal : List (List Int) → Option (Int × List (List Int))
  | [] => none
  | r :: rows => match r.getLast? with
    | some t => some (t, r.dropLast :: rows)
    | none => match rSteal rows with
      | none => none
      | some (t, rows') => some (t, r :: rows')
def rPick (rows : List (List Int)) (p : Int) : Option (Int × List (List Int)) :=
  match geti rows p with
  | none => none
  | some (t :: r) => some (t, rows.set p.toNat r)
  | some [] => rSteal rows
def rEmpty (rows : List (List Int)) : Bool := rows.all fun r => decide (r = [])

/-! what a step did -/
structure Did where
  commit : Bool
  slot : Int
  eff : Eff
def Did.z : Did := ⟨false, 0, Eff.z⟩
def didE (u : Value) (d : Did) : List Value := [.bool d.commit, .int .i64 d.slot] ++ effE u d.eff
def Eff.goes (e : Eff) : Bool := !e.stopped && !e.ended

def Lib.v (l : Lib) (p : Int) : Vsl := l.vs.getD p.toNat Vsl.z
def Lib.setV (l : Lib) (p : Int) (v : Vsl) : Lib := { l with vs := l.vs.set p.toNat v }
def Lib.adds (l : Lib) (p : Int) (ts : List Int) : Lib := { l with rows := rAdds l.rows p ts }
def Lib.commit (l : Lib) (t c : Int) : Did × Lib := (⟨true, t, (l.spc.run t c).1⟩, { l with spc := (l.spc.run t c).2.2 })
def Lib.enter (l : Lib) (p mode : Int) : Lib := if l.locked = true then l else ({ l with locked := true } : Lib).setV p { l.v p with mode := mode }
def Lib.leave (l : Lib) (p mode thread : Int) : Lib := ({ l with locked := false } : Lib).setV p { l.v p with mode := mode, thread := thread }
def inS (e : Ev) : Bool := decide (0 < e.mode)
def evWithin (l : List Ev) : Option (Ev × List Ev) :=
  if idxP inS l 0 < 0 then none else
  match l[(idxP inS l 0).toNat]? with
  | none => none
  | some e => some (e, l.take (idxP inS l 0).toNat ++ l.drop ((idxP inS l 0).toNat + 1))
def Lib.recover (l : Lib) (p : Int) (x : Ev) (rest : List Ev) (c : Int) : Did × Lib :=
  let l1 : Lib := ({ l with locked := false } : Lib).setV p { l.v p with evs := rest }
  if x.mode = 7 then
    let r := l1.commit x.thread c
    let l2 := r.2.adds p r.1.eff.woken
    (r.1, if r.1.eff.goes = true then l2.adds p [x.thread] else l2)
  else (Did.z, l1)
def Lib.upcall (l : Lib) (p c : Int) : Did × Lib := match evWithin (l.v p).evs with
  | some (x, rest) => l.recover p x rest c
  | none => (Did.z, l.enter p 2)
def Lib.handle (l : Lib) (p : Int) : Lib := match (l.v p).evs with
  | [] => l.leave p 3 (-1)
  | e :: r => let l1 := if evRuns e = true then l.adds p [e.thread] else l
    l1.setV p { l.v p with evs := r }
def Lib.pick (l : Lib) (p : Int) : Lib := match rPick l.rows p with
  | some (t, rows) => ({ l with rows := rows } : Lib).leave p 5 t
  | none => l.leave p 8 (-1)
def Lib.goOn (l : Lib) (p c : Int) : Did × Lib :=
  let t := (l.v p).thread
  if l.spc.class t = 2 then (Did.z, l.setV p { l.v p with mode := 6 }) else
  let r := l.commit t c
  let l1 := if r.1.eff.stopped = true then r.2.setV p (Vsl.new [⟨2, t, 0⟩]) else if r.1.eff.ended = true then r.2.setV p { r.2.v p with mode := 3, thread := -1 } else r.2
  (r.1, l1.tell (unblocked r.1.eff.woken))
def Lib.inside (l : Lib) (p c : Int) : Did × Lib :=
  let t := (l.v p).thread
  let r := l.commit t c
  let l1 := r.2.adds p r.1.eff.woken
  (r.1, if r.1.eff.goes = true then (if r.1.eff.yielded = true then (l1.adds p [t]).leave p 3 (-1) else l1.leave p 5 t) else l1.leave p 3 (-1))
def Lib.step (l : Lib) (p c : Int) : Did × Int × Lib :=
  if l.has p = true then
    let m := (l.v p).mode
    if m = 1 then ((l.upcall p c).1, 0, (l.upcall p c).2) else
    if m = 2 then (Did.z, 0, l.handle p) else
    if m = 3 then (Did.z, 0, l.enter p 4) else
    if m = 4 then (Did.z, 0, l.pick p) else
    if m = 5 then ((l.goOn p c).1, 0, (l.goOn p c).2) else
    if m = 6 then (Did.z, 0, l.enter p 7) else
    if m = 7 then ((l.inside p c).1, 0, (l.inside p c).2) else
    if m = 8 then (Did.z, 0, if rEmpty l.rows = true then l else l.setV p { l.v p with mode := 3 }) else (Did.z, 0, l)
  else (Did.z, 11, l)
def Lib.look (l : Lib) (p : Int) : Option Vsl := if l.has p = true then some (l.v p) else none
end Go.SLYtnceicnimongcaaGreat
namespace Go.SLYtnceicnimongcaaGreat
open Go Go.RowKit

structure LGrow (a b : Nat) (l l' : Lib) : Prop where
  vs : l'.vs.length = l.vs.length
  rs : l'.rows.length = l.rows.length
  ev : evSum l' ≤ evSum l + a
  rw : ∀ m, (∀ r ∈ l.rows, r.length ≤ m) → ∀ r ∈ l'.rows, r.length ≤ m + b
theorem LGrow.refl (l : Lib) : LGrow 0 0 l l := ⟨rfl, rfl, Nat.le_refl _, fun _ h => h⟩
theorem LGrow.trans {a b c d : Nat} {l l1 l2 : Lib} (h1 : LGrow a b l l1) (h2 : LGrow c d l1 l2) : LGrow (a + c) (b + d) l l2 := by
  have e1 := h1.ev
  have e2 := h2.ev
  exact ⟨h2.vs.trans h1.vs, h2.rs.trans h1.rs, by omega, fun m h r hr => by have := h2.rw (m + b) (h1.rw m h) r hr; omega⟩
theorem LGrow.le {a b c d : Nat} {l l' : Lib} (h : LGrow a b l l') (h1 : a ≤ c) (h2 : b ≤ d) : LGrow c d l l' := by
  have e := h.ev
  exact ⟨h.vs, h.rs, by omega, fun m hm r hr => by have := h.rw m hm r hr; omega⟩
theorem rAdd_len {rows : List (List Int)} {p t : Int} : (rAdd rows p t).length = rows.length := by
  unfold rAdd; split
  · rfl
  · split
    · rfl
    · exact List.length_set ..
theorem rAdd_rows {rows : List (List Int)} {p t : Int} {m : Nat} (h : ∀ r ∈ rows, r.length ≤ m) : ∀ r ∈ rAdd rows p t, r.length ≤ m + 1 := fun r hr => by
  unfold rAdd at hr
  split at hr
  · exact Nat.le_succ_of_le (h r hr)
  · split at hr
    · exact Nat.le_succ_of_le (h r hr)
    · rename_i x e
      rcases List.mem_or_eq_of_mem_set hr with hr | rfl
      · exact Nat.le_succ_of_le (h r hr)
      · have := h x (List.mem_of_getElem? (geti_of e).2.2)
        simp; omega
theorem rAdds_len : ∀ {ts : List Int} {rows : List (List Int)} {p : Int}, (rAdds rows p ts).length = rows.length
  | [], _, _ => rfl
  | t :: ts, rows, p => (rAdds_len (ts := ts) (rows := rAdd rows p t)).trans rAdd_len
theorem rAdds_rows : ∀ {ts : List Int} {rows : List (List Int)} {p : Int} {m : Nat}, (∀ r ∈ rows, r.length ≤ m) → ∀ r ∈ rAdds rows p ts, r.length ≤ m + ts.length
  | [], _, _, _, h, r, hr => h r hr
  | t :: ts, rows, p, m, h, r, hr => by
    have := rAdds_rows (ts := ts) (rows := rAdd rows p t) (rAdd_rows h) r hr
    simp only [List.length_cons]; omega
theorem LGrow.adds (l : Lib) (p : Int) (ts : List Int) : LGrow 0 ts.length l (l.adds p ts) := ⟨rfl, rAdds_len, Nat.le_refl _, fun _ h => rAdds_rows h⟩
theorem LGrow.commit (l : Lib) (t c : Int) : LGrow 0 0 l (l.commit t c).2 := ⟨rfl, rfl, Nat.le_refl _, fun _ h => h⟩
theorem v_at {l : Lib} {i : Nat} {v : Vsl} (h : l.vs[i]? = some v) : l.v (i : Int) = v := by unfold Lib.v; rw [Int.toNat_natCast, getD_of h]
theorem LGrow.setV {l : Lib} {i : Nat} {v x : Vsl} (h : l.vs[i]? = some v) {a : Nat} (hx : x.evs.length ≤ v.evs.length + a) : LGrow a 0 l (l.setV (i : Int) x) := by
  refine ⟨List.length_set .., rfl, ?_, fun _ h => h⟩
  have := sum_set h x
  unfold evSum Lib.setV
  simp only [Int.toNat_natCast]
  omega
theorem LGrow.setV0 {l : Lib} {i : Nat} {v : Vsl} (h : l.vs[i]? = some v) {x : Vsl} (hx : x.evs.length ≤ v.evs.length) : LGrow 0 0 l (l.setV (i : Int) x) := LGrow.setV (a := 0) h hx
theorem LGrow.unlock (l : Lib) (b : Bool) : LGrow 0 0 l { l with locked := b } := ⟨rfl, rfl, Nat.le_refl _, fun _ h => h⟩
theorem LGrow.enter {l : Lib} {i : Nat} {v : Vsl} (h : l.vs[i]? = some v) (m : Int) : LGrow 0 0 l (l.enter (i : Int) m) := by
  unfold Lib.enter
  split
  · exact LGrow.refl _
  · exact (LGrow.unlock l true).trans (LGrow.setV0 (l := { l with locked := true }) (x := { l.v (i : Int) with mode := m }) h (by rw [v_at h]; exact Nat.le_refl _))
theorem LGrow.leave {l : Lib} {i : Nat} {v : Vsl} (h : l.vs[i]? = some v) (m t : Int) : LGrow 0 0 l (l.leave (i : Int) m t) :=
  (LGrow.unlock l false).trans (LGrow.setV0 (l := { l with locked := false }) (x := { l.v (i : Int) with mode := m, thread := t }) h (by rw [v_at h]; exact Nat.le_refl _))
theorem LGrow.tell (l : Lib) (ys : List Ev) : LGrow (1 + ys.length) 0 l (l.tell ys) := by
  have h := (tell_same l ys).1
  exact ⟨h.len, congrArg _ h.rows, by have := tell_ev l ys; omega, fun m hm => by rw [h.rows]; exact hm⟩
theorem rSteal_len : ∀ {rows rows' : List (List Int)} {t : Int}, rSteal rows = some (t, rows') → rows'.length = rows.length ∧ ∀ m, (∀ r ∈ rows, r.length ≤ m) → ∀ r ∈ rows', r.length ≤ m
  | [], _, _, h => by cases h
  | r :: rows, rows', t, h => by
    unfold rSteal at h
    split at h
    · cases h
      exact ⟨rfl, fun m hm x hx => by
        rcases List.mem_cons.1 hx with rfl | hx
        · have := hm r (List.mem_cons_self ..); rw [List.length_dropLast]; omega
        · exact hm x (List.mem_cons_of_mem _ hx)⟩
    · split at h
      · cases h
      · rename_i t' r' e
        cases h
        obtain ⟨h1, h2⟩ := rSteal_len e
        exact ⟨by rw [List.length_cons, List.length_cons, h1], fun m hm x hx => by
          rcases List.mem_cons.1 hx with rfl | hx
          · exact hm _ (List.mem_cons_self ..)
          · exact h2 m (fun y hy => hm y (List.mem_cons_of_mem _ hy)) x hx⟩
theorem rPick_len {rows rows' : List (List Int)} {p t : Int} (h : rPick rows p = some (t, rows')) : rows'.length = rows.length ∧ ∀ m, (∀ r ∈ rows, r.length ≤ m) → ∀ r ∈ rows', r.length ≤ m := by
  unfold rPick at h
  split at h
  · cases h
  · rename_i u r e
    cases h
    refine ⟨List.length_set .., fun m hm x hx => ?_⟩
    rcases List.mem_or_eq_of_mem_set hx with hx | rfl
    · exact hm x hx
    · have := hm _ (List.mem_of_getElem? (geti_of e).2.2); simp only [List.length_cons] at this; omega
  · exact rSteal_len h
theorem within_len {l : List Ev} {x : Ev} {r : List Ev} (h : evWithin l = some (x, r)) : r.length + 1 = l.length := by
  unfold evWithin at h
  split at h
  · cases h
  · split at h
    · cases h
    · rename_i y e2
      cases h
      have := (List.getElem?_eq_some_iff.1 e2).1
      rw [List.length_append, List.length_take, List.length_drop]; omega
theorem woken_le {k : Nat} {s : Spc} (h : Okr k s) (hk : k ≤ 190) (n c : Int) : (s.run n c).1.woken.length ≤ 17 := by
  have h1 := (h.wakes hk n c).l
  have h2 := readyFrom_len (s.run n c).2.2.thr 0
  have h3 : (s.run n c).2.2.ready.length = (readyFrom (s.run n c).2.2.thr 0).length := rfl
  rw [(h.run hk n c).lt] at h2
  split at h1 <;> omega
theorem LGrow.recover {l : Lib} {i : Nat} {v : Vsl} (h : l.vs[i]? = some v) {x : Ev} {rest : List Ev} (hr : rest.length ≤ v.evs.length) (c : Int) (hw : (l.spc.run x.thread c).1.woken.length ≤ 17) : LGrow 0 18 l (l.recover (i : Int) x rest c).2 := by
  have h0 : LGrow 0 0 l (({ l with locked := false } : Lib).setV (i : Int) { l.v (i : Int) with evs := rest }) := (LGrow.unlock l false).trans (LGrow.setV0 (l := { l with locked := false }) (x := { l.v (i : Int) with evs := rest }) h hr)
  unfold Lib.recover
  simp only
  split
  · have h1 := (h0.trans (LGrow.commit _ x.thread c)).trans (LGrow.adds _ (i : Int) (l.spc.run x.thread c).1.woken)
    show LGrow 0 18 l (if _ then _ else _)
    split
    · exact (h1.trans (LGrow.adds _ (i : Int) [x.thread])).le (by omega) (by simp only [List.length_cons, List.length_nil]; omega)
    · exact h1.le (by omega) (by omega)
  · exact h0.le (by omega) (by omega)
theorem LGrow.goOn {l : Lib} {i : Nat} {v : Vsl} (h : l.vs[i]? = some v) (c : Int) (hw : (l.spc.run v.thread c).1.woken.length ≤ 17) : LGrow 19 0 l (l.goOn (i : Int) c).2 := by
  unfold Lib.goOn
  rw [v_at h]
  simp only
  split
  · exact (LGrow.setV0 (x := { v with mode := 6 }) h (Nat.le_refl _)).le (by omega) (by omega)
  · have h1 := LGrow.commit l v.thread c
    have hv : (l.commit v.thread c).2.vs[i]? = some v := h
    have hv2 : (l.commit v.thread c).2.v (i : Int) = v := v_at hv
    have hu : (unblocked (l.spc.run v.thread c).1.woken).length ≤ 17 := by unfold unblocked; rw [List.length_map]; exact hw
    have key : ∀ l1, LGrow 1 0 l l1 → LGrow 19 0 l (l1.tell (unblocked (l.commit v.thread c).1.eff.woken)) := fun l1 hl => (hl.trans (LGrow.tell l1 _)).le (by have : (unblocked (l.commit v.thread c).1.eff.woken).length ≤ 17 := hu; omega) (by omega)
    refine key _ ?_
    split
    · exact (h1.trans (LGrow.setV (x := Vsl.new [⟨2, v.thread, 0⟩]) (a := 1) hv (by show 1 ≤ _; omega))).le (by omega) (by omega)
    · split
      · rw [hv2]; exact (h1.trans (LGrow.setV (x := { v with mode := 3, thread := -1 }) (a := 0) hv (Nat.le_refl _))).le (by omega) (by omega)
      · exact h1.le (by omega) (by omega)
theorem LGrow.inside {l : Lib} {i : Nat} {v : Vsl} (h : l.vs[i]? = some v) (c : Int) (hw : (l.spc.run v.thread c).1.woken.length ≤ 17) : LGrow 0 18 l (l.inside (i : Int) c).2 := by
  unfold Lib.inside
  rw [v_at h]
  simp only
  have h1 := (LGrow.commit l v.thread c).trans (LGrow.adds (l.commit v.thread c).2 (i : Int) (l.spc.run v.thread c).1.woken)
  have hv : ((l.commit v.thread c).2.adds (i : Int) (l.spc.run v.thread c).1.woken).vs[i]? = some v := h
  show LGrow 0 18 l (if _ then (if _ then _ else _) else _)
  split
  · split
    · have h2 := h1.trans (LGrow.adds _ (i : Int) [v.thread])
      exact (h2.trans (LGrow.leave (l := (l.commit v.thread c).2.adds (i : Int) (l.spc.run v.thread c).1.woken |>.adds (i : Int) [v.thread]) (v := v) h 3 (-1))).le (by omega) (by simp only [List.length_cons, List.length_nil]; omega)
    · exact (h1.trans (LGrow.leave (v := v) hv 5 v.thread)).le (by omega) (by omega)
  · exact (h1.trans (LGrow.leave (v := v) hv 3 (-1))).le (by omega) (by omega)
theorem LGrow.handle {l : Lib} {i : Nat} {v : Vsl} (h : l.vs[i]? = some v) : LGrow 0 1 l (l.handle (i : Int)) := by
  unfold Lib.handle
  rw [v_at h]
  split
  · exact (LGrow.leave h 3 (-1)).le (by omega) (by omega)
  · rename_i e r he
    have hl : r.length ≤ v.evs.length := by rw [he]; simp
    simp only
    split
    · exact ((LGrow.adds l (i : Int) [e.thread]).trans (LGrow.setV0 (l := l.adds (i : Int) [e.thread]) (v := v) (x := { v with evs := r }) h hl)).le (by omega) (by simp)
    · exact (LGrow.setV0 (x := { v with evs := r }) h hl).le (by omega) (by omega)
theorem LGrow.pick {l : Lib} {i : Nat} {v : Vsl} (h : l.vs[i]? = some v) : LGrow 0 0 l (l.pick (i : Int)) := by
  unfold Lib.pick
  split
  · rename_i t rows e
    obtain ⟨h1, h2⟩ := rPick_len e
    have h3 : LGrow 0 0 l { l with rows := rows } := ⟨rfl, h1, Nat.le_refl _, h2⟩
    exact h3.trans (LGrow.leave (l := { l with rows := rows }) (v := v) h 5 t)
  · exact LGrow.leave h 8 (-1)
structure LInv (k : Nat) (l : Lib) : Prop where
  sp : Okr (k + 1) l.spc
  vl : l.vs.length ≤ 64
  rl : l.rows.length ≤ 64
  ev : evSum l ≤ 40 * (k + 1)
  rw : ∀ r ∈ l.rows, r.length ≤ 40 * (k + 1)
theorem LInv.of {k : Nat} {l l' : Lib} (h : LInv k l) (g : LGrow 40 40 l l') (hs : Okr (k + 2) l'.spc) : LInv (k + 1) l' := by
  have e := g.ev
  have e2 := h.ev
  exact ⟨hs, g.vs ▸ h.vl, g.rs ▸ h.rl, by omega, fun r hr => by have := g.rw _ h.rw r hr; omega⟩
theorem has_at {l : Lib} {p : Int} (h : l.has p = true) : ∃ (i : Nat) (v : Vsl), p = (i : Int) ∧ l.vs[i]? = some v ∧ ¬ v.mode = 0 := by
  unfold Lib.has at h
  split at h
  · cases h
  · rename_i v e
    obtain ⟨h0, h1, h2⟩ := geti_of e
    exact ⟨p.toNat, v, by omega, h2, by simpa using h⟩
theorem LInv.step {k : Nat} {l : Lib} (h : LInv k l) (hk : k ≤ 180) (p c : Int) : LInv (k + 1) (l.step p c).2.2 := by
  have hm : Okr (k + 2) l.spc := h.sp.more (by omega)
  unfold Lib.step
  split
  · rename_i hh
    obtain ⟨i, v, rfl, hv, -⟩ := has_at hh
    have hr := fun t => h.sp.run (show k + 1 ≤ 190 by omega) t c
    have hw := fun t => woken_le h.sp (show k + 1 ≤ 190 by omega) t c
    simp only
    split
    · unfold Lib.upcall
      split
      · rename_i x rest e
        rw [v_at hv] at e
        have hl := within_len e
        refine h.of ((LGrow.recover hv (by omega) c (hw x.thread)).le (by omega) (by omega)) ?_
        unfold Lib.recover
        simp only
        split
        · show Okr (k + 2) (Lib.spc (if _ then _ else _))
          split <;> exact hr x.thread
        · exact hm
      · refine h.of ((LGrow.enter hv 2).le (by omega) (by omega)) ?_
        unfold Lib.enter; split <;> exact hm
    · split
      · refine h.of ((LGrow.handle hv).le (by omega) (by omega)) ?_
        unfold Lib.handle
        split
        · exact hm
        · show Okr (k + 2) (Lib.spc (if _ then _ else _))
          split <;> exact hm
      · split
        · refine h.of ((LGrow.enter hv 4).le (by omega) (by omega)) ?_
          unfold Lib.enter; split <;> exact hm
        · split
          · refine h.of ((LGrow.pick hv).le (by omega) (by omega)) ?_
            unfold Lib.pick; split <;> exact hm
          · split
            · refine h.of ((LGrow.goOn hv c (hw _)).le (by omega) (by omega)) ?_
              unfold Lib.goOn
              simp only
              split
              · exact hm
              · rw [(tell_same _ _).1.spc]
                split
                · exact hr _
                · split <;> exact hr _
            · split
              · refine h.of ((LGrow.enter hv 7).le (by omega) (by omega)) ?_
                unfold Lib.enter; split <;> exact hm
              · split
                · refine h.of ((LGrow.inside hv c (hw _)).le (by omega) (by omega)) ?_
                  unfold Lib.inside
                  simp only
                  split
                  · split <;> exact hr _
                  · exact hr _
                · split
                  · split
                    · exact h.of ((LGrow.refl _).le (by omega) (by omega)) hm
                    · refine h.of ((LGrow.setV (x := { l.v (i : Int) with mode := 3 }) (a := 0) hv (by rw [v_at hv]; exact Nat.le_refl _)).le (by omega) (by omega)) hm
                  · exact h.of ((LGrow.refl _).le (by omega) (by omega)) hm
  · exact h.of ((LGrow.refl _).le (by omega) (by omega)) hm
theorem step_spins {l : Lib} {i : Nat} {v : Vsl} (hv : l.vs[i]? = some v) (hl : l.locked = true) (hb : v.mode = 1 ∧ (∀ e ∈ v.evs, ¬ 0 < e.mode) ∨ v.mode = 3 ∨ v.mode = 6) (c : Int) : l.step (i : Int) c = (Did.z, 0, l) := by
  have hh : l.has (i : Int) = true := by
    unfold Lib.has; rw [geti_nat, hv]
    simp only [Bool.not_eq_true', decide_eq_false_iff_not]
    omega
  have he : ∀ m, l.enter (i : Int) m = l := fun m => by unfold Lib.enter; rw [if_pos hl]
  unfold Lib.step
  rw [if_pos hh, v_at hv]
  simp only
  rcases hb with ⟨h1, h2⟩ | h3 | h6
  · rw [if_pos h1]
    have hn : evWithin v.evs = none := by
      unfold evWithin
      have ha : v.evs.any inS = false := by
        rw [List.any_eq_false]; intro e he; unfold inS; simpa using h2 e he
      have := idxP_any (p := inS) v.evs 0
      rw [ha] at this
      exact if_pos (by have := of_decide_eq_false this; omega)
    unfold Lib.upcall
    rw [v_at hv, hn]
    simp only
    rw [he]
  · rw [if_neg (by omega), if_neg (by omega), if_pos h3, he]
  · rw [if_neg (by omega), if_neg (by omega), if_neg (by omega), if_neg (by omega), if_neg (by omega), if_pos h6, he]
end Go.SLYtnceicnimongcaaGreat
namespace Go.SLYtnceicnimongcaaGreat
open Go Go.RowKit

theorem where_has (t : Int) : ∀ (rows : List (List Int)) (n : Nat), (whereFrom t rows n).2 = rHas rows t
  | [], _ => rfl
  | r :: rows, n => by
    unfold whereFrom rHas
    rw [List.any_cons]
    by_cases h : t ∈ r
    · rw [if_pos h, List.contains_iff_mem.2 h]; rfl
    · rw [if_neg h, where_has t rows (n + 1)]
      have : r.contains t = false := by rw [← Bool.not_eq_true, List.contains_iff_mem]; exact h
      rw [this, Bool.false_or]; rfl
theorem rAdd_there {rows : List (List Int)} {p t : Int} (h : (whereFrom t rows 0).2 = true) : rAdd rows p t = rows := by unfold rAdd; rw [where_has] at h; rw [if_pos h]
theorem rAdd_none {rows : List (List Int)} {p t : Int} (h : geti rows p = none) : rAdd rows p t = rows := by
  unfold rAdd; split
  · rfl
  · rw [h]
theorem rAdd_some {rows : List (List Int)} {p t : Int} {r : List Int} (h : (whereFrom t rows 0).2 = false) (hr : geti rows p = some r) : rAdd rows p t = rows.set p.toNat (r ++ [t]) := by
  unfold rAdd; rw [where_has] at h; rw [if_neg (by rw [h]; simp), hr]
theorem not_there {rows : List (List Int)} {t : Int} (h : (whereFrom t rows 0).2 = false) {i : Nat} {r : List Int} (hr : rows[i]? = some r) : r.contains t = false := by
  rw [where_has] at h
  unfold rHas at h
  have := List.any_eq_false.1 h r (List.mem_of_getElem? hr)
  simpa using this
theorem erase_last {l : List Int} {i : Nat} (h : i + 1 = l.length) : l.eraseIdx i = l.dropLast := by
  rw [List.dropLast_eq_take, List.eraseIdx_eq_take_drop_succ, List.drop_of_length_le (by omega), List.append_nil, show l.length - 1 = i from by omega]
theorem last_at {l : List Int} {t : Int} (h : l.getLast? = some t) : ∃ i, i + 1 = l.length ∧ l[i]? = some t := by
  rw [List.getLast?_eq_getElem?] at h
  have := (List.getElem?_eq_some_iff.1 h).1
  exact ⟨l.length - 1, by omega, h⟩
theorem steal_at : ∀ {rows : List (List Int)} {k : Nat} {r : List Int} {t : Int}, (∀ j, j < k → rows[j]? = some []) → rows[k]? = some r → r.getLast? = some t → rSteal rows = some (t, rows.set k r.dropLast)
  | [], _, _, _, _, h, _ => by simp at h
  | x :: rows, 0, r, t, _, h, ht => by
    have e : x = r := by simpa using h
    subst e
    unfold rSteal; rw [ht]; rfl
  | x :: rows, k + 1, r, t, hj, h, ht => by
    have e : x = [] := by have := hj 0 (by omega); simpa using this
    subst e
    have ih := steal_at (rows := rows) (k := k) (r := r) (t := t) (fun j hjk => by have := hj (j + 1) (by omega); simpa using this) (by simpa using h) ht
    unfold rSteal
    rw [List.getLast?_nil, ih]
    rfl
theorem steal_none : ∀ {rows : List (List Int)}, (∀ j, j < rows.length → rows[j]? = some []) → rSteal rows = none
  | [], _ => rfl
  | x :: rows, hj => by
    have e : x = [] := by have := hj 0 (by simp); simpa using this
    subst e
    have ih := steal_none (rows := rows) (fun j hjk => by have := hj (j + 1) (by simp; omega); simpa using this)
    unfold rSteal
    rw [List.getLast?_nil, ih]
def pickT (rows : List (List Int)) (p : Int) : Int := match rPick rows p with | none => 0 | some x => x.1
def pickR (rows : List (List Int)) (p : Int) : List (List Int) := match rPick rows p with | none => rows | some x => x.2
theorem pick_none {rows : List (List Int)} {p : Int} (h : rPick rows p = none) : pickT rows p = 0 ∧ pickR rows p = rows := by unfold pickT pickR; rw [h]; exact ⟨rfl, rfl⟩
theorem pick_some {rows rows' : List (List Int)} {p t : Int} (h : rPick rows p = some (t, rows')) : pickT rows p = t ∧ pickR rows p = rows' := by unfold pickT pickR; rw [h]; exact ⟨rfl, rfl⟩
theorem rPick_no {rows : List (List Int)} {p : Int} (h : geti rows p = none) : rPick rows p = none := by unfold rPick; rw [h]
theorem rPick_own {rows : List (List Int)} {p t : Int} {r : List Int} (h : geti rows p = some (t :: r)) : rPick rows p = some (t, rows.set p.toNat r) := by unfold rPick; rw [h]
theorem rPick_else {rows : List (List Int)} {p : Int} (h : geti rows p = some []) : rPick rows p = rSteal rows := by unfold rPick; rw [h]
theorem empty_no {rows : List (List Int)} {k : Nat} {r : List Int} (h : rows[k]? = some r) (hr : r ≠ []) : rEmpty rows = false := by
  unfold rEmpty
  rw [List.all_eq_false]
  exact ⟨r, List.mem_of_getElem? h, by simpa using hr⟩
theorem empty_yes {rows : List (List Int)} (h : ∀ j, j < rows.length → rows[j]? = some []) : rEmpty rows = true := by
  unfold rEmpty
  rw [List.all_eq_true]
  intro r hr
  obtain ⟨j, hj⟩ := List.mem_iff_getElem?.1 hr
  have := h j (List.getElem?_eq_some_iff.1 hj).1
  rw [hj] at this
  simpa using this
theorem geti_rows {xs : List (Nat × List Int)} {rs : List (List Int)} (h : xs.map (·.2) = rs) {p : Int} : geti rs p = (geti xs p).map (·.2) := by
  rw [← h]; unfold geti; split
  · rfl
  · rw [List.getElem?_map]
theorem row_out {xs : List (Nat × List Int)} {i q : Nat} {r : List Int} (hx : xs[i]? = some (q, r)) : ∀ g, allH (fun x : Nat × List Int => dqH x.1 x.2) xs g → seps [dqH q r, allH (fun x : Nat × List Int => dqH x.1 x.2) (xs.eraseIdx i)] g := all_out (f := fun x : Nat × List Int => dqH x.1 x.2) hx
theorem rows_in {b : Nat} {v : Value} {xs : List (Nat × List Int)} {rs : List (List Int)} (h : xs.map (·.2) = rs) : ∀ g, seps [arr b 0 [v], sl ptrE 1 v xs, allH (fun x : Nat × List Int => dqH x.1 x.2) xs] g → rwsH b rs g := fun _ a => ⟨v, xs, h, a⟩
theorem sl_ptrs2 {xs : List (Nat × List Int)} {i q : Nat} {r r' : List Int} {v : Value} (hx : xs[i]? = some (q, r)) : ∀ g, sl ptrE 1 v xs g → sl ptrE 1 v (xs.set i (q, r')) g := fun g s => by
  have hl : rows ptrE (xs.set i (q, r')) = rows ptrE xs := by
    have e : ∀ (l l' : List (Nat × List Int)), l.map (·.1) = l'.map (·.1) → rows ptrE l = rows ptrE l' := fun l => by
      induction l with
      | nil => intro l' h; cases l' with
        | nil => rfl
        | cons y ys => cases h
      | cons x l ih => intro l' h; cases l' with
        | nil => cases h
        | cons y ys =>
          simp only [List.map_cons, List.cons.injEq] at h
          rw [rows_cons, rows_cons, ih ys h.2]
          show [ptr x.1] ++ _ = [ptr y.1] ++ _
          rw [h.1]
    refine e _ _ ?_
    rw [List.map_set]
    have : (xs.map (·.1))[i]? = some q := by rw [List.getElem?_map, hx]; rfl
    exact set_same this
  rcases s with ⟨a, rfl, e⟩ | ⟨b, cap, sp, e1, e2, -, e4, e5⟩
  · simp at hx
  · exact .inr ⟨b, cap, sp, by rw [List.length_set]; exact e1, by rw [List.length_set]; exact e2, fun _ _ => rfl, by rw [List.length_set]; exact e4, by rw [hl]; exact e5⟩
theorem rows_keep {b : Nat} {v : Value} {xs : List (Nat × List Int)} {rs : List (List Int)} {i q : Nat} {r : List Int} (h : xs.map (·.2) = rs) (hx : xs[i]? = some (q, r)) (r' : List Int) : ∀ g, seps [arr b 0 [v], sl ptrE 1 v xs, dqH q r', allH (fun x : Nat × List Int => dqH x.1 x.2) (xs.eraseIdx i)] g → rwsH b (rs.set i r') g := fun g a => by
  refine ⟨v, xs.set i (q, r'), by show (xs.set i (q, r')).map (·.2) = _; rw [List.map_set, h], ?_⟩
  simp only [seps, sep_emp] at a ⊢
  refine sep_mono (fun _ b => b) (sep_mono (sl_ptrs2 hx) (fun g b => ?_)) g a
  rw [allH_set _ _ (List.getElem?_eq_some_iff.1 hx).1]; exact b
theorem kept_ungrp {W : World} {H R K As : List HProp} (t : Take H (seps As) R) (h : ∀ w, Sat W w (seps (As ++ R)) → Sat W w (seps K)) : ∀ w, Sat W w (seps H) → Sat W w (seps K) := fun w s => h w (by rw [seps_append, ← t.seps]; exact s)
def wE (l : List Ev) : Ev := match evWithin l with | none => ⟨0, 0, 0⟩ | some x => x.1
def wR (l : List Ev) : List Ev := match evWithin l with | none => l | some x => x.2
theorem within_no {l : List Ev} (h : idxP inS l 0 < 0) : evWithin l = none := if_pos h
theorem within_yes {l : List Ev} (h : ¬ idxP inS l 0 < 0) (hl : (idxP inS l 0).toNat < l.length) : ∃ i e, idxP inS l 0 = ((i : Nat) : Int) ∧ l[i]? = some e ∧ evWithin l = some (e, l.take i ++ l.drop (i + 1)) := by
  obtain ⟨e, he⟩ := at_some hl
  refine ⟨(idxP inS l 0).toNat, e, by omega, he, ?_⟩
  unfold evWithin; rw [if_neg h, he]
theorem idxP_lt {α : Type} {p : α → Bool} : ∀ (l : List α) (k : Nat), idxP p l k < ((k + l.length : Nat) : Int)
  | [], k => by show (-1 : Int) < _; omega
  | x :: l, k => by
    unfold idxP
    split
    · simp only [List.length_cons]; omega
    · have := idxP_lt (p := p) l (k + 1); simp only [List.length_cons]; omega
end Go.SLYtnceicnimongcaaGreat
namespace Go.SLYtnceicnimongcaaGreat
open Go Go.RowKit Go.Proofs Go.Proofs.Tryz

theorem deque_fresh {W : World} {b : Nat} {l : List Int} {n : Int} (hl : l.length ≤ 1000000000) : Fn Tryz.prog W 93 [ptr b, .int .i64 n] [dqH b l] Unit (fun _ => .bool (!l.contains n)) (fun _ => True) (fun _ => [dqH b l]) := by
  refine Fn.intro (N := 16) func93 rfl ntmps93 rfl fun F => ?_
  show GoC _ _ _ _ _ _ [dqH b l, F]
  refine .o1 (C := dqH b l) .auto rfl ?_
  rintro v -
  refine .s (.r (.p (.a rfl) (.n (.t (.s (.r (.p (.m rfl) (.p (.neqp rfl rfl) (.p (.m rfl) (.g (.m rfl) (.g (.n rfl) (.g (.z rfl) (.g (.l rfl) (.g (.m rfl) ?_))))))))))))))
  refine .dg rfl rfl rfl (Does.callE rfl call108 rfl (ContainsI (A := sl intE 1 v l) (Rd.sl .here) hl) .auto) ?_
  rintro _ _ ⟨⟨⟩, -, rfl, rfl⟩
  refine .g (.not rfl) (.p (.t rfl rfl) (.p (.a rfl) (.n (.t (.e (.ret1 rfl rfl fun w s => ⟨(), ?_, trivial, finE .auto s⟩))))))
  rfl

theorem deque_freshN {W : World} {n : Int} : Fn Tryz.prog W 93 [.pointer none, .int .i64 n] [] Unit (fun _ => .bool false) (fun _ => True) (fun _ => []) := by
  refine Fn.intro (N := 16) func93 rfl ntmps93 rfl fun F => ?_
  show GoC _ _ _ _ _ _ [F]
  refine .s (.r (.p (.a rfl) (.n (.t (.s (.r (.p (.m rfl) (.p (.neqp rfl rfl) (.p (.m rfl) (.u (.u (.u (.u (.u (.u (.u (.p (.u rfl rfl) (.p (.a rfl) (.n (.t (.e (.ret1 rfl rfl fun w s => ⟨(), ?_, trivial, finE .auto s⟩))))))))))))))))))))))
  rfl

theorem deque_Push {W : World} {b : Nat} {l : List Int} {n : Int} (hl : l.length ≤ 1000000000) (hn : l.contains n = false) : Fn Tryz.prog W 86 [ptr b, .int .i64 n] [dqH b l] Unit (fun _ => .bool true) (fun _ => True) (fun _ => [dqH b (l ++ [n])]) := by
  refine Fn.intro (N := 19) func86 rfl ntmps86 rfl fun F => ?_
  show GoC _ _ _ _ _ _ [dqH b l, F]
  refine .s (.r (.p (.a rfl) (.n (.t (.s (.s (.r (.p (.m rfl) (.p (.m rfl) ?_)))))))))
  refine .does rfl (Does.callE rfl call93 rfl (deque_fresh hl) .auto) ?_
  rintro _ _ ⟨⟨⟩, -, rfl, rfl⟩
  rw [hn]
  refine .p (.not rfl) (.n (.t (.cond rfl (fun h8 => ?_) (fun h8 => ?_))))
  · cases h8
  · refine .v (.t (.s (.r (.p (.m rfl) ?_))))
    refine .o1 (C := dqH b l) .auto rfl ?_
    rintro v -
    refine .p (.m rfl) (.p (.n rfl) (.p (.z rfl) (.p (.l rfl) (.p (.m rfl) ?_))))
    refine .does rfl (Does.bsl 3 rfl rfl (by kernel_rfl)) ?_
    rintro _ _ ⟨b15, rfl, rfl⟩
    refine .does rfl (Does.app1 (enc := intE) (k := 1) n rfl underlying23 underlying23 typeInfo3 rfl rfl rfl (by decide) rfl rfl rfl .auto rfl .auto (by omega) rfl) ?_
    rintro _ _ ⟨v16, rfl, rfl⟩
    refine .p (.n rfl) (.p (.z rfl) ?_)
    refine .does rfl (Does.stS sizeOf23 rfl rfl rfl) ?_
    rintro _ _ ⟨rfl, rfl⟩
    refine .n (.t (.s (.r (.p (.a rfl) (.n (.t (.e (.ret1 rfl rfl fun w s => ⟨(), ?_, trivial, finE .auto s⟩))))))))
    rfl

theorem deque_PushN {W : World} {n : Int} : Fn Tryz.prog W 86 [.pointer none, .int .i64 n] [] Unit (fun _ => .bool false) (fun _ => True) (fun _ => []) := by
  refine Fn.intro (N := 19) func86 rfl ntmps86 rfl fun F => ?_
  show GoC _ _ _ _ _ _ [F]
  refine .s (.r (.p (.a rfl) (.n (.t (.s (.s (.r (.p (.m rfl) (.p (.m rfl) ?_)))))))))
  refine .does rfl (Does.callE rfl call93 rfl deque_freshN .auto) ?_
  rintro _ _ ⟨⟨⟩, -, rfl, rfl⟩
  refine .p (.not rfl) (.n (.t (.condT rfl ?_)))
  refine .s (.r (.p (.a rfl) (.n (.t (.e (.tr (.ret1 rfl rfl fun w s => ⟨(), ?_, trivial, finE .auto s⟩)))))))
  rfl

theorem deque_out {W : World} {b : Nat} {l : List Int} {a x : Int} {i : Nat} (hl : l.length ≤ 1000000000) (hx : l[i]? = some x) (ha : (0 ≤ a ∧ a = (i : Int)) ∨ (a < 0 ∧ a + (l.length : Int) = (i : Int))) : Fn Tryz.prog W 87 [ptr b, .int .i64 a] [dqH b l] Unit (fun _ => .tuple #[.int .i64 x, .bool true]) (fun _ => True) (fun _ => [dqH b (l.eraseIdx i)]) := by
  refine Fn.intro (N := 45) func87 rfl ntmps87 rfl fun F => ?_
  show GoC _ _ _ _ _ _ [dqH b l, F]
  refine .o1 (C := dqH b l) .auto rfl ?_
  rintro v -
  have hi := (List.getElem?_eq_some_iff.1 hx).1
  refine .s (.r (.p (.a rfl) (.p (.a rfl) (.n (.t (.s (.s (.r (.p (.m rfl) (.p (.eqp rfl rfl) (.p (.m rfl) (.g (.m rfl) (.g (.n rfl) (.g (.z rfl) (.g (.l rfl) (.g (.len rfl) (.g (.eql rfl rfl) (.p (.u rfl rfl) (.n (.t (.condD rfl (fun h16 => ?_) (fun h16 => ?_))))))))))))))))))))))
  · exact absurd h16 (by omega)
  · refine .v (.t (.s (.s (.r (.p (.m rfl) (.p (.lss rfl rfl) (.n (.t (.condD rfl (fun h18 => ?_) (fun h18 => ?_))))))))))
    · refine .r (.p (.m rfl) (.p (.m rfl) (.p (.n rfl) (.p (.z rfl) (.p (.l rfl) (.p (.len rfl) ?_))))))
      refine .p (.add rfl rfl (by omega)) ?_
      refine .p (.a rfl) (.n (.t (.s (.r (.p (.m rfl) (.p (.n rfl) (.p (.z rfl) (.p (.l rfl) (.p (.m rfl) ?_)))))))))
      refine .p (.ix i rfl rfl (by omega) hi) ?_
      refine .p (.lr rfl hx) ?_
      refine .p (.a rfl) (.n (.t (.s (.r (.p (.m rfl) (.p (.m rfl) (.p (.n rfl) (.p (.z rfl) (.p (.l rfl) ?_)))))))))
      refine .p (.valW (Y.m rfl) (show _ = (i : Int) by omega)) ?_
      refine .p (.m rfl) ?_
      refine .p (.valW (Y.add rfl rfl (by omega)) (show _ = ((i + 1 : Nat) : Int) by omega)) ?_
      refine .does rfl (Does.callE rfl call94 rfl (DeleteI hi hl) .auto) ?_
      rintro _ _ ⟨u41, -, rfl, rfl⟩
      refine .p (.n rfl) (.p (.z rfl) ?_)
      refine .does rfl (Does.stS sizeOf23 rfl rfl rfl) ?_
      rintro _ _ ⟨rfl, rfl⟩
      refine .n (.t (.s (.r (.p (.m rfl) (.p (.a rfl) (.p (.a rfl) (.n (.t (.e (.ret2 rfl rfl rfl fun w s => ⟨(), ?_, trivial, finE .auto s⟩))))))))))
      rfl
    · refine .v (.t (.s (.r (.p (.m rfl) (.p (.n rfl) (.p (.z rfl) (.p (.l rfl) (.p (.m rfl) ?_))))))))
      refine .p (.ix i rfl rfl (by omega) hi) ?_
      refine .p (.lr rfl hx) ?_
      refine .p (.a rfl) (.n (.t (.s (.r (.p (.m rfl) (.p (.m rfl) (.p (.n rfl) (.p (.z rfl) (.p (.l rfl) ?_)))))))))
      refine .p (.valW (Y.m rfl) (show _ = (i : Int) by omega)) ?_
      refine .p (.m rfl) ?_
      refine .p (.valW (Y.add rfl rfl (by omega)) (show _ = ((i + 1 : Nat) : Int) by omega)) ?_
      refine .does rfl (Does.callE rfl call94 rfl (DeleteI hi hl) .auto) ?_
      rintro _ _ ⟨u41, -, rfl, rfl⟩
      refine .p (.n rfl) (.p (.z rfl) ?_)
      refine .does rfl (Does.stS sizeOf23 rfl rfl rfl) ?_
      rintro _ _ ⟨rfl, rfl⟩
      refine .n (.t (.s (.r (.p (.m rfl) (.p (.a rfl) (.p (.a rfl) (.n (.t (.e (.ret2 rfl rfl rfl fun w s => ⟨(), ?_, trivial, finE .auto s⟩))))))))))
      rfl

theorem deque_out0 {W : World} {b : Nat} {a : Int} : Fn Tryz.prog W 87 [ptr b, .int .i64 a] [dqH b []] Unit (fun _ => .tuple #[.int .i64 0, .bool false]) (fun _ => True) (fun _ => [dqH b []]) := by
  refine Fn.intro (N := 45) func87 rfl ntmps87 rfl fun F => ?_
  show GoC _ _ _ _ _ _ [dqH b [], F]
  refine .o1 (C := dqH b []) .auto rfl ?_
  rintro v -
  refine .s (.r (.p (.a rfl) (.p (.a rfl) (.n (.t (.s (.s (.r (.p (.m rfl) (.p (.eqp rfl rfl) (.p (.m rfl) (.g (.m rfl) (.g (.n rfl) (.g (.z rfl) (.g (.l rfl) (.g (.len rfl) (.g (.eql rfl rfl) (.p (.u rfl rfl) (.n (.t (.condD rfl (fun h16 => ?_) (fun h16 => ?_))))))))))))))))))))))
  · refine .s (.r (.p (.a rfl) (.p (.a rfl) (.n (.t (.e (.tr (.ret2 rfl rfl rfl fun w s => ⟨(), ?_, trivial, finE .auto s⟩))))))))
    rfl
  · exact absurd rfl h16

theorem deque_Pop {W : World} {b : Nat} {t : Int} {l : List Int} (hl : (t :: l).length ≤ 1000000000) : Fn Tryz.prog W 78 [ptr b] [dqH b (t :: l)] Unit (fun _ => .tuple #[.int .i64 t, .bool true]) (fun _ => True) (fun _ => [dqH b l]) := by
  refine Fn.intro (N := 8) func78 rfl ntmps78 rfl fun F => ?_
  show GoC _ _ _ _ _ _ [dqH b (t :: l), F]
  refine .s (.r (.p (.a rfl) (.p (.a rfl) (.n (.t (.s (.r (.p (.m rfl) ?_))))))))
  refine .does rfl (Does.callE rfl call87 rfl (deque_out (l := t :: l) (i := 0) hl rfl (.inl ⟨Int.le_refl _, rfl⟩)) .auto) ?_
  rintro _ _ ⟨⟨⟩, -, rfl, rfl⟩
  rw [show (t :: l).eraseIdx 0 = l from rfl]
  refine .p (.extract rfl rfl) (.p (.extract rfl rfl) (.p (.a rfl) (.p (.a rfl) (.n (.t (.e (.ret2 rfl rfl rfl fun w s => ⟨(), ?_, trivial, finE .auto s⟩)))))))
  rfl

theorem deque_Pop0 {W : World} {b : Nat} : Fn Tryz.prog W 78 [ptr b] [dqH b []] Unit (fun _ => .tuple #[.int .i64 0, .bool false]) (fun _ => True) (fun _ => [dqH b []]) := by
  refine Fn.intro (N := 8) func78 rfl ntmps78 rfl fun F => ?_
  show GoC _ _ _ _ _ _ [dqH b [], F]
  refine .s (.r (.p (.a rfl) (.p (.a rfl) (.n (.t (.s (.r (.p (.m rfl) ?_))))))))
  refine .does rfl (Does.callE rfl call87 rfl deque_out0 .auto) ?_
  rintro _ _ ⟨⟨⟩, -, rfl, rfl⟩
  refine .p (.extract rfl rfl) (.p (.extract rfl rfl) (.p (.a rfl) (.p (.a rfl) (.n (.t (.e (.ret2 rfl rfl rfl fun w s => ⟨(), ?_, trivial, finE .auto s⟩)))))))
  rfl

theorem deque_PopBack {W : World} {b i : Nat} {t : Int} {l : List Int} (hl : l.length ≤ 1000000000) (hi : i + 1 = l.length) (ht : l[i]? = some t) : Fn Tryz.prog W 79 [ptr b] [dqH b l] Unit (fun _ => .tuple #[.int .i64 t, .bool true]) (fun _ => True) (fun _ => [dqH b l.dropLast]) := by
  refine Fn.intro (N := 8) func79 rfl ntmps79 rfl fun F => ?_
  show GoC _ _ _ _ _ _ [dqH b l, F]
  refine .s (.r (.p (.a rfl) (.p (.a rfl) (.n (.t (.s (.r (.p (.m rfl) ?_))))))))
  refine .does rfl (Does.callE rfl call87 rfl (deque_out (i := i) hl ht (.inr ⟨by decide, by omega⟩)) .auto) ?_
  rintro _ _ ⟨⟨⟩, -, rfl, rfl⟩
  rw [erase_last hi]
  refine .p (.extract rfl rfl) (.p (.extract rfl rfl) (.p (.a rfl) (.p (.a rfl) (.n (.t (.e (.ret2 rfl rfl rfl fun w s => ⟨(), ?_, trivial, finE .auto s⟩)))))))
  rfl

theorem deque_PopBack0 {W : World} {b : Nat} : Fn Tryz.prog W 79 [ptr b] [dqH b []] Unit (fun _ => .tuple #[.int .i64 0, .bool false]) (fun _ => True) (fun _ => [dqH b []]) := by
  refine Fn.intro (N := 8) func79 rfl ntmps79 rfl fun F => ?_
  show GoC _ _ _ _ _ _ [dqH b [], F]
  refine .s (.r (.p (.a rfl) (.p (.a rfl) (.n (.t (.s (.r (.p (.m rfl) ?_))))))))
  refine .does rfl (Does.callE rfl call87 rfl deque_out0 .auto) ?_
  rintro _ _ ⟨⟨⟩, -, rfl, rfl⟩
  refine .p (.extract rfl rfl) (.p (.extract rfl rfl) (.p (.a rfl) (.p (.a rfl) (.n (.t (.e (.ret2 rfl rfl rfl fun w s => ⟨(), ?_, trivial, finE .auto s⟩)))))))
  rfl

theorem rows_row {W : World} {b : Nat} {v : Value} {xs : List (Nat × List Int)} {n : Int} (_hl : xs.length ≤ 1000000000) : Fn Tryz.prog W 77 [ptr b, .int .i64 n] [arr b 0 [v], sl ptrE 1 v xs] Unit (fun _ => ptrO ((geti xs n).map (·.1))) (fun _ => True) (fun _ => [arr b 0 [v], sl ptrE 1 v xs]) := by
  refine Fn.intro (N := 27) func77 rfl ntmps77 rfl fun F => ?_
  show GoC _ _ _ _ _ _ [arr b 0 [v], sl ptrE 1 v xs, F]
  refine .s (.r (.p (.a rfl) (.n (.t (.s (.s (.r (.p (.m rfl) (.p (.eqp rfl rfl) (.p (.m rfl) (.g (.m rfl) (.g (.lss rfl rfl) (.p (.u rfl rfl) (.p (.m rfl) ?_))))))))))))))
  refine .partD (t := 11) rfl (fun h11 => ?_) (fun h11 => ?_)
  · refine .u (.u (.u (.u (.u (.u (.u (.p (.t rfl rfl) (.n (.t (.condT rfl ?_))))))))))
    refine .s (.r (.p (.a rfl) (.n (.t (.e (.tr (.ret1 rfl rfl fun w s => ⟨(), ?_, trivial, finE .auto s⟩)))))))
    rw [geti_none (by omega)]; rfl
  · refine .g (.m rfl) (.g (.m rfl) (.g (.n rfl) (.g (.z rfl) (.g (.l rfl) (.g (.len rfl) (.g (.geq rfl rfl) (.p (.u rfl rfl) (.n (.t (.condD rfl (fun h19 => ?_) (fun h19 => ?_)))))))))))
    · refine .s (.r (.p (.a rfl) (.n (.t (.e (.tr (.ret1 rfl rfl fun w s => ⟨(), ?_, trivial, finE .auto s⟩)))))))
      rw [geti_none (by omega)]; rfl
    · refine .v (.t (.s (.r (.p (.m rfl) (.p (.n rfl) (.p (.z rfl) (.p (.l rfl) (.p (.m rfl) ?_))))))))
      obtain ⟨x, hx, hg⟩ := geti_some (l := xs) (i := n) ⟨by omega, by omega⟩
      refine .p (.ix n.toNat rfl rfl (by omega) (by omega)) ?_
      refine .p (.lr rfl hx) ?_
      refine .p (.a rfl) (.n (.t (.e (.ret1 rfl rfl fun w s => ⟨(), ?_, trivial, finE .auto s⟩))))
      rw [hg]; rfl

theorem rows_Add {W : World} {b : Nat} {rs : List (List Int)} {p t : Int} (hl : rs.length ≤ 64 ∧ ∀ r ∈ rs, r.length ≤ 900000000) : Fn Tryz.prog W 76 [ptr b, .int .i64 p, .int .i64 t] [rwsH b rs] Bool (fun u => .bool u) (fun _ => True) (fun _ => [rwsH b (rAdd rs p t)]) := by
  refine Fn.intro (N := 21) func76 rfl ntmps76 rfl fun F => ?_
  show GoC _ _ _ _ _ _ [rwsH b rs, F]
  have hlb : rs.length ≤ 64 ∧ ∀ r ∈ rs, r.length ≤ 1000000000 := ⟨hl.1, fun r hr => Nat.le_trans (hl.2 r hr) (by decide)⟩
  refine .s (.r (.p (.a rfl) (.n (.t (.s (.s (.r (.p (.m rfl) (.p (.m rfl) ?_)))))))))
  refine .does rfl (Does.callE rfl call85 rfl (rows_Where hlb) .auto) ?_
  rintro _ _ ⟨⟨⟩, -, rfl, rfl⟩
  refine .p (.m rfl) (.p (.extract rfl rfl) (.p (.extract rfl rfl) (.p (.a rfl) (.p (.a rfl) (.n (.t (.s (.r (.p (.m rfl) (.n (.t (.cond rfl (fun h15 => ?_) (fun h15 => ?_)))))))))))))
  · refine .s (.r (.p (.a rfl) (.n (.t (.e (.tr ?_))))))
    rw [rAdd_there h15]
    refine .ret1 rfl rfl fun w s => ⟨false, ?_, trivial, finE .auto s⟩
    rfl
  · refine .o2 (C := rwsH b rs) .auto rfl ?_
    rintro v xs hxs
    have hxl := map_len hxs
    have hgr := geti_rows hxs (p := p)
    refine .v (.t (.s ?_))
    rcases hg : geti xs p with _ | ⟨q, r⟩
    · rw [hg] at hgr
      refine .r (.p (.m rfl) (.p (.m rfl) ?_))
      refine .does rfl (Does.callE rfl call77 rfl (rows_row (xs := xs) (n := p) (by omega)) .auto) ?_
      rintro _ _ ⟨⟨⟩, -, rfl, rfl⟩
      rw [hg]
      refine .p (.m rfl) ?_
      refine .does rfl (Does.callE rfl call86 rfl deque_PushN .auto) ?_
      rintro _ _ ⟨⟨⟩, -, rfl, rfl⟩
      refine .p (.a rfl) (.n (.t (.e ?_)))
      rw [rAdd_none hgr]
      refine .to (A := rwsH b rs) (Bs := [arr b 0 [v], sl ptrE 1 v xs, allH (fun x : Nat × List Int => dqH x.1 x.2) xs]) .auto (rows_in hxs) ?_
      refine .ret1 rfl rfl fun w s => ⟨false, ?_, trivial, finE .auto s⟩
      rfl
    · rw [hg] at hgr
      have hx := (geti_of hg).2.2
      have hrx := (geti_of hgr).2.2
      refine .r (.p (.m rfl) (.p (.m rfl) ?_))
      refine .does rfl (Does.callE rfl call77 rfl (rows_row (xs := xs) (n := p) (by omega)) .auto) ?_
      rintro _ _ ⟨⟨⟩, -, rfl, rfl⟩
      rw [hg]
      refine .fr .auto (row_out hx) ?_
      refine .p (.m rfl) ?_
      refine .does rfl (Does.callE rfl call86 rfl (deque_Push (l := r) (hlb.2 r (List.mem_of_getElem? hrx)) (not_there h15 hrx)) .auto) ?_
      rintro _ _ ⟨⟨⟩, -, rfl, rfl⟩
      refine .p (.a rfl) (.n (.t (.e ?_)))
      rw [rAdd_some h15 hgr]
      refine .to (A := rwsH b (rs.set p.toNat (r ++ [t]))) (Bs := [arr b 0 [v], sl ptrE 1 v xs, dqH q (r ++ [t]), allH (fun x : Nat × List Int => dqH x.1 x.2) (xs.eraseIdx p.toNat)]) .auto (rows_keep hxs hx (r ++ [t])) ?_
      refine .ret1 rfl rfl fun w s => ⟨true, ?_, trivial, finE .auto s⟩
      rfl

theorem rows_Pick {W : World} {b : Nat} {rs : List (List Int)} {p : Int} (hl : rs.length ≤ 64 ∧ ∀ r ∈ rs, r.length ≤ 900000000) : Fn Tryz.prog W 59 [ptr b, .int .i64 p] [rwsH b rs] Unit (fun _ => .tuple #[.int .i64 (pickT rs p), .bool (rPick rs p).isSome]) (fun _ => True) (fun _ => [rwsH b (pickR rs p)]) := by
  refine Fn.intro (N := 44) func59 rfl ntmps59 rfl fun F => ?_
  show GoC _ _ _ _ _ _ [rwsH b rs, F]
  have hlb : rs.length ≤ 64 ∧ ∀ r ∈ rs, r.length ≤ 1000000000 := ⟨hl.1, fun r hr => Nat.le_trans (hl.2 r hr) (by decide)⟩
  refine .o2 (C := rwsH b rs) .auto rfl ?_
  rintro v xs hxs
  have hxl := map_len hxs
  have hgr := geti_rows hxs (p := p)
  refine .s ?_
  rcases hg : geti xs p with _ | ⟨q, _ | ⟨t, r⟩⟩
  · rw [hg] at hgr
    refine .r (.p (.a rfl) (.p (.a rfl) (.n (.t (.s (.r (.p (.m rfl) (.p (.m rfl) ?_))))))))
    refine .does rfl (Does.callE rfl call77 rfl (rows_row (xs := xs) (n := p) (by omega)) .auto) ?_
    rintro _ _ ⟨⟨⟩, -, rfl, rfl⟩
    rw [hg]
    refine .p (.a rfl) (.n (.t (.s (.s (.r (.p (.m rfl) (.p (.eqp rfl rfl) (.n (.t (.condT rfl ?_))))))))))
    refine .s (.r (.p (.a rfl) (.p (.a rfl) (.n (.t (.e (.tr ?_)))))))
    rw [(pick_none (rPick_no hgr)).1, (pick_none (rPick_no hgr)).2, rPick_no hgr]
    refine .to (A := rwsH b rs) (Bs := [arr b 0 [v], sl ptrE 1 v xs, allH (fun x : Nat × List Int => dqH x.1 x.2) xs]) .auto (rows_in hxs) ?_
    refine .ret2 rfl rfl rfl fun w s => ⟨(), ?_, trivial, finE .auto s⟩
    rfl
  · rw [hg] at hgr
    have hx := (geti_of hg).2.2
    refine .r (.p (.a rfl) (.p (.a rfl) (.n (.t (.s (.r (.p (.m rfl) (.p (.m rfl) ?_))))))))
    refine .does rfl (Does.callE rfl call77 rfl (rows_row (xs := xs) (n := p) (by omega)) .auto) ?_
    rintro _ _ ⟨⟨⟩, -, rfl, rfl⟩
    rw [hg]
    refine .fr .auto (row_out hx) ?_
    refine .p (.a rfl) (.n (.t (.s (.s (.r (.p (.m rfl) (.p (.eqp rfl rfl) (.n (.t (.condF rfl ?_))))))))))
    refine .v (.t (.s (.s (.r (.p (.m rfl) ?_)))))
    refine .does rfl (Does.callE rfl call78 rfl deque_Pop0 .auto) ?_
    rintro _ _ ⟨⟨⟩, -, rfl, rfl⟩
    refine .to (A := allH (fun x : Nat × List Int => dqH x.1 x.2) xs) (Bs := [dqH q [], allH (fun x : Nat × List Int => dqH x.1 x.2) (xs.eraseIdx p.toNat)]) .auto (all_back (f := (fun x : Nat × List Int => dqH x.1 x.2)) hx) ?_
    refine .p (.m rfl) (.p (.extract rfl rfl) (.p (.extract rfl rfl) (.p (.a rfl) (.p (.a rfl) (.n (.t (.s (.r (.p (.m rfl) (.n (.t (.condF rfl ?_))))))))))))
    refine .v (.t (.s (.r (.p (.a rfl) (.n (.t (.s (.s (.r (.p (.m rfl) (.p (.n rfl) (.p (.z rfl) (.p (.l rfl) (.p (.len rfl) (.p (.m rfl) (.n (.t (.b ?_))))))))))))))))))
    refine .loopK (X := Nat) [4, 5, 11, 12, 13, 31, 32, 33, 34, 35, 36, 37, 38, 39, 40, 41, 42, 43] (fun z => rs.length - z) (fun z => z ≤ rs.length ∧ ∀ j, j < z → rs[j]? = some []) (fun z => [(31, some (.int .i64 (z : Int)))]) (fun z => [arr b 0 [v], sl ptrE 1 v xs, allH (fun x : Nat × List Int => dqH x.1 x.2) xs, F]) 0 ?_ ?_ ?_ ?_
    · exact ⟨Nat.zero_le _, fun j h => absurd h (Nat.not_lt_zero _)⟩
    · exact ⟨rfl, trivial⟩
    · exact fun w s => Ent.kept .auto w s
    rintro k ⟨hk, hj⟩
    refine .s (.r (.p (.lss rfl rfl) (.n (.t (.s (.condD rfl (fun h32 => ?_) (fun h32 => ?_)))))))
    · obtain ⟨⟨q2, r⟩, hxk⟩ := at_some (show k < xs.length by omega)
      have hrk : rs[k]? = some r := map_get hxs hxk
      refine .v (.t (.s (.b (.s ?_))))
      rcases hlast : r.getLast? with _ | t
      · have hr0 : r = [] := List.getLast?_eq_none_iff.1 hlast
        subst hr0
        refine .r ?_
        refine .p (.ix _ rfl rfl rfl (by first | omega | decide)) ?_
        refine .p (.lr rfl hxk) ?_
        refine .p (.a rfl) (.n (.t (.s (.r (.p (.m rfl) (.p (.m rfl) ?_))))))
        refine .fr .auto (row_out hxk) ?_
        refine .does rfl (Does.callvE rfl rfl call79 rfl deque_PopBack0 .auto) ?_
        rintro _ _ ⟨⟨⟩, -, rfl, rfl⟩
        refine .to (A := allH (fun x : Nat × List Int => dqH x.1 x.2) xs) (Bs := [dqH q2 [], allH (fun x : Nat × List Int => dqH x.1 x.2) (xs.eraseIdx k)]) .auto (all_back (f := (fun x : Nat × List Int => dqH x.1 x.2)) hxk) ?_
        refine .p (.m rfl) (.p (.extract rfl rfl) (.p (.extract rfl rfl) (.p (.a rfl) (.p (.a rfl) (.n (.t (.s (.r (.p (.m rfl) (.n (.t (.condF rfl ?_))))))))))))
        refine .v (.b (.t (.r ?_)))
        refine .p (.inc rfl rfl (by omega)) ?_
        refine .p (.m rfl) (.n ?_)
        refine .againK (k + 1) .auto rfl ?_ ?_ ?_ ?_
        · omega
        · exact ⟨by omega, fun j h => by
            rcases Nat.lt_or_ge j k with h2 | h2
            · exact hj j h2
            · obtain rfl : j = k := by omega
              exact hrk⟩
        · exact ⟨rfl, trivial⟩
        · exact fun w s => Ent.kept .auto w s
      · obtain ⟨i, hi, hti⟩ := last_at hlast
        have hpk : rPick rs p = some (t, rs.set k r.dropLast) := (rPick_else hgr).trans (steal_at hj hrk hlast)
        refine .r ?_
        refine .p (.ix _ rfl rfl rfl (by first | omega | decide)) ?_
        refine .p (.lr rfl hxk) ?_
        refine .p (.a rfl) (.n (.t (.s (.r (.p (.m rfl) (.p (.m rfl) ?_))))))
        refine .fr .auto (row_out hxk) ?_
        refine .does rfl (Does.callvE rfl rfl call79 rfl (deque_PopBack (hlb.2 r (List.mem_of_getElem? hrk)) hi hti) .auto) ?_
        rintro _ _ ⟨⟨⟩, -, rfl, rfl⟩
        refine .p (.m rfl) (.p (.extract rfl rfl) (.p (.extract rfl rfl) (.p (.a rfl) (.p (.a rfl) (.n (.t (.s (.r (.p (.m rfl) (.n (.t (.condT rfl ?_))))))))))))
        refine .s (.r (.p (.m rfl) (.p (.a rfl) (.p (.a rfl) (.n (.t (.e (.br (.tr (.tr (.br (.tr ?_))))))))))))
        rw [(pick_some hpk).1, (pick_some hpk).2, hpk]
        refine .to (A := rwsH b (rs.set k r.dropLast)) (Bs := [arr b 0 [v], sl ptrE 1 v xs, dqH q2 r.dropLast, allH (fun x : Nat × List Int => dqH x.1 x.2) (xs.eraseIdx k)]) .auto (rows_keep hxs hxk r.dropLast) ?_
        refine .ret2 rfl rfl rfl fun w s => ⟨(), ?_, trivial, finE .auto s⟩
        rfl
    · obtain rfl : k = rs.length := by omega
      have hpk : rPick rs p = none := (rPick_else hgr).trans (steal_none hj)
      refine .x (.tx (.tx (.bh (.t (.s (.r (.p (.a rfl) (.p (.a rfl) (.n (.t (.e ?_)))))))))))
      rw [(pick_none hpk).1, (pick_none hpk).2, hpk]
      refine .to (A := rwsH b rs) (Bs := [arr b 0 [v], sl ptrE 1 v xs, allH (fun x : Nat × List Int => dqH x.1 x.2) xs]) .auto (rows_in hxs) ?_
      refine .ret2 rfl rfl rfl fun w s => ⟨(), ?_, trivial, finE .auto s⟩
      rfl
  · rw [hg] at hgr
    have hx := (geti_of hg).2.2
    have hpk : rPick rs p = some (t, rs.set p.toNat r) := rPick_own hgr
    refine .r (.p (.a rfl) (.p (.a rfl) (.n (.t (.s (.r (.p (.m rfl) (.p (.m rfl) ?_))))))))
    refine .does rfl (Does.callE rfl call77 rfl (rows_row (xs := xs) (n := p) (by omega)) .auto) ?_
    rintro _ _ ⟨⟨⟩, -, rfl, rfl⟩
    rw [hg]
    refine .fr .auto (row_out hx) ?_
    refine .p (.a rfl) (.n (.t (.s (.s (.r (.p (.m rfl) (.p (.eqp rfl rfl) (.n (.t (.condF rfl ?_))))))))))
    refine .v (.t (.s (.s (.r (.p (.m rfl) ?_)))))
    refine .does rfl (Does.callE rfl call78 rfl (deque_Pop (hlb.2 (t :: r) (List.mem_of_getElem? (geti_of hgr).2.2))) .auto) ?_
    rintro _ _ ⟨⟨⟩, -, rfl, rfl⟩
    refine .p (.m rfl) (.p (.extract rfl rfl) (.p (.extract rfl rfl) (.p (.a rfl) (.p (.a rfl) (.n (.t (.s (.r (.p (.m rfl) (.n (.t (.condT rfl ?_))))))))))))
    refine .s (.r (.p (.m rfl) (.p (.a rfl) (.p (.a rfl) (.n (.t (.e (.tr ?_))))))))
    rw [(pick_some hpk).1, (pick_some hpk).2, hpk]
    refine .to (A := rwsH b (rs.set p.toNat r)) (Bs := [arr b 0 [v], sl ptrE 1 v xs, dqH q r, allH (fun x : Nat × List Int => dqH x.1 x.2) (xs.eraseIdx p.toNat)]) .auto (rows_keep hxs hx r) ?_
    refine .ret2 rfl rfl rfl fun w s => ⟨(), ?_, trivial, finE .auto s⟩
    rfl

theorem rows_Empty {W : World} {b : Nat} {rs : List (List Int)} (hl : rs.length ≤ 64 ∧ ∀ r ∈ rs, r.length ≤ 900000000) : Fn Tryz.prog W 44 [ptr b] [rwsH b rs] Unit (fun _ => .bool (rEmpty rs)) (fun _ => True) (fun _ => [rwsH b rs]) := by
  refine Fn.intro (N := 21) func44 rfl ntmps44 rfl fun F => ?_
  show GoC _ _ _ _ _ _ [rwsH b rs, F]
  have hlb : rs.length ≤ 64 ∧ ∀ r ∈ rs, r.length ≤ 1000000000 := ⟨hl.1, fun r hr => Nat.le_trans (hl.2 r hr) (by decide)⟩
  refine .o2 (C := rwsH b rs) .auto rfl ?_
  rintro v xs hxs
  have hxl := map_len hxs
  refine .s (.r (.p (.a rfl) (.n (.t (.s (.s (.r (.p (.m rfl) (.p (.eqp rfl rfl) (.n (.t (.condF rfl ?_))))))))))))
  refine .v (.t (.s (.s (.r (.p (.m rfl) (.p (.n rfl) (.p (.z rfl) (.p (.l rfl) (.p (.len rfl) (.p (.m rfl) (.n (.t (.b ?_)))))))))))))
  refine .loopK (X := Nat) [2, 4, 12, 13, 14, 15, 16, 17, 18, 19, 20] (fun z => rs.length - z) (fun z => z ≤ rs.length ∧ ∀ j, j < z → rs[j]? = some []) (fun z => [(12, some (.int .i64 (z : Int)))]) (fun z => [arr b 0 [v], sl ptrE 1 v xs, allH (fun x : Nat × List Int => dqH x.1 x.2) xs, F]) 0 ?_ ?_ ?_ ?_
  · exact ⟨Nat.zero_le _, fun j h => absurd h (Nat.not_lt_zero _)⟩
  · exact ⟨rfl, trivial⟩
  · exact fun w s => Ent.kept .auto w s
  rintro k ⟨hk, hj⟩
  refine .s (.r (.p (.lss rfl rfl) (.n (.t (.s (.condD rfl (fun h13 => ?_) (fun h13 => ?_)))))))
  · refine .v (.t (.s (.b (.s (.r ?_)))))
    obtain ⟨⟨q, r⟩, hx⟩ := at_some (show k < xs.length by omega)
    have hrk : rs[k]? = some r := map_get hxs hx
    refine .p (.ix _ rfl rfl rfl (by first | omega | decide)) ?_
    refine .p (.lr rfl hx) ?_
    refine .p (.a rfl) (.n (.t (.s (.r (.p (.m rfl) ?_)))))
    refine .fr .auto (row_out hx) ?_
    refine .does rfl (Does.callE rfl call63 rfl (deque_All (l := r) (hlb.2 r (List.mem_of_getElem? hrk))) .auto) ?_
    rintro _ _ ⟨u17, -, rfl, rfl⟩
    refine .to (A := allH (fun x : Nat × List Int => dqH x.1 x.2) xs) (Bs := [dqH q r, allH (fun x : Nat × List Int => dqH x.1 x.2) (xs.eraseIdx k)]) .auto (all_back (f := (fun x : Nat × List Int => dqH x.1 x.2)) hx) ?_
    refine .p (.len rfl) (.p (.gtr rfl rfl) (.n (.t (.condD rfl (fun h19 => ?_) (fun h19 => ?_)))))
    · have he : rEmpty rs = false := empty_no hrk (fun e => by rw [e] at h19; simp at h19)
      refine .s (.r (.p (.a rfl) (.n (.t (.e (.br (.tr (.tr (.br (.tr ?_))))))))))
      rw [he]
      refine .to (A := rwsH b rs) (Bs := [arr b 0 [v], sl ptrE 1 v xs, allH (fun x : Nat × List Int => dqH x.1 x.2) xs]) .auto (rows_in hxs) ?_
      refine .ret1 rfl rfl fun w s => ⟨(), ?_, trivial, finE .auto s⟩
      rfl
    · refine .v (.b (.t (.r ?_)))
      refine .p (.inc rfl rfl (by omega)) ?_
      refine .p (.m rfl) (.n ?_)
      refine .againK (k + 1) .auto rfl ?_ ?_ ?_ ?_
      · omega
      · exact ⟨by omega, fun j h => by
          rcases Nat.lt_or_ge j k with h2 | h2
          · exact hj j h2
          · obtain rfl : j = k := by omega
            have hr0 : r = [] := List.eq_nil_of_length_eq_zero (by omega)
            rw [hrk, hr0]⟩
      · exact ⟨rfl, trivial⟩
      · exact fun w s => Ent.kept .auto w s
  · obtain rfl : k = rs.length := by omega
    have he : rEmpty rs = true := empty_yes hj
    refine .x (.tx (.tx (.bh (.t (.s (.r (.p (.a rfl) (.n (.t (.e ?_))))))))))
    rw [he]
    refine .to (A := rwsH b rs) (Bs := [arr b 0 [v], sl ptrE 1 v xs, allH (fun x : Nat × List Int => dqH x.1 x.2) xs]) .auto (rows_in hxs) ?_
    refine .ret1 rfl rfl fun w s => ⟨(), ?_, trivial, finE .auto s⟩
    rfl

theorem IndexFuncE0 {W : World} {A : HProp} {v : Value} {xs : List Ev} {p : Ev → Bool} {g : Nat} (hr : Rd W [A] evE 3 v xs) (hl : xs.length ≤ 1000000000) (hg : ∀ args w, (callFunc g args).run Tryz.prog w = .ok (.enter g args) w) (hf : ∀ x ∈ xs, Fn Tryz.prog W g [.agg (evE x).toArray] [A] Unit (fun _ => .bool (p x)) (fun _ => True) (fun _ => [A])) : Fn Tryz.prog W 74 [v, .func (.func g) #[] #[]] [A] Unit (fun _ => .int .i64 (idxP p xs 0)) (fun _ => True) (fun _ => [A]) := by
  refine Fn.intro (N := 19) func74 rfl ntmps74 rfl fun F => ?_
  haveI hRI : ∀ (H : List HProp) [HasH H A], ReadsC W H v evE 3 xs := fun H h => ⟨hr.at h.has⟩
  show GoC _ _ _ _ _ _ [A, F]
  refine .s (.r (.p (.a rfl) (.n (.t (.s (.s (.r (.p (.m rfl) (.p (.len rfl) (.p (.m rfl) (.n (.t (.b ?_)))))))))))))
  refine .loopK (X := Nat) [4, 5, 8, 9, 10, 11, 12, 13, 14, 15, 16, 17, 18] (fun k => xs.length - k) (fun k => k ≤ xs.length ∧ idxP p xs 0 = idxP p (xs.drop k) k) (fun k => [(8, some (.int .i64 (k : Int)))]) (fun k => [A, F]) 0 ?_ ?_ ?_ ?_
  · exact ⟨Nat.zero_le _, by simp⟩
  · exact ⟨rfl, trivial⟩
  · exact fun w s => Ent.kept .auto w s
  rintro k ⟨hk, hn⟩
  refine .s (.r (.p (.lss rfl rfl) (.n (.t (.s (.condD rfl (fun h9 => ?_) (fun h9 => ?_)))))))
  · refine .v (.t (.s (.b (.s (.r (.p (.m rfl) (.p (.a rfl) (.n (.t (.s (.r (.p (.m rfl) (.p (.m rfl) (.p (.m rfl) ?_))))))))))))))
    obtain ⟨x, hx⟩ := at_some (show k < xs.length by omega)
    refine .p (.ix _ rfl rfl rfl (by first | omega | decide)) ?_
    refine .p (.la rfl (Cells.rd Rd.s ‹_›)) ?_
    refine .does rfl (Does.callvE rfl rfl hg rfl (hf x (List.mem_of_getElem? hx)) .auto) ?_
    rintro _ _ ⟨⟨⟩, -, rfl, rfl⟩
    refine .n (.t (.cond rfl (fun h16 => ?_) (fun h16 => ?_)))
    · refine .s (.r (.p (.m rfl) (.p (.a rfl) (.n (.t (.e (.br (.tr (.tr (.br (.tr (.ret1 rfl rfl fun w s => ⟨(), ?_, trivial, finE .auto s⟩))))))))))))
      rw [hn, idxP_hit hx h16]
    · refine .v (.b (.t (.r ?_)))
      refine .p (.inc rfl rfl (by omega)) ?_
      refine .p (.m rfl) (.n ?_)
      refine .againK (k + 1) .auto rfl ?_ ?_ ?_ ?_
      · first | omega | (dsimp only; omega)
      · exact ⟨by omega, hn.trans (idxP_miss hx h16)⟩
      · exact ⟨rfl, trivial⟩
      · exact fun w s => Ent.kept .auto w s
  · refine .x (.tx (.tx (.bh (.t (.s (.r (.p (.a rfl) (.n (.t (.e (.ret1 rfl rfl fun w s => ⟨(), ?_, trivial, finE .auto s⟩)))))))))))
    rw [hn, idxP_end (by omega)]

theorem event_within1 {W : World} {A : HProp} {e : Ev} : Fn Tryz.prog W 75 [.agg (evE e).toArray] [A] Unit (fun _ => .bool (inS e)) (fun _ => True) (fun _ => [A]) := by
  refine Fn.intro (N := 6) func75 rfl ntmps75 rfl fun F => ?_
  show GoC _ _ _ _ _ _ [A, F]
  refine .s (.r ?_)
  refine .does rfl (Does.box rfl rfl rfl) ?_
  rintro _ _ ⟨b1, rfl, rfl⟩
  refine .p (.a rfl) (.n (.t (.s (.r (.p (.f rfl) (.p (.l rfl) (.p (.gtr rfl rfl) (.p (.a rfl) (.n (.t (.e (.ret1 rfl rfl fun w s => ⟨(), ?_, trivial, finE .auto s⟩))))))))))))
  rfl

theorem event_Within {W : World} {A : HProp} {v : Value} {xs : List Ev} (hr : Rd W [A] evE 3 v xs) (hl : xs.length ≤ 900000000) : Fn Tryz.prog W 54 [v] [A] Value (fun u => .tuple #[.agg (evE (wE xs)).toArray, u, .bool (evWithin xs).isSome]) (fun _ => True) (fun u => [sl evE 3 u (wR xs), A]) := by
  refine Fn.intro (N := 26) func54 rfl ntmps54 rfl fun F => ?_
  refine .know (fun w s => Rd.shape (hr.at .here) w s) fun e => ?_
  obtain ⟨a1, c1, rfl⟩ := e
  haveI hRI : ∀ (H : List HProp) [HasH H A], ReadsC W H (.slice a1 xs.length c1) evE 3 xs := fun H h => ⟨hr.at h.has⟩
  show GoC _ _ _ _ _ _ [A, F]
  refine .s (.r ?_)
  refine .does rfl (Does.alloc rfl zeroValue49 rfl) ?_
  rintro _ _ ⟨b2, rfl, rfl⟩
  refine .p (.a rfl) (.p (.a rfl) (.n (.t (.s (.r (.p (.m rfl) ?_))))))
  refine .does rfl (Does.callE rfl call74 rfl (IndexFuncE0 (p := inS) (g := 75) hr (by omega) call75 (fun e _ => event_within1)) .auto) ?_
  rintro _ _ ⟨⟨⟩, -, rfl, rfl⟩
  refine .p (.a rfl) (.n (.t (.s (.s (.r (.p (.m rfl) (.p (.lss rfl rfl) (.n (.t (.condD rfl (fun h9 => ?_) (fun h9 => ?_)))))))))))
  · have hw := within_no h9
    refine .s (.r ?_)
    refine .p (.bld0 ([(.int .i64 0), (.int .i64 0), (.int .i64 0)]) (by kernel_rfl)) ?_
    refine .p (.m rfl) ?_
    refine .does rfl (Does.callE rfl call46 rfl (CloneE hr (by omega)) .auto) ?_
    rintro _ _ ⟨u12, -, rfl, rfl⟩
    refine .does rfl (Does.sta (by exact sizeOf49) rfl rfl rfl (by rfl)) ?_
    rintro _ _ ⟨rfl, rfl⟩
    refine .p (.a rfl) (.p (.a rfl) (.n (.t (.e (.tr ?_)))))
    rw [show wE xs = ⟨0, 0, 0⟩ from by unfold wE; rw [hw], show wR xs = xs from by unfold wR; rw [hw], hw]
    refine .retCTT rfl rfl isAgg49 (by exact sizeOf49) Cells.a rfl rfl fun w s => ⟨u12, ?_, trivial, finE .auto s⟩
    rfl
  · have hil := idxP_lt (p := inS) xs 0
    obtain ⟨i, x, hid, hx, hw⟩ := within_yes h9 (by omega)
    rw [hid]
    have hib := (List.getElem?_eq_some_iff.1 hx).1
    have hr1 := hr.cut (lo := 0) (hi := i) (Nat.zero_le _) (by omega)
    have hr2 := hr.cut (lo := i + 1) (hi := xs.length) (by omega) (Nat.le_refl _)
    refine .v (.t (.s ?_))
    refine .draw [A] [0, 0, 0, 0, 1, 1, 1, 1, 1, 1, 1, 2, 2, 3, 1, 1] rfl (by kernel_rfl) ?_
    refine .q (.m rfl) (.q (.m rfl) ?_)
    refine .q (.ix i rfl rfl rfl (by omega)) ?_
    refine .q (.la rfl (Cells.rd Rd.s hx)) ?_
    refine .p (.m rfl) (.p (.m rfl) ?_)
    refine .p (.sliceTo i underlying43 sizeOf49 rfl rfl Rd.s rfl (by omega)) ?_
    refine .p (.m rfl) (.p (.m rfl) ?_)
    refine .p (.inc rfl rfl (by omega)) ?_
    refine .p (.sliceFrom (i + 1) underlying43 sizeOf49 rfl rfl Rd.s rfl (by omega)) ?_
    refine .d2 rfl Kept.auto (Does.bsl 43 rfl rfl (by kernel_rfl)) (by rintro _ _ ⟨b24, rfl, rfl⟩; exact Kept.auto) ?_
    rintro _ _ ⟨b24, rfl, rfl⟩
    refine .d2 rfl Kept.auto (Does.callE rfl call53 rfl (ConcatE (A := seps [arr b24 0 [(cut 3 0 i (.slice a1 xs.length c1)), (cut 3 (i + 1) xs.length (.slice a1 xs.length c1))], A]) (qs := [((cut 3 0 i (.slice a1 xs.length c1)), xs.take i), ((cut 3 (i + 1) xs.length (.slice a1 xs.length c1)), xs.drop (i + 1))]) (Rd.grp (Rd.lit .here rfl (fun _ _ => rfl) rfl)) (by
        intro q hq
        simp only [List.mem_cons, List.not_mem_nil, or_false] at hq
        rcases hq with rfl | rfl
        · exact Rd.grp (Rd.at (by rw [List.drop_zero] at hr1; exact hr1) (.there .here))
        · exact Rd.grp (Rd.at (by rw [List.take_length] at hr2; exact hr2) (.there .here))) (by simp) (by simp; omega)) .auto) (by rintro _ _ ⟨u25, -, rfl, rfl⟩; exact kept_ungrp .auto Kept.auto) ?_
    rintro _ _ ⟨u25, -, rfl, rfl⟩
    rw [show [((cut 3 0 i (.slice a1 xs.length c1)), xs.take i), ((cut 3 (i + 1) xs.length (.slice a1 xs.length c1)), xs.drop (i + 1))].flatMap (fun q : Value × List Ev => q.2) = xs.take i ++ xs.drop (i + 1) from by simp]
    refine .ungrp .auto ?_
    refine .d3 rfl (Does.sta (by exact sizeOf49) rfl rfl rfl (by rfl)) ?_
    rintro _ _ ⟨rfl, rfl⟩
    refine .p (.a rfl) (.p (.a rfl) (.n (.t (.e ?_))))
    rw [show wE xs = x from by unfold wE; rw [hw], show wR xs = xs.take i ++ xs.drop (i + 1) from by unfold wR; rw [hw], hw]
    refine .retCTT rfl rfl isAgg49 (by exact sizeOf49) Cells.a rfl rfl fun w s => ⟨u25, ?_, trivial, finE .auto s⟩
    rfl

end Go.SLYtnceicnimongcaaGreat
namespace Go.SLYtnceicnimongcaaGreat
open Go Go.RowKit

theorem eff_one {u : Value} {e : Eff} (h : isSl u = true) : (effE u e).all (·.oneCell') = true := by
  have := isSl_one h
  show (u.oneCell' && (true && (true && (true && true)))) = true
  rw [this]; rfl
theorem did_one {u : Value} {d : Did} (h : isSl u = true) : (didE u d).all (·.oneCell') = true := by
  have := isSl_one h
  show (true && (true && (u.oneCell' && (true && (true && (true && true)))))) = true
  rw [this]; rfl
theorem allH_same {α : Type} {f : α → HProp} : ∀ {xs : List α} {i : Nat} {x y : α}, xs[i]? = some x → f y = f x → allH f (xs.set i y) = allH f xs
  | [], _, _, _, h, _ => by simp at h
  | z :: xs, 0, x, y, h, e => by
    have : z = x := by simpa using h
    subst this
    rw [List.set_cons_zero, allH_cons, allH_cons, e]
  | z :: xs, i + 1, x, y, h, e => by
    rw [List.set_cons_succ, allH_cons, allH_cons, allH_same (i := i) (x := x) (by simpa using h) e]
abbrev vF : Value × Vsl → HProp := fun x => sl evE 3 x.1 x.2.evs
theorem vsls_in {vv : Value} {xs : List (Value × Vsl)} {vs : List Vsl} (h : xs.map (·.2) = vs) : ∀ g, seps [sl vslE 3 vv xs, allH (fun x : Value × Vsl => sl evE 3 x.1 x.2.evs) xs] g → vslsH vv vs g := fun _ a => ⟨xs, h, a⟩
theorem vsls_mode {vv : Value} {xs : List (Value × Vsl)} {vs : List Vsl} {i : Nat} {x : Value × Vsl} {y : Vsl} (h : xs.map (·.2) = vs) (hx : xs[i]? = some x) (he : y.evs = x.2.evs) : ∀ g, seps [sl vslE 3 vv (xs.set i (x.1, y)), allH (fun x : Value × Vsl => sl evE 3 x.1 x.2.evs) xs] g → vslsH vv (vs.set i y) g := fun g a => by
  refine ⟨xs.set i (x.1, y), by show (xs.set i (x.1, y)).map (·.2) = _; rw [List.map_set, h], ?_⟩
  show seps [_, allH (fun x : Value × Vsl => sl evE 3 x.1 x.2.evs) (xs.set i (x.1, y))] g
  rwa [allH_same (f := fun x : Value × Vsl => sl evE 3 x.1 x.2.evs) hx (y := (x.1, y)) (by show sl evE 3 x.1 y.evs = _; rw [he])]
theorem vsls_evs {vv : Value} {xs : List (Value × Vsl)} {vs : List Vsl} {i : Nat} {x : Value × Vsl} {w : Value} {y : Vsl} (h : xs.map (·.2) = vs) (hx : xs[i]? = some x) : ∀ g, seps [sl vslE 3 vv (xs.set i (w, y)), sl evE 3 w y.evs, allH (fun x : Value × Vsl => sl evE 3 x.1 x.2.evs) (xs.eraseIdx i)] g → vslsH vv (vs.set i y) g := fun g a => by
  refine ⟨xs.set i (w, y), by show (xs.set i (w, y)).map (·.2) = _; rw [List.map_set, h], ?_⟩
  simp only [seps, sep_emp] at a ⊢
  refine sep_mono (fun _ b => b) (fun g b => ?_) g a
  rw [allH_set _ _ (List.getElem?_eq_some_iff.1 hx).1]; exact b
theorem rAdds_snoc {rows : List (List Int)} {p : Int} {ts : List Int} {k : Nat} {t : Int} (h : ts[k]? = some t) : rAdds rows p (ts.take (k + 1)) = rAdd (rAdds rows p (ts.take k)) p t := by
  unfold rAdds; rw [take_snoc h, List.foldl_append]; rfl
structure LSz (l : Lib) : Prop where
  sp : SpcOk l.spc
  vl : l.vs.length ≤ 64
  rl : l.rows.length ≤ 64
  wt : l.waiting.length ≤ 1000000
  ev : ∀ v ∈ l.vs, v.evs.length ≤ 1000000
  rw : ∀ r ∈ l.rows, r.length ≤ 1000000
theorem LInv.sz {k : Nat} {l : Lib} (h : LInv k l) (hk : k ≤ 180) : LSz l := by
  have hl : LOk (40 * (k + 1)) l := ⟨h.ev, h.vl, h.sp.lt⟩
  exact ⟨h.sp.spc (by omega), h.vl, h.rl, Nat.le_trans hl.w (by omega), fun v hv => Nat.le_trans (hl.e v hv) (by omega), fun r hr => Nat.le_trans (h.rw r hr) (by omega)⟩
theorem enter_no {l : Lib} {p m : Int} (h : l.locked = true) : l.enter p m = l := if_pos h
theorem enter_yes {l : Lib} {i : Nat} {v : Vsl} {m : Int} (hv : l.vs[i]? = some v) (h : l.locked = false) : l.enter (i : Int) m = { l with locked := true, vs := l.vs.set i { v with mode := m } } := by
  unfold Lib.enter; rw [if_neg (by rw [h]; simp), v_at hv]; unfold Lib.setV; rw [Int.toNat_natCast]
theorem leave_at {l : Lib} {i : Nat} {v : Vsl} {m t : Int} (hv : l.vs[i]? = some v) : l.leave (i : Int) m t = { l with locked := false, vs := l.vs.set i { v with mode := m, thread := t } } := by
  unfold Lib.leave; rw [v_at hv]; unfold Lib.setV; rw [Int.toNat_natCast]
theorem setV_at {l : Lib} {i : Nat} {y : Vsl} : l.setV (i : Int) y = { l with vs := l.vs.set i y } := by unfold Lib.setV; rw [Int.toNat_natCast]
end Go.SLYtnceicnimongcaaGreat
namespace Go.SLYtnceicnimongcaaGreat
open Go Go.RowKit Go.Proofs Go.Proofs.Tryz

theorem lib_add {W : World} {b bs br : Nat} {vv vw : Value} {lk : Bool} {rows : List (List Int)} {p : Int} {A : HProp} {m : Value} {ts : List Int} (hm : Rd W [A] intE 1 m ts) (hl : ts.length ≤ 100000 ∧ rows.length ≤ 64 ∧ ∀ r ∈ rows, r.length ≤ 800000000) : Fn Tryz.prog W 58 [ptr b, .int .i64 p, m] [arr b 0 (libC bs br vv vw lk), rwsH br rows, A] Unit (fun _ => .tuple #[]) (fun _ => True) (fun _ => [arr b 0 (libC bs br vv vw lk), rwsH br (rAdds rows p ts), A]) := by
  refine Fn.intro (N := 22) func58 rfl ntmps58 rfl fun F => ?_
  haveI hRI : ∀ (H : List HProp) [HasH H A], ReadsC W H m intE 1 ts := fun H h => ⟨hm.at h.has⟩
  show GoC _ _ _ _ _ _ [arr b 0 (libC bs br vv vw lk), rwsH br rows, A, F]
  refine .s (.r (.p (.m rfl) (.p (.len rfl) (.p (.m rfl) (.n (.t (.b ?_)))))))
  refine .loopK (X := Nat) [7, 10, 11, 12, 13, 14, 15, 16, 17, 18, 19, 20, 21] (fun z => ts.length - z) (fun z => z ≤ ts.length) (fun z => [(10, some (.int .i64 (z : Int)))]) (fun z => [arr b 0 (libC bs br vv vw lk), rwsH br (rAdds rows p (ts.take z)), A, F]) 0 ?_ ?_ ?_ ?_
  · exact Nat.zero_le _
  · exact ⟨rfl, trivial⟩
  · rw [show rAdds rows p (ts.take 0) = rows from rfl]; exact fun w s => Ent.kept .auto w s
  rintro k hk
  refine .s (.r (.p (.lss rfl rfl) (.n (.t (.s (.condD rfl (fun h11 => ?_) (fun h11 => ?_)))))))
  · refine .v (.t (.s (.b (.s (.r ?_)))))
    obtain ⟨t, hx⟩ := at_some (show k < ts.length by omega)
    have hrl : (rAdds rows p (ts.take k)).length = rows.length := rAdds_len
    have hrr := rAdds_rows (ts := ts.take k) (p := p) hl.2.2
    refine .p (.ix _ rfl rfl rfl (by first | omega | decide)) ?_
    refine .p (.lr rfl hx) ?_
    refine .p (.a rfl) (.n (.t (.r (.p (.m rfl) (.p (.n rfl) (.p (.f rfl) (.p (.l rfl) (.p (.m rfl) (.p (.m rfl) ?_)))))))))
    refine .does rfl (Does.callE rfl call76 rfl (rows_Add (rs := rAdds rows p (ts.take k)) (p := p) (t := t) ⟨by omega, fun r hr => by have := hrr r hr; rw [List.length_take] at this; omega⟩) .auto) ?_
    rintro _ _ ⟨ub, -, rfl, rfl⟩
    refine .n (.b (.t (.r ?_)))
    refine .p (.inc rfl rfl (by omega)) ?_
    refine .p (.m rfl) (.n ?_)
    refine .againK (k + 1) .auto rfl ?_ ?_ ?_ ?_
    · omega
    · show k + 1 ≤ _; omega
    · exact ⟨rfl, trivial⟩
    · rw [rAdds_snoc hx]
      exact fun w s => Ent.kept .auto w s
  · obtain rfl : k = ts.length := by omega
    rw [List.take_length]
    refine .x (.tx (.tx (.bh (.end0 rfl fun w s => ⟨(), ?_, trivial, finE .auto s⟩))))
    rfl

theorem lib_commit {W : World} {b bs br : Nat} {l : Lib} {t c : Int} (hO : SpcOk l.spc) : Fn Tryz.prog W 61 [ptr b, .int .i64 t, .int .i64 c] [libX b bs br l] Value (fun u => .agg (didE u (l.commit t c).1).toArray) (fun _ => True) (fun u => [sl intE 1 u (l.commit t c).1.eff.woken, libX b bs br (l.commit t c).2]) := by
  refine Fn.intro (N := 22) func61 rfl ntmps61 rfl fun F => ?_
  show GoC _ _ _ _ _ _ [libX b bs br l, F]
  refine .o2 (C := libX b bs br l) .auto rfl ?_
  rintro vv vw -
  refine .s (.r ?_)
  refine .does rfl (Does.alloc rfl zeroValue40 rfl) ?_
  rintro _ _ ⟨b6, rfl, rfl⟩
  refine .n (.t (.s (.r (.p (.m rfl) (.p (.n rfl) (.p (.z rfl) (.p (.l rfl) (.p (.m rfl) (.p (.m rfl) ?_)))))))))
  refine .does rfl (Does.callE rfl call82 rfl (core_Run (s := l.spc) hO) .auto) ?_
  rintro _ _ ⟨u16, -, rfl, rfl⟩
  refine .know (fun w s => Rd.isSl (Rd.sl .auto) w s) fun hu16 => ?_
  refine .p (.m rfl) ?_
  refine .p (.extract (v := .agg (effE u16 (l.spc.run t c).1).toArray) rfl rfl) ?_
  refine .p (.extract (v := .int .i64 (l.spc.run t c).2.1) rfl rfl) ?_
  refine .does rfl (Does.alloc rfl zeroValue38 rfl) ?_
  rintro _ _ ⟨b7, rfl, rfl⟩
  refine .does rfl (Does.sta (vs := effE u16 (l.spc.run t c).1) (by exact sizeOf38) rfl rfl (eff_one hu16) (by rfl)) ?_
  rintro _ _ ⟨rfl, rfl⟩
  refine .p (.a rfl) (.n (.t (.s (.r (.p (.m rfl) (.p (.lA rfl) ?_))))))
  refine .p (.bld3 (fun _ _ _ => didE u16 (l.commit t c).1) rfl rfl rfl (by kernel_rfl)) ?_
  refine .does rfl (Does.sta (vs := didE u16 (l.commit t c).1) (by exact sizeOf40) rfl rfl (did_one hu16) (by rfl)) ?_
  rintro _ _ ⟨rfl, rfl⟩
  refine .n (.t (.e ?_))
  refine .retC rfl rfl isAgg40 (by exact sizeOf40) Cells.a fun w s => ⟨u16, ?_, trivial, finE .auto s⟩
  rfl

theorem lib_goes {W : World} {u : Value} {e : Eff} : Fn Tryz.prog W 62 [.agg (effE u e).toArray] [] Unit (fun _ => .bool e.goes) (fun _ => True) (fun _ => []) := by
  refine Fn.intro (N := 11) func62 rfl ntmps62 rfl fun F => ?_
  show GoC _ _ _ _ _ _ [F]
  refine .s (.r ?_)
  refine .does rfl (Does.box rfl rfl rfl) ?_
  rintro _ _ ⟨b1, rfl, rfl⟩
  refine .mem (H' := [arr b1 0 (effE u e), F]) (fun w s => s) ?_
  refine .p (.a rfl) (.n (.t (.s (.r (.p (.f rfl) (.p (.l rfl) (.p (.not rfl) (.p (.m rfl) ?_))))))))
  apply GoL.segA 4 10 6 [6, 7, 8, 9, 10] rfl
  · intro h6
    refine .g (.f rfl) (.g (.l rfl) (.g (.not rfl) (.p (.t rfl rfl) (.n ?_))))
    refine .seg .auto rfl (by first | exact fun _ h => h | exact Ent.kept .auto)
  · intro h6
    refine .u (.u (.u (.p (.u rfl rfl) (.n ?_))))
    refine .seg .auto rfl (by first | exact fun _ h => h | exact Ent.kept .auto)
  refine .p (.a rfl) (.n (.t (.e (.ret1 rfl rfl fun w s => ⟨(), ?_, trivial, finE .auto s⟩))))
  rfl

theorem lib_enter {W : World} {b bs br i : Nat} {l : Lib} {v : Vsl} (hv : l.vs[i]? = some v) {m : Int} : Fn Tryz.prog W 40 [ptr b, .int .i64 (i : Int), .int .i64 m] [libX b bs br l] Unit (fun _ => .tuple #[]) (fun _ => True) (fun _ => [libX b bs br (l.enter (i : Int) m)]) := by
  refine Fn.intro (N := 22) func40 rfl ntmps40 rfl fun F => ?_
  show GoC _ _ _ _ _ _ [libX b bs br l, F]
  refine .o2 (C := libX b bs br l) .auto rfl ?_
  rintro vv vw -
  refine .o1 (C := vslsH vv l.vs) .auto rfl ?_
  rintro xs hxs
  have hxl := map_len hxs
  obtain ⟨x, hx, rfl⟩ := map_back hxs hv
  have hil := (List.getElem?_eq_some_iff.1 hx).1
  refine .s (.r (.p (.m rfl) (.p (.n rfl) (.p (.f rfl) (.p (.l rfl) (.p (.not rfl) (.n (.t (.cond rfl (fun h10 => ?_) (fun h10 => ?_))))))))))
  · rw [enter_yes hv (by simpa using h10)]
    refine .s (.r (.p (.m rfl) (.p (.n rfl) (.p (.f rfl) ?_))))
    refine .does rfl (Does.st sizeOf4 rfl rfl rfl rfl) ?_
    rintro _ _ ⟨rfl, rfl⟩
    rw [show (libC bs br vv vw l.locked).set 4 (.bool true) = libC bs br vv vw true from rfl]
    refine .n (.t (.r (.p (.m rfl) (.p (.n rfl) (.p (.f rfl) (.p (.l rfl) (.p (.m rfl) (.p (.m rfl) ?_))))))))
    refine .p (.ix i rfl rfl rfl (by omega)) ?_
    refine .p (.z rfl) ?_
    refine .does rfl (Does.storeSl0 (x' := (x.1, { x.2 with mode := m })) rfl rfl sizeOf3 rfl hx (by decide) rfl .auto) ?_
    rintro _ _ ⟨rfl, rfl⟩
    refine .to (A := vslsH vv (l.vs.set i { x.2 with mode := m })) (Bs := [sl vslE 3 vv (xs.set i (x.1, { x.2 with mode := m })), allH (fun x : Value × Vsl => sl evE 3 x.1 x.2.evs) xs]) .auto (vsls_mode hxs hx rfl) ?_
    refine .n (.end0 rfl fun w s => ⟨(), ?_, trivial, finE .auto s⟩)
    rfl
  · refine .v ?_
    rw [enter_no (by simpa using h10)]
    refine .to (A := vslsH vv l.vs) (Bs := [sl vslE 3 vv xs, allH (fun x : Value × Vsl => sl evE 3 x.1 x.2.evs) xs]) .auto (vsls_in hxs) ?_
    refine .end0 rfl fun w s => ⟨(), ?_, trivial, finE .auto s⟩
    rfl

theorem lib_leave {W : World} {b bs br i : Nat} {l : Lib} {v : Vsl} (hv : l.vs[i]? = some v) {m t : Int} : Fn Tryz.prog W 56 [ptr b, .int .i64 (i : Int), .int .i64 m, .int .i64 t] [libX b bs br l] Unit (fun _ => .tuple #[]) (fun _ => True) (fun _ => [libX b bs br (l.leave (i : Int) m t)]) := by
  refine Fn.intro (N := 27) func56 rfl ntmps56 rfl fun F => ?_
  show GoC _ _ _ _ _ _ [libX b bs br l, F]
  refine .o2 (C := libX b bs br l) .auto rfl ?_
  rintro vv vw -
  refine .o1 (C := vslsH vv l.vs) .auto rfl ?_
  rintro xs hxs
  have hxl := map_len hxs
  obtain ⟨x, hx, rfl⟩ := map_back hxs hv
  have hil := (List.getElem?_eq_some_iff.1 hx).1
  rw [leave_at hv]
  refine .s (.r (.p (.m rfl) (.p (.n rfl) (.p (.f rfl) ?_))))
  refine .does rfl (Does.st sizeOf4 rfl rfl rfl rfl) ?_
  rintro _ _ ⟨rfl, rfl⟩
  rw [show (libC bs br vv vw l.locked).set 4 (.bool false) = libC bs br vv vw false from rfl]
  refine .n (.t ?_)
  refine .draw [arr b 0 (libC bs br vv vw false)] [1, 1, 1, 1, 1, 1, 1, 1, 1, 0, 1, 0, 1, 1, 2, 1, 1, 3] rfl (by kernel_rfl) ?_
  refine .p (.m rfl) (.p (.n rfl) (.p (.f rfl) (.p (.l rfl) (.p (.m rfl) (.p (.m rfl) ?_)))))
  refine .p (.n rfl) (.p (.f rfl) (.p (.l rfl) (.q (.m rfl) (.p (.m rfl) (.q (.m rfl) ?_)))))
  refine .p (.ix i rfl rfl rfl (by omega)) ?_
  refine .p (.z rfl) ?_
  refine .d2 rfl Kept.auto (Does.storeSl0 (x' := (x.1, { x.2 with mode := m })) rfl rfl sizeOf3 rfl hx (by decide) rfl .auto) (by rintro _ _ ⟨rfl, rfl⟩; exact Kept.auto) ?_
  rintro _ _ ⟨rfl, rfl⟩
  have hx2 : (xs.set i (x.1, { x.2 with mode := m }))[i]? = some (x.1, { x.2 with mode := m }) := List.getElem?_set_self hil
  refine .p (.ix i rfl rfl rfl (by rw [List.length_set]; omega)) ?_
  refine .p (.o rfl) ?_
  refine .d3 rfl (Does.storeSl (c := 1) (x' := (x.1, { x.2 with mode := m, thread := t })) rfl rfl sizeOf3 rfl hx2 (by decide) rfl .auto) ?_
  rintro _ _ ⟨rfl, rfl⟩
  rw [List.set_set]
  refine .to (A := vslsH vv (l.vs.set i { x.2 with mode := m, thread := t })) (Bs := [sl vslE 3 vv (xs.set i (x.1, { x.2 with mode := m, thread := t })), allH (fun x : Value × Vsl => sl evE 3 x.1 x.2.evs) xs]) .auto (vsls_mode hxs hx rfl) ?_
  refine .n (.end0 rfl fun w s => ⟨(), ?_, trivial, finE .auto s⟩)
  rfl

end Go.SLYtnceicnimongcaaGreat
namespace Go.SLYtnceicnimongcaaGreat
open Go Go.RowKit

section
variable {l : Lib} {i : Nat} {v : Vsl}
def Lib.outE (l : Lib) (i : Nat) (v : Vsl) (rest : List Ev) : Lib := { l with locked := false, vs := l.vs.set i { v with evs := rest } }
theorem recover_no (hv : l.vs[i]? = some v) {q : Ev} {rest : List Ev} {c : Int} (h : ¬ q.mode = 7) : l.recover (i : Int) q rest c = (Did.z, l.outE i v rest) := by
  unfold Lib.recover; simp only; rw [if_neg h, v_at hv, setV_at]; rfl
theorem recover_go (hv : l.vs[i]? = some v) {q : Ev} {rest : List Ev} {c : Int} (h : q.mode = 7) (hg : (l.spc.run q.thread c).1.goes = true) :
    l.recover (i : Int) q rest c = (((l.outE i v rest).commit q.thread c).1, (((l.outE i v rest).commit q.thread c).2.adds (i : Int) (l.spc.run q.thread c).1.woken).adds (i : Int) [q.thread]) := by
  unfold Lib.recover; simp only; rw [if_pos h, v_at hv, setV_at]
  show ((_, if (l.spc.run q.thread c).1.goes = true then _ else _) : Did × Lib) = _
  rw [if_pos hg]; rfl
theorem recover_stay (hv : l.vs[i]? = some v) {q : Ev} {rest : List Ev} {c : Int} (h : q.mode = 7) (hg : ¬ (l.spc.run q.thread c).1.goes = true) :
    l.recover (i : Int) q rest c = (((l.outE i v rest).commit q.thread c).1, ((l.outE i v rest).commit q.thread c).2.adds (i : Int) (l.spc.run q.thread c).1.woken) := by
  unfold Lib.recover; simp only; rw [if_pos h, v_at hv, setV_at]
  show ((_, if (l.spc.run q.thread c).1.goes = true then _ else _) : Did × Lib) = _
  rw [if_neg hg]; rfl
theorem upcall_yes (hv : l.vs[i]? = some v) {c : Int} (h : (evWithin v.evs).isSome = true) : l.upcall (i : Int) c = l.recover (i : Int) (wE v.evs) (wR v.evs) c := by
  unfold Lib.upcall; rw [v_at hv]
  unfold wE wR
  cases e : evWithin v.evs with
  | none => rw [e] at h; cases h
  | some x => rfl
theorem upcall_no (hv : l.vs[i]? = some v) {c : Int} (h : (evWithin v.evs).isSome = false) : l.upcall (i : Int) c = (Did.z, l.enter (i : Int) 2) := by
  unfold Lib.upcall; rw [v_at hv]
  cases e : evWithin v.evs with
  | none => rfl
  | some x => rw [e] at h; cases h
theorem handle_nil (hv : l.vs[i]? = some v) (h : v.evs = []) : l.handle (i : Int) = l.leave (i : Int) 3 (-1) := by unfold Lib.handle; rw [v_at hv, h]
theorem handle_go (hv : l.vs[i]? = some v) {e : Ev} {r : List Ev} (h : v.evs = e :: r) (hr : evRuns e = true) : l.handle (i : Int) = { l with rows := rAdds l.rows (i : Int) [e.thread], vs := l.vs.set i { v with evs := r } } := by
  unfold Lib.handle; rw [v_at hv, h]; simp only; rw [if_pos hr, setV_at]; rfl
theorem handle_not (hv : l.vs[i]? = some v) {e : Ev} {r : List Ev} (h : v.evs = e :: r) (hr : ¬ evRuns e = true) : l.handle (i : Int) = { l with vs := l.vs.set i { v with evs := r } } := by
  unfold Lib.handle; rw [v_at hv, h]; simp only; rw [if_neg hr, setV_at]
theorem lpick_yes (h : (rPick l.rows (i : Int)).isSome = true) : l.pick (i : Int) = ({ l with rows := pickR l.rows (i : Int) } : Lib).leave (i : Int) 5 (pickT l.rows (i : Int)) := by
  unfold Lib.pick pickR pickT
  cases e : rPick l.rows (i : Int) with
  | none => rw [e] at h; cases h
  | some x => rfl
theorem lpick_no (h : (rPick l.rows (i : Int)).isSome = false) : l.pick (i : Int) = l.leave (i : Int) 8 (-1) ∧ pickR l.rows (i : Int) = l.rows := by
  unfold Lib.pick pickR
  cases e : rPick l.rows (i : Int) with
  | none => exact ⟨rfl, rfl⟩
  | some x => rw [e] at h; cases h
theorem goOn_class (hv : l.vs[i]? = some v) {c : Int} (h : l.spc.class v.thread = 2) : l.goOn (i : Int) c = (Did.z, { l with vs := l.vs.set i { v with mode := 6 } }) := by
  unfold Lib.goOn; rw [v_at hv]; simp only; rw [if_pos h, setV_at]
theorem goOn_stop (hv : l.vs[i]? = some v) {c : Int} (h : ¬ l.spc.class v.thread = 2) (hs : (l.spc.run v.thread c).1.stopped = true) :
    l.goOn (i : Int) c = ((l.commit v.thread c).1, ({ (l.commit v.thread c).2 with vs := l.vs.set i (Vsl.new [⟨2, v.thread, 0⟩]) } : Lib).tell (unblocked (l.spc.run v.thread c).1.woken)) := by
  unfold Lib.goOn; rw [v_at hv]; simp only; rw [if_neg h]
  show ((_, Lib.tell (if (l.spc.run v.thread c).1.stopped = true then _ else _) _) : Did × Lib) = _
  rw [if_pos hs, setV_at]; rfl
theorem goOn_end (hv : l.vs[i]? = some v) {c : Int} (h : ¬ l.spc.class v.thread = 2) (hs : ¬ (l.spc.run v.thread c).1.stopped = true) (he : (l.spc.run v.thread c).1.ended = true) :
    l.goOn (i : Int) c = ((l.commit v.thread c).1, ({ (l.commit v.thread c).2 with vs := l.vs.set i { v with mode := 3, thread := -1 } } : Lib).tell (unblocked (l.spc.run v.thread c).1.woken)) := by
  have hv2 : (l.commit v.thread c).2.v (i : Int) = v := v_at (l := (l.commit v.thread c).2) hv
  unfold Lib.goOn; rw [v_at hv]; simp only; rw [if_neg h, hv2]
  show ((_, Lib.tell (if (l.spc.run v.thread c).1.stopped = true then _ else if (l.spc.run v.thread c).1.ended = true then _ else _) _) : Did × Lib) = _
  rw [if_neg hs, if_pos he, setV_at]; rfl
theorem goOn_more (hv : l.vs[i]? = some v) {c : Int} (h : ¬ l.spc.class v.thread = 2) (hs : ¬ (l.spc.run v.thread c).1.stopped = true) (he : ¬ (l.spc.run v.thread c).1.ended = true) :
    l.goOn (i : Int) c = ((l.commit v.thread c).1, (l.commit v.thread c).2.tell (unblocked (l.spc.run v.thread c).1.woken)) := by
  unfold Lib.goOn; rw [v_at hv]; simp only; rw [if_neg h]
  show ((_, Lib.tell (if (l.spc.run v.thread c).1.stopped = true then _ else if (l.spc.run v.thread c).1.ended = true then _ else _) _) : Did × Lib) = _
  rw [if_neg hs, if_neg he]; rfl
theorem inside_out (hv : l.vs[i]? = some v) {c : Int} (h : ¬ (l.spc.run v.thread c).1.goes = true) : l.inside (i : Int) c = ((l.commit v.thread c).1, ((l.commit v.thread c).2.adds (i : Int) (l.spc.run v.thread c).1.woken).leave (i : Int) 3 (-1)) := by
  unfold Lib.inside; rw [v_at hv]
  show ((_, if (l.spc.run v.thread c).1.goes = true then _ else _) : Did × Lib) = _
  rw [if_neg h]; rfl
theorem inside_yield (hv : l.vs[i]? = some v) {c : Int} (h : (l.spc.run v.thread c).1.goes = true) (hy : (l.spc.run v.thread c).1.yielded = true) : l.inside (i : Int) c = ((l.commit v.thread c).1, (((l.commit v.thread c).2.adds (i : Int) (l.spc.run v.thread c).1.woken).adds (i : Int) [v.thread]).leave (i : Int) 3 (-1)) := by
  unfold Lib.inside; rw [v_at hv]
  show ((_, if (l.spc.run v.thread c).1.goes = true then (if (l.spc.run v.thread c).1.yielded = true then _ else _) else _) : Did × Lib) = _
  rw [if_pos h, if_pos hy]; rfl
theorem inside_on (hv : l.vs[i]? = some v) {c : Int} (h : (l.spc.run v.thread c).1.goes = true) (hy : ¬ (l.spc.run v.thread c).1.yielded = true) : l.inside (i : Int) c = ((l.commit v.thread c).1, ((l.commit v.thread c).2.adds (i : Int) (l.spc.run v.thread c).1.woken).leave (i : Int) 5 v.thread) := by
  unfold Lib.inside; rw [v_at hv]
  show ((_, if (l.spc.run v.thread c).1.goes = true then (if (l.spc.run v.thread c).1.yielded = true then _ else _) else _) : Did × Lib) = _
  rw [if_pos h, if_neg hy]; rfl
theorem rec_rows {rows : List (List Int)} {p : Int} {ts : List Int} (h : rows.length ≤ 64 ∧ ∀ r ∈ rows, r.length ≤ 1000000) (ht : ts.length ≤ 100000) : (rAdds rows p ts).length ≤ 64 ∧ ∀ r ∈ rAdds rows p ts, r.length ≤ 800000000 :=
  ⟨by rw [rAdds_len]; exact h.1, fun r hr => by have := rAdds_rows h.2 r hr; omega⟩
theorem rows_le {rows : List (List Int)} (h : rows.length ≤ 64 ∧ ∀ r ∈ rows, r.length ≤ 1000000) : rows.length ≤ 64 ∧ ∀ r ∈ rows, r.length ≤ 800000000 := ⟨h.1, fun r hr => Nat.le_trans (h.2 r hr) (by decide)⟩
end
end Go.SLYtnceicnimongcaaGreat
namespace Go.SLYtnceicnimongcaaGreat
open Go Go.RowKit Go.Proofs Go.Proofs.Tryz

theorem lib_recover {W : World} {b bs br i : Nat} {l : Lib} {v : Vsl} (hv : l.vs[i]? = some v) {q : Ev} {m : Value} {rest : List Ev} {c : Int} (hz : LSz l) (hw : (l.spc.run q.thread c).1.woken.length ≤ 17) : Fn Tryz.prog W 55 [ptr b, .int .i64 (i : Int), .agg (evE q).toArray, m, .int .i64 c] [libX b bs br l, sl evE 3 m rest] Value (fun u => .agg (didE u (l.recover (i : Int) q rest c).1).toArray) (fun _ => True) (fun u => [sl intE 1 u (l.recover (i : Int) q rest c).1.eff.woken, libX b bs br (l.recover (i : Int) q rest c).2]) := by
  refine Fn.intro (N := 48) func55 rfl ntmps55 rfl fun F => ?_
  show GoC _ _ _ _ _ _ [libX b bs br l, sl evE 3 m rest, F]
  refine .know (fun w s => Rd.isSl (Rd.sl (.there .here)) w s) fun hum => ?_
  refine .o2 (C := libX b bs br l) .auto rfl ?_
  rintro vv vw -
  refine .o1 (C := vslsH vv l.vs) .auto rfl ?_
  rintro xs hxs
  have hxl := map_len hxs
  obtain ⟨x, hx, rfl⟩ := map_back hxs hv
  have hil := (List.getElem?_eq_some_iff.1 hx).1
  refine .fr .auto (all_out (f := (fun x : Value × Vsl => sl evE 3 x.1 x.2.evs)) hx) ?_
  refine .s (.r ?_)
  refine .does rfl (Does.box rfl rfl rfl) ?_
  rintro _ _ ⟨b7, rfl, rfl⟩
  refine .to (A := arr b7 0 (evE q)) (Bs := [arr b7 0 (evE q)]) .auto (fun g a => by simpa only [seps, sep_emp] using a) ?_
  refine .does rfl (Does.alloc rfl zeroValue40 rfl) ?_
  rintro _ _ ⟨b10, rfl, rfl⟩
  refine .n (.t (.s (.r (.p (.m rfl) (.p (.n rfl) (.p (.f rfl) (.p (.l rfl) (.p (.m rfl) (.p (.m rfl) ?_)))))))))
  refine .p (.ix i rfl rfl rfl (by omega)) ?_
  refine .p (.o rfl) ?_
  refine .does rfl (Does.storeSl (c := 2) (x' := (m, { x.2 with evs := rest })) rfl rfl sizeOf43 (isSl_one hum) hx (by decide) rfl .auto) ?_
  rintro _ _ ⟨rfl, rfl⟩
  refine .to (A := vslsH vv (l.vs.set i { x.2 with evs := rest })) (Bs := [sl vslE 3 vv (xs.set i (m, { x.2 with evs := rest })), sl evE 3 m ({ x.2 with evs := rest }).evs, allH (fun x : Value × Vsl => sl evE 3 x.1 x.2.evs) (xs.eraseIdx i)]) .auto (vsls_evs hxs hx) ?_
  refine .n (.t (.s (.r (.p (.m rfl) (.p (.n rfl) (.p (.f rfl) ?_))))))
  refine .does rfl (Does.st sizeOf4 rfl rfl rfl rfl) ?_
  rintro _ _ ⟨rfl, rfl⟩
  rw [show (libC bs br vv vw l.locked).set 4 (.bool false) = libC bs br vv vw false from rfl]
  refine .n (.t (.s (.s (.r (.p (.f rfl) (.p (.l rfl) (.p (.neq rfl rfl) (.n (.t (.condD rfl (fun h25 => ?_) (fun h25 => ?_)))))))))))
  · refine .s (.r ?_)
    refine .p (.bld0 (didE (.slice none 0 0) Did.z) (by kernel_rfl)) ?_
    refine .does rfl (Does.sta (vs := didE (.slice none 0 0) Did.z) (by exact sizeOf40) rfl rfl (by rfl) (by rfl)) ?_
    rintro _ _ ⟨rfl, rfl⟩
    refine .n (.t (.e (.tr ?_)))
    rw [recover_no hv h25]
    refine .retC rfl rfl isAgg40 (by exact sizeOf40) Cells.a fun w s => ⟨(.slice none 0 0), ?_, trivial, finE .auto s⟩
    rfl
  · have h25 : q.mode = 7 := Decidable.of_not_not h25
    refine .v (.t (.s (.r (.p (.m rfl) (.p (.f rfl) (.p (.l rfl) (.p (.m rfl) ?_)))))))
    refine .does rfl (Does.callE rfl call61 rfl (lib_commit (l := (l.outE i x.2 rest)) (t := q.thread) (c := c) hz.sp) .auto) ?_
    rintro _ _ ⟨u31, -, rfl, rfl⟩
    refine .know (fun w s => Rd.isSl (Rd.sl .auto) w s) fun hu31 => ?_
    refine .does rfl (Does.alloc rfl zeroValue40 rfl) ?_
    rintro _ _ ⟨b11, rfl, rfl⟩
    refine .does rfl (Does.sta (vs := didE u31 ((l.outE i x.2 rest).commit q.thread c).1) (by exact sizeOf40) rfl rfl (did_one hu31) (by rfl)) ?_
    rintro _ _ ⟨rfl, rfl⟩
    refine .n (.t (.s (.r ?_)))
    refine .o2 (C := libX b bs br ((l.outE i x.2 rest).commit q.thread c).2) .auto rfl ?_
    rintro vv vw -
    refine .p (.m rfl) (.p (.m rfl) (.p (.f rfl) (.p (.z rfl) (.p (.l rfl) ?_))))
    refine .does rfl (Does.callE rfl call58 rfl (lib_add (rows := l.rows) (p := (i : Int)) (A := sl intE 1 u31 (l.spc.run q.thread c).1.woken) (ts := (l.spc.run q.thread c).1.woken) (Rd.sl .here) ⟨Nat.le_trans hw (by decide), (rows_le ⟨hz.rl, hz.rw⟩)⟩) .auto) ?_
    rintro _ _ ⟨⟨⟩, -, rfl, rfl⟩
    refine .n (.t (.s (.s (.r (.p (.f rfl) ?_)))))
    refine .p (.la rfl (Cells.part0 (ds := effE u31 ((l.outE i x.2 rest).commit q.thread c).1.eff) Cells.a rfl)) ?_
    refine .does rfl (Does.callE rfl call62 rfl lib_goes .auto) ?_
    rintro _ _ ⟨⟨⟩, -, rfl, rfl⟩
    refine .n (.t (.cond rfl (fun h40 => ?_) (fun h40 => ?_)))
    · refine .r (.p (.m rfl) (.p (.m rfl) (.p (.f rfl) (.p (.l rfl) ?_))))
      refine .does rfl (Does.bsl 3 rfl rfl (by kernel_rfl)) ?_
      rintro _ _ ⟨b45, rfl, rfl⟩
      refine .does rfl (Does.callE rfl call58 rfl (lib_add (rows := (rAdds l.rows (i : Int) (l.spc.run q.thread c).1.woken)) (p := (i : Int)) (A := arr b45 0 [.int .i64 q.thread]) (ts := [q.thread]) (Rd.lit .here rfl (fun _ _ => rfl) rfl) ⟨by show 1 ≤ _; decide, (rec_rows ⟨hz.rl, hz.rw⟩ (Nat.le_trans hw (by decide)))⟩) .auto) ?_
      rintro _ _ ⟨⟨⟩, -, rfl, rfl⟩
      refine .n (.t (.s (.r (.p (.lA rfl) ?_))))
      refine .does rfl (Does.sta (vs := didE u31 ((l.outE i x.2 rest).commit q.thread c).1) (by exact sizeOf40) rfl rfl (did_one hu31) (by rfl)) ?_
      rintro _ _ ⟨rfl, rfl⟩
      refine .n (.t (.e ?_))
      rw [recover_go hv h25 h40]
      refine .retC rfl rfl isAgg40 (by exact sizeOf40) Cells.a fun w s => ⟨u31, ?_, trivial, finE .auto s⟩
      rfl
    · refine .v (.t (.s (.r (.p (.lA rfl) ?_))))
      refine .does rfl (Does.sta (vs := didE u31 ((l.outE i x.2 rest).commit q.thread c).1) (by exact sizeOf40) rfl rfl (did_one hu31) (by rfl)) ?_
      rintro _ _ ⟨rfl, rfl⟩
      refine .n (.t (.e ?_))
      rw [recover_stay hv h25 (by rw [show (l.spc.run q.thread c).1.goes = false from h40]; simp)]
      refine .retC rfl rfl isAgg40 (by exact sizeOf40) Cells.a fun w s => ⟨u31, ?_, trivial, finE .auto s⟩
      rfl

theorem lib_upcall {W : World} {b bs br i : Nat} {l : Lib} {v : Vsl} (hv : l.vs[i]? = some v) {c : Int} (hz : LSz l) (hw : ∀ t, (l.spc.run t c).1.woken.length ≤ 17) : Fn Tryz.prog W 38 [ptr b, .int .i64 (i : Int), .int .i64 c] [libX b bs br l] Value (fun u => .agg (didE u (l.upcall (i : Int) c).1).toArray) (fun _ => True) (fun u => [sl intE 1 u (l.upcall (i : Int) c).1.eff.woken, libX b bs br (l.upcall (i : Int) c).2]) := by
  refine Fn.intro (N := 34) func38 rfl ntmps38 rfl fun F => ?_
  show GoC _ _ _ _ _ _ [libX b bs br l, F]
  refine .o2 (C := libX b bs br l) .auto rfl ?_
  rintro vv vw -
  refine .o1 (C := vslsH vv l.vs) .auto rfl ?_
  rintro xs hxs
  have hxl := map_len hxs
  obtain ⟨x, hx, rfl⟩ := map_back hxs hv
  have hil := (List.getElem?_eq_some_iff.1 hx).1
  refine .fr .auto (all_out (f := (fun x : Value × Vsl => sl evE 3 x.1 x.2.evs)) hx) ?_
  refine .s (.r ?_)
  refine .does rfl (Does.alloc rfl zeroValue40 rfl) ?_
  rintro _ _ ⟨b6, rfl, rfl⟩
  refine .n (.t (.s (.s (.r (.p (.m rfl) (.p (.n rfl) (.p (.f rfl) (.p (.l rfl) (.p (.m rfl) ?_)))))))))
  refine .p (.ix i rfl rfl rfl (by omega)) ?_
  refine .p (.o rfl) ?_
  refine .p (.ld rfl (Cell.rd (c := 2) Rd.s hx rfl)) ?_
  refine .does rfl (Does.callE rfl call54 rfl (event_Within (A := sl evE 3 x.1 x.2.evs) (Rd.sl .here) (Nat.le_trans (hz.ev _ (List.mem_of_getElem? hv)) (by decide))) .auto) ?_
  rintro _ _ ⟨u19, -, rfl, rfl⟩
  refine .to (A := allH (fun x : Value × Vsl => sl evE 3 x.1 x.2.evs) xs) (Bs := [sl evE 3 x.1 x.2.evs, allH (fun x : Value × Vsl => sl evE 3 x.1 x.2.evs) (xs.eraseIdx i)]) .auto (all_back (f := (fun x : Value × Vsl => sl evE 3 x.1 x.2.evs)) hx) ?_
  refine .to (A := vslsH vv l.vs) (Bs := [sl vslE 3 vv xs, allH (fun x : Value × Vsl => sl evE 3 x.1 x.2.evs) xs]) .auto (vsls_in hxs) ?_
  refine .p (.m rfl) ?_
  refine .p (.extract (v := .agg (evE (wE x.2.evs)).toArray) rfl rfl) ?_
  refine .p (.extract (v := u19) rfl rfl) ?_
  refine .p (.extract (v := .bool (evWithin x.2.evs).isSome) rfl rfl) ?_
  refine .does rfl (Does.alloc rfl zeroValue49 rfl) ?_
  rintro _ _ ⟨b7, rfl, rfl⟩
  refine .does rfl (Does.sta (vs := evE (wE x.2.evs)) (by exact sizeOf49) rfl rfl (by rfl) (by rfl)) ?_
  rintro _ _ ⟨rfl, rfl⟩
  refine .p (.a rfl) (.p (.a rfl) (.n (.t (.s (.r (.p (.m rfl) (.n (.t (.cond rfl (fun h23 => ?_) (fun h23 => ?_))))))))))
  · refine .s (.r (.p (.m rfl) (.p (.m rfl) (.p (.lA rfl) (.p (.m rfl) (.p (.m rfl) ?_))))))
    refine .does rfl (Does.callE rfl call55 rfl (lib_recover (q := wE x.2.evs) (rest := wR x.2.evs) hv hz (hw _)) .auto) ?_
    rintro _ _ ⟨u29, -, rfl, rfl⟩
    refine .know (fun w s => Rd.isSl (Rd.sl .auto) w s) fun hu29 => ?_
    refine .does rfl (Does.sta (vs := didE u29 (l.recover (i : Int) (wE x.2.evs) (wR x.2.evs) c).1) (by exact sizeOf40) rfl rfl (did_one hu29) (by rfl)) ?_
    rintro _ _ ⟨rfl, rfl⟩
    refine .n (.t (.e (.tr ?_)))
    rw [upcall_yes hv h23]
    refine .retC rfl rfl isAgg40 (by exact sizeOf40) Cells.a fun w s => ⟨u29, ?_, trivial, finE .auto s⟩
    rfl
  · refine .v (.t (.s (.r (.p (.m rfl) (.p (.m rfl) ?_)))))
    refine .does rfl (Does.callE rfl call40 rfl (lib_enter hv) .auto) ?_
    rintro _ _ ⟨⟨⟩, -, rfl, rfl⟩
    refine .n (.t (.s (.r ?_)))
    refine .p (.bld0 (didE (.slice none 0 0) Did.z) (by kernel_rfl)) ?_
    refine .does rfl (Does.sta (vs := didE (.slice none 0 0) Did.z) (by exact sizeOf40) rfl rfl (by rfl) (by rfl)) ?_
    rintro _ _ ⟨rfl, rfl⟩
    refine .n (.t (.e ?_))
    rw [upcall_no hv h23]
    refine .retC rfl rfl isAgg40 (by exact sizeOf40) Cells.a fun w s => ⟨(.slice none 0 0), ?_, trivial, finE .auto s⟩
    rfl

theorem lib_pick {W : World} {b bs br i : Nat} {l : Lib} {v : Vsl} (hv : l.vs[i]? = some v) (hz : LSz l) : Fn Tryz.prog W 41 [ptr b, .int .i64 (i : Int)] [libX b bs br l] Unit (fun _ => .tuple #[]) (fun _ => True) (fun _ => [libX b bs br (l.pick (i : Int))]) := by
  refine Fn.intro (N := 23) func41 rfl ntmps41 rfl fun F => ?_
  show GoC _ _ _ _ _ _ [libX b bs br l, F]
  refine .o2 (C := libX b bs br l) .auto rfl ?_
  rintro vv vw -
  refine .s (.s (.r (.p (.m rfl) (.p (.n rfl) (.p (.f rfl) (.p (.l rfl) (.p (.m rfl) ?_)))))))
  refine .does rfl (Does.callE rfl call59 rfl (rows_Pick (rs := l.rows) (p := (i : Int)) ⟨hz.rl, fun r hr => Nat.le_trans (hz.rw r hr) (by decide)⟩) .auto) ?_
  rintro _ _ ⟨⟨⟩, -, rfl, rfl⟩
  refine .p (.m rfl) (.p (.extract rfl rfl) (.p (.extract rfl rfl) (.p (.a rfl) (.p (.a rfl) (.n (.t (.s (.r (.p (.m rfl) (.n (.t (.cond rfl (fun h15 => ?_) (fun h15 => ?_)))))))))))))
  · refine .s (.r (.p (.m rfl) (.p (.m rfl) (.p (.m rfl) ?_))))
    refine .does rfl (Does.callE rfl call56 rfl (lib_leave (l := { l with rows := pickR l.rows (i : Int) }) hv) .auto) ?_
    rintro _ _ ⟨⟨⟩, -, rfl, rfl⟩
    refine .n (.t (.e (.tr ?_)))
    rw [lpick_yes h15]
    refine .ret0 rfl fun w s => ⟨(), ?_, trivial, finE .auto s⟩
    rfl
  · have hpn := lpick_no (l := l) (i := i) h15
    rw [hpn.2]
    refine .v (.t (.r (.p (.m rfl) (.p (.m rfl) ?_))))
    refine .does rfl (Does.callE rfl call56 rfl (lib_leave hv) .auto) ?_
    rintro _ _ ⟨⟨⟩, -, rfl, rfl⟩
    refine .n ?_
    rw [hpn.1]
    refine .end0 rfl fun w s => ⟨(), ?_, trivial, finE .auto s⟩
    rfl

theorem lib_handle {W : World} {b bs br i : Nat} {l : Lib} {v : Vsl} (hv : l.vs[i]? = some v) (hz : LSz l) : Fn Tryz.prog W 39 [ptr b, .int .i64 (i : Int)] [libX b bs br l] Unit (fun _ => .tuple #[]) (fun _ => True) (fun _ => [libX b bs br (l.handle (i : Int))]) := by
  refine Fn.intro (N := 47) func39 rfl ntmps39 rfl fun F => ?_
  show GoC _ _ _ _ _ _ [libX b bs br l, F]
  refine .o2 (C := libX b bs br l) .auto rfl ?_
  rintro vv vw -
  refine .o1 (C := vslsH vv l.vs) .auto rfl ?_
  rintro xs hxs
  have hxl := map_len hxs
  obtain ⟨x, hx, rfl⟩ := map_back hxs hv
  have hil := (List.getElem?_eq_some_iff.1 hx).1
  have hev := hz.ev _ (List.mem_of_getElem? hv)
  refine .fr .auto (all_out (f := (fun x : Value × Vsl => sl evE 3 x.1 x.2.evs)) hx) ?_
  refine .s (.r (.p (.m rfl) (.p (.n rfl) (.p (.f rfl) (.p (.l rfl) (.p (.m rfl) ?_))))))
  refine .p (.ix i rfl rfl rfl (by omega)) ?_
  refine .p (.a rfl) (.n (.t (.s (.s (.r (.p (.m rfl) (.p (.n rfl) (.p (.o rfl) ?_))))))))
  refine .p (.ld rfl (Cell.rd (c := 2) Rd.s hx rfl)) ?_
  refine .p (.len rfl) (.p (.eql rfl rfl) (.n (.t (.condD rfl (fun h18 => ?_) (fun h18 => ?_)))))
  · refine .s (.r (.p (.m rfl) (.p (.m rfl) ?_)))
    refine .to (A := allH (fun x : Value × Vsl => sl evE 3 x.1 x.2.evs) xs) (Bs := [sl evE 3 x.1 x.2.evs, allH (fun x : Value × Vsl => sl evE 3 x.1 x.2.evs) (xs.eraseIdx i)]) .auto (all_back (f := (fun x : Value × Vsl => sl evE 3 x.1 x.2.evs)) hx) ?_
    refine .to (A := vslsH vv l.vs) (Bs := [sl vslE 3 vv xs, allH (fun x : Value × Vsl => sl evE 3 x.1 x.2.evs) xs]) .auto (vsls_in hxs) ?_
    refine .does rfl (Does.callE rfl call56 rfl (lib_leave hv) .auto) ?_
    rintro _ _ ⟨⟨⟩, -, rfl, rfl⟩
    refine .n (.t (.e (.tr ?_)))
    rw [handle_nil hv (List.eq_nil_of_length_eq_zero (by omega))]
    refine .ret0 rfl fun w s => ⟨(), ?_, trivial, finE .auto s⟩
    rfl
  · refine .v (.t (.s (.s (.r ?_))))
    obtain ⟨e, r, her⟩ : ∃ e r, x.2.evs = e :: r := by
      cases h : x.2.evs with
      | nil => rw [h] at h18; exact absurd rfl h18
      | cons e r => exact ⟨e, r, rfl⟩
    rw [her]
    have hcl : Rd W [sl evE 3 x.1 (e :: r)] evE 3 (cut 3 1 (e :: r).length x.1) r := by
      have := (Rd.sl (W := W) (H := [sl evE 3 x.1 (e :: r)]) .here).cut (lo := 1) (hi := (e :: r).length) (by simp) (Nat.le_refl _)
      rwa [List.take_length] at this
    refine .p (.m rfl) (.p (.n rfl) (.p (.o rfl) ?_))
    refine .p (.ld rfl (Cell.rd (c := 2) Rd.s hx rfl)) ?_
    refine .p (.ix 0 rfl rfl rfl (by simp)) ?_
    refine .p (.la rfl (Cells.rd Rd.s (show (e :: r)[0]? = some e from rfl))) ?_
    refine .does rfl (Does.callE rfl call57 rfl event_Runs .auto) ?_
    rintro _ _ ⟨⟨⟩, -, rfl, rfl⟩
    refine .p (.m rfl) (.p (.extract rfl rfl) (.p (.extract rfl rfl) (.p (.a rfl) (.p (.a rfl) (.n (.t (.s (.r (.p (.m rfl) (.n (.t (.cond rfl (fun h32 => ?_) (fun h32 => ?_)))))))))))))
    · have het : evT e = e.thread := by unfold evT; rw [if_pos h32]
      rw [het]
      refine .r (.p (.m rfl) (.p (.m rfl) (.p (.m rfl) ?_)))
      refine .does rfl (Does.bsl 3 rfl rfl (by kernel_rfl)) ?_
      rintro _ _ ⟨b36, rfl, rfl⟩
      refine .does rfl (Does.callE rfl call58 rfl (lib_add (rows := l.rows) (p := (i : Int)) (A := arr b36 0 [.int .i64 e.thread]) (ts := [e.thread]) (Rd.lit .here rfl (fun _ _ => rfl) rfl) ⟨by show 1 ≤ _; decide, (rows_le ⟨hz.rl, hz.rw⟩)⟩) .auto) ?_
      rintro _ _ ⟨⟨⟩, -, rfl, rfl⟩
      refine .n (.t (.r (.p (.m rfl) (.p (.m rfl) (.p (.n rfl) (.p (.o rfl) ?_))))))
      refine .p (.ld rfl (Cell.rd (c := 2) Rd.s hx rfl)) ?_
      refine .p (.sliceFrom 1 underlying43 sizeOf49 rfl rfl Rd.s rfl (by simp)) ?_
      refine .does rfl (Does.callE rfl call46 rfl (CloneE (A := sl evE 3 x.1 (e :: r)) (xs := r) hcl (by rw [her] at hev; simp only [List.length_cons] at hev; omega)) .auto) ?_
      rintro _ _ ⟨u44, -, rfl, rfl⟩
      refine .know (fun w s => Rd.isSl (Rd.sl .auto) w s) fun hu44 => ?_
      refine .p (.n rfl) (.p (.o rfl) ?_)
      refine .does rfl (Does.storeSl (c := 2) (x' := (u44, { x.2 with evs := r })) rfl rfl sizeOf43 (isSl_one hu44) hx (by decide) rfl .auto) ?_
      rintro _ _ ⟨rfl, rfl⟩
      refine .to (A := vslsH vv (l.vs.set i { x.2 with evs := r })) (Bs := [sl vslE 3 vv (xs.set i (u44, { x.2 with evs := r })), sl evE 3 u44 ({ x.2 with evs := r }).evs, allH (fun x : Value × Vsl => sl evE 3 x.1 x.2.evs) (xs.eraseIdx i)]) .auto (vsls_evs hxs hx) ?_
      refine .n ?_
      rw [handle_go hv her h32]
      refine .end0 rfl fun w s => ⟨(), ?_, trivial, finE .auto s⟩
      rfl
    · refine .v (.t (.r (.p (.m rfl) (.p (.m rfl) (.p (.n rfl) (.p (.o rfl) ?_))))))
      refine .p (.ld rfl (Cell.rd (c := 2) Rd.s hx rfl)) ?_
      refine .p (.sliceFrom 1 underlying43 sizeOf49 rfl rfl Rd.s rfl (by simp)) ?_
      refine .does rfl (Does.callE rfl call46 rfl (CloneE (A := sl evE 3 x.1 (e :: r)) (xs := r) hcl (by rw [her] at hev; simp only [List.length_cons] at hev; omega)) .auto) ?_
      rintro _ _ ⟨u44, -, rfl, rfl⟩
      refine .know (fun w s => Rd.isSl (Rd.sl .auto) w s) fun hu44 => ?_
      refine .p (.n rfl) (.p (.o rfl) ?_)
      refine .does rfl (Does.storeSl (c := 2) (x' := (u44, { x.2 with evs := r })) rfl rfl sizeOf43 (isSl_one hu44) hx (by decide) rfl .auto) ?_
      rintro _ _ ⟨rfl, rfl⟩
      refine .to (A := vslsH vv (l.vs.set i { x.2 with evs := r })) (Bs := [sl vslE 3 vv (xs.set i (u44, { x.2 with evs := r })), sl evE 3 u44 ({ x.2 with evs := r }).evs, allH (fun x : Value × Vsl => sl evE 3 x.1 x.2.evs) (xs.eraseIdx i)]) .auto (vsls_evs hxs hx) ?_
      refine .n ?_
      rw [handle_not hv her (by rw [h32]; simp)]
      refine .end0 rfl fun w s => ⟨(), ?_, trivial, finE .auto s⟩
      rfl

end Go.SLYtnceicnimongcaaGreat
namespace Go.SLYtnceicnimongcaaGreat
open Go Go.RowKit

section
variable {l : Lib} {i : Nat} {v : Vsl} {c : Int}
theorem lstep_no {p : Int} (h : l.has p = false) : l.step p c = (Did.z, 11, l) := by unfold Lib.step; rw [if_neg (by rw [h]; simp)]
theorem step_m1 (hh : l.has (i : Int) = true) (hv : l.vs[i]? = some v) (hm : v.mode = 1) : l.step (i : Int) c = ((l.upcall (i : Int) c).1, 0, (l.upcall (i : Int) c).2) := by
  unfold Lib.step; rw [if_pos hh, v_at hv]; simp only; rw [if_pos hm]
theorem step_m2 (hh : l.has (i : Int) = true) (hv : l.vs[i]? = some v) (hm : v.mode = 2) : l.step (i : Int) c = (Did.z, 0, l.handle (i : Int)) := by
  unfold Lib.step; rw [if_pos hh, v_at hv]; simp only; rw [if_neg (by omega), if_pos hm]
theorem step_m3 (hh : l.has (i : Int) = true) (hv : l.vs[i]? = some v) (hm : v.mode = 3) : l.step (i : Int) c = (Did.z, 0, l.enter (i : Int) 4) := by
  unfold Lib.step; rw [if_pos hh, v_at hv]; simp only; rw [if_neg (by omega), if_neg (by omega), if_pos hm]
theorem step_m4 (hh : l.has (i : Int) = true) (hv : l.vs[i]? = some v) (hm : v.mode = 4) : l.step (i : Int) c = (Did.z, 0, l.pick (i : Int)) := by
  unfold Lib.step; rw [if_pos hh, v_at hv]; simp only; rw [if_neg (by omega), if_neg (by omega), if_neg (by omega), if_pos hm]
theorem step_m5 (hh : l.has (i : Int) = true) (hv : l.vs[i]? = some v) (hm : v.mode = 5) : l.step (i : Int) c = ((l.goOn (i : Int) c).1, 0, (l.goOn (i : Int) c).2) := by
  unfold Lib.step; rw [if_pos hh, v_at hv]; simp only; rw [if_neg (by omega), if_neg (by omega), if_neg (by omega), if_neg (by omega), if_pos hm]
theorem step_m6 (hh : l.has (i : Int) = true) (hv : l.vs[i]? = some v) (hm : v.mode = 6) : l.step (i : Int) c = (Did.z, 0, l.enter (i : Int) 7) := by
  unfold Lib.step; rw [if_pos hh, v_at hv]; simp only; rw [if_neg (by omega), if_neg (by omega), if_neg (by omega), if_neg (by omega), if_neg (by omega), if_pos hm]
theorem step_m7 (hh : l.has (i : Int) = true) (hv : l.vs[i]? = some v) (hm : v.mode = 7) : l.step (i : Int) c = ((l.inside (i : Int) c).1, 0, (l.inside (i : Int) c).2) := by
  unfold Lib.step; rw [if_pos hh, v_at hv]; simp only; rw [if_neg (by omega), if_neg (by omega), if_neg (by omega), if_neg (by omega), if_neg (by omega), if_neg (by omega), if_pos hm]
theorem step_m8a (hh : l.has (i : Int) = true) (hv : l.vs[i]? = some v) (hm : v.mode = 8) (he : rEmpty l.rows = true) : l.step (i : Int) c = (Did.z, 0, l) := by
  unfold Lib.step; rw [if_pos hh, v_at hv]; simp only; rw [if_neg (by omega), if_neg (by omega), if_neg (by omega), if_neg (by omega), if_neg (by omega), if_neg (by omega), if_neg (by omega), if_pos hm, if_pos he]
theorem step_m8b (hh : l.has (i : Int) = true) (hv : l.vs[i]? = some v) (hm : v.mode = 8) (he : rEmpty l.rows = false) : l.step (i : Int) c = (Did.z, 0, { l with vs := l.vs.set i { v with mode := 3 } }) := by
  unfold Lib.step; rw [if_pos hh, v_at hv]; simp only; rw [if_neg (by omega), if_neg (by omega), if_neg (by omega), if_neg (by omega), if_neg (by omega), if_neg (by omega), if_neg (by omega), if_pos hm, if_neg (by rw [he]; simp), setV_at]
theorem step_m9 (hh : l.has (i : Int) = true) (hv : l.vs[i]? = some v) (hm : ¬ v.mode = 1 ∧ ¬ v.mode = 2 ∧ ¬ v.mode = 3 ∧ ¬ v.mode = 4 ∧ ¬ v.mode = 5 ∧ ¬ v.mode = 6 ∧ ¬ v.mode = 7 ∧ ¬ v.mode = 8) : l.step (i : Int) c = (Did.z, 0, l) := by
  unfold Lib.step; rw [if_pos hh, v_at hv]; simp only; rw [if_neg (by omega), if_neg (by omega), if_neg (by omega), if_neg (by omega), if_neg (by omega), if_neg (by omega), if_neg (by omega), if_neg (by omega)]
theorem preempt_no {p : Int} (h : l.has p = false) : l.preempt p = (false, l) := by unfold Lib.preempt; rw [if_neg (by rw [h]; simp)]
theorem preempt_yes (h : l.has (i : Int) = true) (hv : l.vs[i]? = some v) : l.preempt (i : Int) = (true, { l with vs := l.vs.set i (v.told []) }) := by unfold Lib.preempt; rw [if_pos h, Int.toNat_natCast, getD_of hv]
end
end Go.SLYtnceicnimongcaaGreat
