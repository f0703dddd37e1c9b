/- Walks of functions, and what they compute. Conditions: none, this text proves no statement. -/
import Derived.Test.YtnceicnimongcaaGreatG05
import Derived.Test.YtnceicnimongcaaGreatProg
import Derived.Test.YtnceicnimongcaaGreatG10
import Derived.KernelRfl
import Derived.Test.YtnceicnimongcaaGreatG03
set_option maxRecDepth 20000
namespace Go.SLYtnceicnimongcaaGreat
open Go Go.RowKit Go.Proofs Go.Proofs.Tryz

theorem lib_run {W : World} {b bs br i : Nat} {l : Lib} {v : Vsl} (hv : l.vs[i]? = some v) {c : Int} (hz : LSz l) (hw : ∀ t, (l.spc.run t c).1.woken.length ≤ 17) : Fn Tryz.prog W 42 [ptr b, .int .i64 (i : Int), .int .i64 c] [libX b bs br l] Value (fun u => .agg (didE u (l.goOn (i : Int) c).1).toArray) (fun _ => True) (fun u => [sl intE 1 u (l.goOn (i : Int) c).1.eff.woken, libX b bs br (l.goOn (i : Int) c).2]) := by
  refine Fn.intro (N := 77) func42 rfl ntmps42 rfl fun F => ?_
  show GoC _ _ _ _ _ _ [libX b bs br l, F]
  refine .o2 (C := libX b bs br l) .auto rfl ?_
  rintro vv vw -
  refine .o1 (C := vslsH vv l.vs) .auto rfl ?_
  rintro xs hxs
  have hxl := map_len hxs
  obtain ⟨x, hx, hxv⟩ := map_back hxs hv
  have hil := (List.getElem?_eq_some_iff.1 hx).1
  subst hxv
  refine .s (.r ?_)
  refine .does rfl (Does.alloc rfl zeroValue40 rfl) ?_
  rintro _ _ ⟨b6, rfl, rfl⟩
  refine .n (.t (.s (.r (.p (.m rfl) (.p (.n rfl) (.p (.f rfl) (.p (.l rfl) (.p (.m rfl) ?_))))))))
  refine .p (.ix i rfl rfl rfl (by omega)) ?_
  refine .p (.o rfl) ?_
  refine .p (.ld rfl (Cell.rd (c := 1) Rd.s hx rfl)) ?_
  refine .p (.a rfl) (.n (.t (.s (.r (.p (.m rfl) (.p (.n rfl) (.p (.z rfl) (.p (.l rfl) (.p (.m rfl) ?_)))))))))
  refine .does rfl (Does.callE rfl call60 rfl (core_Class (s := l.spc) (n := x.2.thread) hz.sp) .auto) ?_
  rintro _ _ ⟨⟨⟩, -, rfl, rfl⟩
  refine .p (.a rfl) (.n (.t (.s (.s (.r (.p (.m rfl) (.p (.eql rfl rfl) (.n (.t (.condD rfl (fun h25 => ?_) (fun h25 => ?_)))))))))))
  · refine .s (.r (.p (.m rfl) (.p (.n rfl) (.p (.f rfl) (.p (.l rfl) (.p (.m rfl) ?_))))))
    refine .p (.ix i rfl rfl rfl (by omega)) ?_
    refine .p (.z rfl) ?_
    refine .does rfl (Does.storeSl0 (x' := (x.1, { x.2 with mode := 6 })) rfl rfl sizeOf3 rfl hx (by decide) rfl .auto) ?_
    rintro _ _ ⟨rfl, rfl⟩
    refine .to (A := vslsH vv (l.vs.set i { x.2 with mode := 6 })) (Bs := [sl vslE 3 vv (xs.set i (x.1, { x.2 with mode := 6 })), allH (fun x : Value × Vsl => sl evE 3 x.1 x.2.evs) xs]) .auto (vsls_mode hxs hx rfl) ?_
    refine .n (.t (.s (.r ?_)))
    refine .p (.bld0 (didE (.slice none 0 0) Did.z) (by kernel_rfl)) ?_
    refine .does rfl (Does.sta (vs := didE (.slice none 0 0) Did.z) (by exact sizeOf40) rfl rfl (by rfl) (by rfl)) ?_
    rintro _ _ ⟨rfl, rfl⟩
    refine .n (.t (.e (.tr ?_)))
    rw [goOn_class hv h25]
    refine .retC rfl rfl isAgg40 (by exact sizeOf40) Cells.a fun w s => ⟨(.slice none 0 0), ?_, trivial, finE .auto s⟩
    rfl
  · refine .v (.t (.s (.r (.p (.m rfl) (.p (.m rfl) (.p (.m rfl) ?_))))))
    refine .to (A := vslsH vv l.vs) (Bs := [sl vslE 3 vv xs, allH (fun x : Value × Vsl => sl evE 3 x.1 x.2.evs) xs]) .auto (vsls_in hxs) ?_
    refine .does rfl (Does.callE rfl call61 rfl (lib_commit (l := l) (t := x.2.thread) (c := c) hz.sp) .auto) ?_
    rintro _ _ ⟨u37, -, rfl, rfl⟩
    refine .know (fun w s => Rd.isSl (Rd.sl .auto) w s) fun hu37 => ?_
    obtain ⟨v, hvd⟩ : ∃ v, v = x.2 := ⟨_, rfl⟩
    rw [← hvd] at hv h25 ⊢
    refine .does rfl (Does.alloc rfl zeroValue40 rfl) ?_
    rintro _ _ ⟨b9, rfl, rfl⟩
    refine .does rfl (Does.sta (vs := didE u37 (l.commit v.thread c).1) (by exact sizeOf40) rfl rfl (did_one hu37) (by rfl)) ?_
    rintro _ _ ⟨rfl, rfl⟩
    refine .n (.t (.s (.b (.s (.r (.p (.f rfl) (.p (.o rfl) (.p (.l rfl) (.p (.a rfl) (.n (.t (.cond rfl (fun h38 => ?_) (fun h38 => ?_)))))))))))))
    · refine .o2 (C := libX b bs br (l.commit v.thread c).2) .auto rfl ?_
      rintro vv vw -
      refine .o1 (C := vslsH vv l.vs) .auto rfl ?_
      rintro xs hxs
      have hxl := map_len hxs
      obtain ⟨x, hx, hxv⟩ := map_back hxs hv
      have hil := (List.getElem?_eq_some_iff.1 hx).1
      subst hxv
      refine .fr .auto (all_out (f := (fun x : Value × Vsl => sl evE 3 x.1 x.2.evs)) hx) ?_
      refine .draw [arr b 0 (libC bs br vv vw l.locked)] [0, 0, 0, 0, 0, 1, 1, 2, 2, 1, 3] rfl (by kernel_rfl) ?_
      refine .q (.m rfl) (.q (.n rfl) (.q (.f rfl) (.q (.l rfl) (.q (.m rfl) (.p (.m rfl) ?_)))))
      refine .p (.bld2 (fun v1 v2 => [v1, v2, (.int .i64 0)]) rfl rfl (by kernel_rfl)) ?_
      refine .d2 rfl Kept.auto (Does.bsl 49 rfl rfl (by kernel_rfl)) (by rintro _ _ ⟨b49, rfl, rfl⟩; exact Kept.auto) ?_
      rintro _ _ ⟨b49, rfl, rfl⟩
      refine .d2 rfl Kept.auto (Does.callE rfl call35 rfl (vessel_New (A := arr b49 0 [.int .i64 2, .int .i64 x.2.thread, .int .i64 0]) (xs := [⟨2, x.2.thread, 0⟩]) (Rd.lit .here rfl (fun _ _ => rfl) rfl) (by show 1 ≤ _; decide)) .auto) (by rintro _ _ ⟨u50, -, rfl, rfl⟩; exact Kept.auto) ?_
      rintro _ _ ⟨u50, -, rfl, rfl⟩
      refine .know (fun w s => Rd.isSl (Rd.sl .auto) w s) fun hu50 => ?_
      refine .p (.ix i rfl rfl rfl (by omega)) ?_
      refine .d3 rfl (Does.storeSlA (x' := (u50, (Vsl.new [⟨2, x.2.thread, 0⟩]))) rfl rfl sizeOf45 (vsl_one hu50) hx rfl rfl .auto) ?_
      rintro _ _ ⟨rfl, rfl⟩
      refine .n (.b (.t (.s (.r (.p (.m rfl) (.p (.f rfl) (.p (.z rfl) (.p (.l rfl) ?_))))))))
      refine .to (A := vslsH vv (l.vs.set i (Vsl.new [⟨2, x.2.thread, 0⟩]))) (Bs := [sl vslE 3 vv (xs.set i (u50, (Vsl.new [⟨2, x.2.thread, 0⟩]))), sl evE 3 u50 ((Vsl.new [⟨2, x.2.thread, 0⟩])).evs, allH (fun x : Value × Vsl => sl evE 3 x.1 x.2.evs) (xs.eraseIdx i)]) .auto (vsls_evs hxs hx) ?_
      refine .does rfl (Does.callE rfl call31 rfl (lib_unblocked (A := sl intE 1 u37 (l.spc.run x.2.thread c).1.woken) (Rd.sl .here) (Nat.le_trans (hw _) (by decide))) .auto) ?_
      rintro _ _ ⟨u74, -, rfl, rfl⟩
      refine .does rfl (Does.callE rfl call14 rfl (lib_Tell (l := { l with spc := (l.spc.run x.2.thread c).2.2, vs := l.vs.set i (Vsl.new [⟨2, x.2.thread, 0⟩]) }) (A := sl evE 3 u74 (unblocked (l.spc.run x.2.thread c).1.woken)) (Rd.sl .here) ⟨by unfold unblocked; rw [List.length_map]; exact Nat.le_trans (hw _) (by decide), Nat.le_trans hz.wt (by decide), by show (l.vs.set i _).length ≤ _; rw [List.length_set]; exact Nat.le_trans hz.vl (by decide), fun z hzm => by
          rcases List.mem_or_eq_of_mem_set hzm with h | rfl
          · exact Nat.le_trans (hz.ev z h) (by decide)
          · show 1 ≤ _; decide⟩) .auto) ?_
      rintro _ _ ⟨⟨⟩, -, rfl, rfl⟩
      refine .n (.t (.s (.r (.p (.lA rfl) ?_))))
      refine .does rfl (Does.sta (vs := didE u37 (l.commit x.2.thread c).1) (by exact sizeOf40) rfl rfl (did_one hu37) (by rfl)) ?_
      rintro _ _ ⟨rfl, rfl⟩
      refine .n (.t (.e ?_))
      rw [goOn_stop hv h25 h38]
      refine .retC rfl rfl isAgg40 (by exact sizeOf40) Cells.a fun w s => ⟨u37, ?_, trivial, finE .auto s⟩
      rfl
    · refine .s (.r (.p (.f rfl) (.p (.o rfl) (.p (.l rfl) (.p (.a rfl) (.n (.t (.cond rfl (fun h52 => ?_) (fun h52 => ?_)))))))))
      · refine .o2 (C := libX b bs br (l.commit v.thread c).2) .auto rfl ?_
        rintro vv vw -
        refine .o1 (C := vslsH vv l.vs) .auto rfl ?_
        rintro xs hxs
        have hxl := map_len hxs
        obtain ⟨x, hx, hxv⟩ := map_back hxs hv
        have hil := (List.getElem?_eq_some_iff.1 hx).1
        subst hxv
        refine .draw [arr b 0 (libC bs br vv vw l.locked)] [1, 1, 1, 1, 1, 1, 1, 1, 1, 0, 1, 1, 2, 1, 1, 3] rfl (by kernel_rfl) ?_
        refine .p (.m rfl) (.p (.n rfl) (.p (.f rfl) (.p (.l rfl) (.p (.m rfl) (.p (.m rfl) ?_)))))
        refine .p (.n rfl) (.p (.f rfl) (.p (.l rfl) (.q (.m rfl) ?_)))
        refine .p (.ix i rfl rfl rfl (by omega)) ?_
        refine .p (.z rfl) ?_
        refine .d2 rfl Kept.auto (Does.storeSl0 (x' := (x.1, { x.2 with mode := 3 })) rfl rfl sizeOf3 rfl hx (by decide) rfl .auto) (by rintro _ _ ⟨rfl, rfl⟩; exact Kept.auto) ?_
        rintro _ _ ⟨rfl, rfl⟩
        have hx2 : (xs.set i (x.1, { x.2 with mode := 3 }))[i]? = some (x.1, { x.2 with mode := 3 }) := List.getElem?_set_self hil
        refine .p (.ix i rfl rfl rfl (by rw [List.length_set]; omega)) ?_
        refine .p (.o rfl) ?_
        refine .d3 rfl (Does.storeSl (c := 1) (x' := (x.1, { x.2 with mode := 3, thread := -1 })) rfl rfl sizeOf3 rfl hx2 (by decide) rfl .auto) ?_
        rintro _ _ ⟨rfl, rfl⟩
        rw [List.set_set]
        refine .to (A := vslsH vv (l.vs.set i { x.2 with mode := 3, thread := -1 })) (Bs := [sl vslE 3 vv (xs.set i (x.1, { x.2 with mode := 3, thread := -1 })), allH (fun x : Value × Vsl => sl evE 3 x.1 x.2.evs) xs]) .auto (vsls_mode hxs hx rfl) ?_
        refine .n (.b (.t (.s (.r (.p (.m rfl) (.p (.f rfl) (.p (.z rfl) (.p (.l rfl) ?_))))))))
        refine .does rfl (Does.callE rfl call31 rfl (lib_unblocked (A := sl intE 1 u37 (l.spc.run x.2.thread c).1.woken) (Rd.sl .here) (Nat.le_trans (hw _) (by decide))) .auto) ?_
        rintro _ _ ⟨u74, -, rfl, rfl⟩
        refine .does rfl (Does.callE rfl call14 rfl (lib_Tell (l := { l with spc := (l.spc.run x.2.thread c).2.2, vs := l.vs.set i ({ x.2 with mode := 3, thread := -1 } : Vsl) }) (A := sl evE 3 u74 (unblocked (l.spc.run x.2.thread c).1.woken)) (Rd.sl .here) ⟨by unfold unblocked; rw [List.length_map]; exact Nat.le_trans (hw _) (by decide), Nat.le_trans hz.wt (by decide), by show (l.vs.set i _).length ≤ _; rw [List.length_set]; exact Nat.le_trans hz.vl (by decide), fun z hzm => by
            rcases List.mem_or_eq_of_mem_set hzm with h | rfl
            · exact Nat.le_trans (hz.ev z h) (by decide)
            · exact Nat.le_trans (show x.2.evs.length ≤ 1000000 from hz.ev _ (List.mem_of_getElem? hv)) (by decide)⟩) .auto) ?_
        rintro _ _ ⟨⟨⟩, -, rfl, rfl⟩
        refine .n (.t (.s (.r (.p (.lA rfl) ?_))))
        refine .does rfl (Does.sta (vs := didE u37 (l.commit x.2.thread c).1) (by exact sizeOf40) rfl rfl (did_one hu37) (by rfl)) ?_
        rintro _ _ ⟨rfl, rfl⟩
        refine .n (.t (.e ?_))
        rw [goOn_end hv h25 (by rw [show (l.spc.run x.2.thread c).1.stopped = false from h38]; simp) h52]
        refine .retC rfl rfl isAgg40 (by exact sizeOf40) Cells.a fun w s => ⟨u37, ?_, trivial, finE .auto s⟩
        rfl
      · refine .v (.b (.t (.s (.r (.p (.m rfl) (.p (.f rfl) (.p (.z rfl) (.p (.l rfl) ?_))))))))
        refine .does rfl (Does.callE rfl call31 rfl (lib_unblocked (A := sl intE 1 u37 (l.spc.run v.thread c).1.woken) (Rd.sl .here) (Nat.le_trans (hw _) (by decide))) .auto) ?_
        rintro _ _ ⟨u74, -, rfl, rfl⟩
        refine .does rfl (Does.callE rfl call14 rfl (lib_Tell (l := (l.commit v.thread c).2) (A := sl evE 3 u74 (unblocked (l.spc.run v.thread c).1.woken)) (Rd.sl .here) ⟨by unfold unblocked; rw [List.length_map]; exact Nat.le_trans (hw _) (by decide), Nat.le_trans hz.wt (by decide), Nat.le_trans hz.vl (by decide), fun z hzm => Nat.le_trans (hz.ev z hzm) (by decide)⟩) .auto) ?_
        rintro _ _ ⟨⟨⟩, -, rfl, rfl⟩
        refine .n (.t (.s (.r (.p (.lA rfl) ?_))))
        refine .does rfl (Does.sta (vs := didE u37 (l.commit v.thread c).1) (by exact sizeOf40) rfl rfl (did_one hu37) (by rfl)) ?_
        rintro _ _ ⟨rfl, rfl⟩
        refine .n (.t (.e ?_))
        rw [goOn_more hv h25 (by rw [show (l.spc.run v.thread c).1.stopped = false from h38]; simp) (by rw [show (l.spc.run v.thread c).1.ended = false from h52]; simp)]
        refine .retC rfl rfl isAgg40 (by exact sizeOf40) Cells.a fun w s => ⟨u37, ?_, trivial, finE .auto s⟩
        rfl

theorem lib_inside {W : World} {b bs br i : Nat} {l : Lib} {v : Vsl} (hv : l.vs[i]? = some v) {c : Int} (hz : LSz l) (hw : ∀ t, (l.spc.run t c).1.woken.length ≤ 17) : Fn Tryz.prog W 43 [ptr b, .int .i64 (i : Int), .int .i64 c] [libX b bs br l] Value (fun u => .agg (didE u (l.inside (i : Int) c).1).toArray) (fun _ => True) (fun u => [sl intE 1 u (l.inside (i : Int) c).1.eff.woken, libX b bs br (l.inside (i : Int) c).2]) := by
  refine Fn.intro (N := 52) func43 rfl ntmps43 rfl fun F => ?_
  show GoC _ _ _ _ _ _ [libX b bs br l, F]
  refine .o2 (C := libX b bs br l) .auto rfl ?_
  rintro vv vw -
  refine .o1 (C := vslsH vv l.vs) .auto rfl ?_
  rintro xs hxs
  have hxl := map_len hxs
  obtain ⟨x, hx, rfl⟩ := map_back hxs hv
  have hil := (List.getElem?_eq_some_iff.1 hx).1
  refine .s (.r ?_)
  refine .does rfl (Does.alloc rfl zeroValue40 rfl) ?_
  rintro _ _ ⟨b6, rfl, rfl⟩
  refine .n (.t (.s (.r (.p (.m rfl) (.p (.n rfl) (.p (.f rfl) (.p (.l rfl) (.p (.m rfl) ?_))))))))
  refine .p (.ix i rfl rfl rfl (by omega)) ?_
  refine .p (.o rfl) ?_
  refine .p (.ld rfl (Cell.rd (c := 1) Rd.s hx rfl)) ?_
  refine .p (.a rfl) (.n (.t (.s (.r ?_))))
  refine .to (A := vslsH vv l.vs) (Bs := [sl vslE 3 vv xs, allH (fun x : Value × Vsl => sl evE 3 x.1 x.2.evs) xs]) .auto (vsls_in hxs) ?_
  refine .p (.m rfl) (.p (.m rfl) (.p (.m rfl) ?_))
  refine .does rfl (Does.callE rfl call61 rfl (lib_commit (l := l) (t := x.2.thread) (c := c) hz.sp) .auto) ?_
  rintro _ _ ⟨u20, -, rfl, rfl⟩
  refine .know (fun w s => Rd.isSl (Rd.sl .auto) w s) fun hu20 => ?_
  refine .does rfl (Does.alloc rfl zeroValue40 rfl) ?_
  rintro _ _ ⟨b8, rfl, rfl⟩
  refine .does rfl (Does.sta (vs := didE u20 (l.commit x.2.thread c).1) (by exact sizeOf40) rfl rfl (did_one hu20) (by rfl)) ?_
  rintro _ _ ⟨rfl, rfl⟩
  refine .n (.t (.s (.r ?_)))
  refine .o2 (C := libX b bs br (l.commit x.2.thread c).2) .auto rfl ?_
  rintro vv2 vw2 -
  refine .p (.m rfl) (.p (.m rfl) (.p (.f rfl) (.p (.z rfl) (.p (.l rfl) ?_))))
  refine .does rfl (Does.callE rfl call58 rfl (lib_add (rows := l.rows) (p := (i : Int)) (A := sl intE 1 u20 (l.spc.run x.2.thread c).1.woken) (ts := (l.spc.run x.2.thread c).1.woken) (Rd.sl .here) ⟨Nat.le_trans (hw _) (by decide), (rows_le ⟨hz.rl, hz.rw⟩)⟩) .auto) ?_
  rintro _ _ ⟨⟨⟩, -, rfl, rfl⟩
  refine .n (.t (.s (.b (.s (.r (.p (.f rfl) ?_))))))
  refine .p (.la rfl (Cells.part0 (ds := effE u20 (l.commit x.2.thread c).1.eff) Cells.a rfl)) ?_
  refine .does rfl (Does.callE rfl call62 rfl lib_goes .auto) ?_
  rintro _ _ ⟨⟨⟩, -, rfl, rfl⟩
  refine .p (.not rfl) (.p (.a rfl) (.n (.t (.cond rfl (fun h31 => ?_) (fun h31 => ?_)))))
  · refine .r (.p (.m rfl) (.p (.m rfl) ?_))
    refine .does rfl (Does.callE rfl call56 rfl (lib_leave (l := { l with spc := (l.spc.run x.2.thread c).2.2, rows := (rAdds l.rows (i : Int) (l.spc.run x.2.thread c).1.woken) }) hv) .auto) ?_
    rintro _ _ ⟨⟨⟩, -, rfl, rfl⟩
    refine .n (.b (.t (.s (.r (.p (.lA rfl) ?_)))))
    refine .does rfl (Does.sta (vs := didE u20 (l.commit x.2.thread c).1) (by exact sizeOf40) rfl rfl (did_one hu20) (by rfl)) ?_
    rintro _ _ ⟨rfl, rfl⟩
    refine .n (.t (.e ?_))
    rw [inside_out hv (by rw [show (l.spc.run x.2.thread c).1.goes = false from by have h := h31; simp only [Bool.not_eq_true'] at h; exact h]; simp)]
    refine .retC rfl rfl isAgg40 (by exact sizeOf40) Cells.a fun w s => ⟨u20, ?_, trivial, finE .auto s⟩
    rfl
  · have hg : (l.spc.run x.2.thread c).1.goes = true := by have h := h31; simp only [Bool.not_eq_false'] at h; exact h
    refine .s (.r (.p (.f rfl) (.p (.o rfl) (.p (.l rfl) (.p (.a rfl) (.n (.t (.cond rfl (fun h39 => ?_) (fun h39 => ?_)))))))))
    · refine .s (.r (.p (.m rfl) (.p (.m rfl) (.p (.m rfl) ?_))))
      refine .does rfl (Does.bsl 3 rfl rfl (by kernel_rfl)) ?_
      rintro _ _ ⟨b46, rfl, rfl⟩
      refine .does rfl (Does.callE rfl call58 rfl (lib_add (rows := (rAdds l.rows (i : Int) (l.spc.run x.2.thread c).1.woken)) (p := (i : Int)) (A := arr b46 0 [.int .i64 x.2.thread]) (ts := [x.2.thread]) (Rd.lit .here rfl (fun _ _ => rfl) rfl) ⟨by show 1 ≤ _; decide, (rec_rows ⟨hz.rl, hz.rw⟩ (Nat.le_trans (hw _) (by decide)))⟩) .auto) ?_
      rintro _ _ ⟨⟨⟩, -, rfl, rfl⟩
      refine .n (.t (.r (.p (.m rfl) (.p (.m rfl) ?_))))
      refine .does rfl (Does.callE rfl call56 rfl (lib_leave (l := { l with spc := (l.spc.run x.2.thread c).2.2, rows := (rAdds (rAdds l.rows (i : Int) (l.spc.run x.2.thread c).1.woken) (i : Int) [x.2.thread]) }) hv) .auto) ?_
      rintro _ _ ⟨⟨⟩, -, rfl, rfl⟩
      refine .n (.b (.t (.s (.r (.p (.lA rfl) ?_)))))
      refine .does rfl (Does.sta (vs := didE u20 (l.commit x.2.thread c).1) (by exact sizeOf40) rfl rfl (did_one hu20) (by rfl)) ?_
      rintro _ _ ⟨rfl, rfl⟩
      refine .n (.t (.e ?_))
      rw [inside_yield hv hg h39]
      refine .retC rfl rfl isAgg40 (by exact sizeOf40) Cells.a fun w s => ⟨u20, ?_, trivial, finE .auto s⟩
      rfl
    · refine .r (.p (.m rfl) (.p (.m rfl) (.p (.m rfl) ?_)))
      refine .does rfl (Does.callE rfl call56 rfl (lib_leave (l := { l with spc := (l.spc.run x.2.thread c).2.2, rows := (rAdds l.rows (i : Int) (l.spc.run x.2.thread c).1.woken) }) hv) .auto) ?_
      rintro _ _ ⟨⟨⟩, -, rfl, rfl⟩
      refine .n (.b (.t (.s (.r (.p (.lA rfl) ?_)))))
      refine .does rfl (Does.sta (vs := didE u20 (l.commit x.2.thread c).1) (by exact sizeOf40) rfl rfl (did_one hu20) (by rfl)) ?_
      rintro _ _ ⟨rfl, rfl⟩
      refine .n (.t (.e ?_))
      rw [inside_on hv hg (by rw [show (l.spc.run x.2.thread c).1.yielded = false from h39]; simp)]
      refine .retC rfl rfl isAgg40 (by exact sizeOf40) Cells.a fun w s => ⟨u20, ?_, trivial, finE .auto s⟩
      rfl

theorem lib_Step {W : World} {b bs br : Nat} {l : Lib} {p c : Int} (hz : LSz l) (hw : ∀ t, (l.spc.run t c).1.woken.length ≤ 17) : Fn Tryz.prog W 10 [ptr b, .int .i64 p, .int .i64 c] [libX b bs br l] Value (fun u => .tuple #[.agg (didE u (l.step p c).1).toArray, .int .i64 (l.step p c).2.1]) (fun _ => True) (fun u => [sl intE 1 u (l.step p c).1.eff.woken, libX b bs br (l.step p c).2.2]) := by
  refine Fn.intro (N := 76) func10 rfl ntmps10 rfl fun F => ?_
  show GoC _ _ _ _ _ _ [libX b bs br l, F]
  refine .s (.r ?_)
  refine .does rfl (Does.alloc rfl zeroValue40 rfl) ?_
  rintro _ _ ⟨b6, rfl, rfl⟩
  refine .p (.a rfl) (.n (.t (.s (.s (.r (.p (.m rfl) (.p (.m rfl) ?_)))))))
  refine .does rfl (Does.callE rfl call34 rfl lib_hasW .auto) ?_
  rintro _ _ ⟨⟨⟩, -, rfl, rfl⟩
  refine .p (.not rfl) (.n (.t (.cond rfl (fun h12 => ?_) (fun h12 => ?_))))
  · refine .s (.r ?_)
    refine .p (.bld0 (didE (.slice none 0 0) Did.z) (by kernel_rfl)) ?_
    refine .does rfl (Does.sta (vs := didE (.slice none 0 0) Did.z) (by exact sizeOf40) rfl rfl (by rfl) (by rfl)) ?_
    rintro _ _ ⟨rfl, rfl⟩
    refine .p (.a rfl) (.n (.t (.e (.tr ?_))))
    rw [lstep_no (by simpa using h12)]
    refine .retCT rfl rfl isAgg40 (by exact sizeOf40) Cells.a rfl fun w s => ⟨(.slice none 0 0), ?_, trivial, finE .auto s⟩
    rfl
  · have h12 : l.has p = true := by simpa using h12
    refine .v (.t (.s (.r ?_)))
    refine .does rfl (Does.alloc rfl zeroValue40 rfl) ?_
    rintro _ _ ⟨b8, rfl, rfl⟩
    refine .n (.t (.s (.s (.r ?_))))
    obtain ⟨i, v, rfl, hv, hm0⟩ := has_at h12
    refine .o2 (C := libX b bs br l) .auto rfl ?_
    rintro vv vw -
    refine .o1 (C := vslsH vv l.vs) .auto rfl ?_
    rintro xs hxs
    have hxl := map_len hxs
    obtain ⟨x, hx, rfl⟩ := map_back hxs hv
    have hil := (List.getElem?_eq_some_iff.1 hx).1
    refine .p (.m rfl) (.p (.n rfl) (.p (.f rfl) (.p (.l rfl) (.p (.m rfl) ?_))))
    refine .p (.ix i rfl rfl rfl (by omega)) ?_
    refine .p (.z rfl) ?_
    refine .p (.lr rfl hx) ?_
    refine .n (.t (.b (.s (.r (.p (.eql rfl rfl) (.p (.a rfl) (.n (.t (.condD rfl (fun h23 => ?_) (fun h23 => ?_))))))))))
    · refine .r ?_
      refine .to (A := vslsH vv l.vs) (Bs := [sl vslE 3 vv xs, allH (fun x : Value × Vsl => sl evE 3 x.1 x.2.evs) xs]) .auto (vsls_in hxs) ?_
      refine .p (.m rfl) (.p (.m rfl) (.p (.m rfl) ?_))
      refine .does rfl (Does.callE rfl call38 rfl (lib_upcall hv hz hw) .auto) ?_
      rintro _ _ ⟨u27, -, rfl, rfl⟩
      refine .know (fun w s => Rd.isSl (Rd.sl .auto) w s) fun hu27 => ?_
      refine .does rfl (Does.sta (vs := didE u27 (l.upcall (i : Int) c).1) (by exact sizeOf40) rfl rfl (did_one hu27) (by rfl)) ?_
      rintro _ _ ⟨rfl, rfl⟩
      refine .n (.b (.t (.s (.r (.p (.lA rfl) ?_)))))
      refine .does rfl (Does.sta (vs := didE u27 (l.upcall (i : Int) c).1) (by exact sizeOf40) rfl rfl (did_one hu27) (by rfl)) ?_
      rintro _ _ ⟨rfl, rfl⟩
      refine .p (.a rfl) (.n (.t (.e ?_)))
      rw [step_m1 h12 hv h23]
      refine .retCT rfl rfl isAgg40 (by exact sizeOf40) Cells.a rfl fun w s => ⟨u27, ?_, trivial, finE .auto s⟩
      rfl
    · refine .s (.r (.p (.eql rfl rfl) (.p (.a rfl) (.n (.t (.condD rfl (fun h29 => ?_) (fun h29 => ?_)))))))
      · refine .r ?_
        refine .to (A := vslsH vv l.vs) (Bs := [sl vslE 3 vv xs, allH (fun x : Value × Vsl => sl evE 3 x.1 x.2.evs) xs]) .auto (vsls_in hxs) ?_
        refine .p (.m rfl) (.p (.m rfl) ?_)
        refine .does rfl (Does.callE rfl call39 rfl (lib_handle hv hz) .auto) ?_
        rintro _ _ ⟨⟨⟩, -, rfl, rfl⟩
        refine .n (.b (.t (.s (.r (.p (.lA rfl) ?_)))))
        refine .does rfl (Does.sta (vs := didE (.slice none 0 0) Did.z) (by exact sizeOf40) rfl rfl (by rfl) (by rfl)) ?_
        rintro _ _ ⟨rfl, rfl⟩
        refine .p (.a rfl) (.n (.t (.e ?_)))
        rw [step_m2 h12 hv (by omega)]
        refine .retCT rfl rfl isAgg40 (by exact sizeOf40) Cells.a rfl fun w s => ⟨(.slice none 0 0), ?_, trivial, finE .auto s⟩
        rfl
      · refine .s (.r (.p (.eql rfl rfl) (.p (.a rfl) (.n (.t (.condD rfl (fun h34 => ?_) (fun h34 => ?_)))))))
        · refine .r ?_
          refine .to (A := vslsH vv l.vs) (Bs := [sl vslE 3 vv xs, allH (fun x : Value × Vsl => sl evE 3 x.1 x.2.evs) xs]) .auto (vsls_in hxs) ?_
          refine .p (.m rfl) (.p (.m rfl) ?_)
          refine .does rfl (Does.callE rfl call40 rfl (lib_enter hv) .auto) ?_
          rintro _ _ ⟨⟨⟩, -, rfl, rfl⟩
          refine .n (.b (.t (.s (.r (.p (.lA rfl) ?_)))))
          refine .does rfl (Does.sta (vs := didE (.slice none 0 0) Did.z) (by exact sizeOf40) rfl rfl (by rfl) (by rfl)) ?_
          rintro _ _ ⟨rfl, rfl⟩
          refine .p (.a rfl) (.n (.t (.e ?_)))
          rw [step_m3 h12 hv (by omega)]
          refine .retCT rfl rfl isAgg40 (by exact sizeOf40) Cells.a rfl fun w s => ⟨(.slice none 0 0), ?_, trivial, finE .auto s⟩
          rfl
        · refine .s (.r (.p (.eql rfl rfl) (.p (.a rfl) (.n (.t (.condD rfl (fun h39 => ?_) (fun h39 => ?_)))))))
          · refine .r ?_
            refine .to (A := vslsH vv l.vs) (Bs := [sl vslE 3 vv xs, allH (fun x : Value × Vsl => sl evE 3 x.1 x.2.evs) xs]) .auto (vsls_in hxs) ?_
            refine .p (.m rfl) (.p (.m rfl) ?_)
            refine .does rfl (Does.callE rfl call41 rfl (lib_pick hv hz) .auto) ?_
            rintro _ _ ⟨⟨⟩, -, rfl, rfl⟩
            refine .n (.b (.t (.s (.r (.p (.lA rfl) ?_)))))
            refine .does rfl (Does.sta (vs := didE (.slice none 0 0) Did.z) (by exact sizeOf40) rfl rfl (by rfl) (by rfl)) ?_
            rintro _ _ ⟨rfl, rfl⟩
            refine .p (.a rfl) (.n (.t (.e ?_)))
            rw [step_m4 h12 hv (by omega)]
            refine .retCT rfl rfl isAgg40 (by exact sizeOf40) Cells.a rfl fun w s => ⟨(.slice none 0 0), ?_, trivial, finE .auto s⟩
            rfl
          · refine .s (.r (.p (.eql rfl rfl) (.p (.a rfl) (.n (.t (.condD rfl (fun h44 => ?_) (fun h44 => ?_)))))))
            · refine .r ?_
              refine .to (A := vslsH vv l.vs) (Bs := [sl vslE 3 vv xs, allH (fun x : Value × Vsl => sl evE 3 x.1 x.2.evs) xs]) .auto (vsls_in hxs) ?_
              refine .p (.m rfl) (.p (.m rfl) (.p (.m rfl) ?_))
              refine .does rfl (Does.callE rfl call42 rfl (lib_run hv hz hw) .auto) ?_
              rintro _ _ ⟨u48, -, rfl, rfl⟩
              refine .know (fun w s => Rd.isSl (Rd.sl .auto) w s) fun hu48 => ?_
              refine .does rfl (Does.sta (vs := didE u48 (l.goOn (i : Int) c).1) (by exact sizeOf40) rfl rfl (did_one hu48) (by rfl)) ?_
              rintro _ _ ⟨rfl, rfl⟩
              refine .n (.b (.t (.s (.r (.p (.lA rfl) ?_)))))
              refine .does rfl (Does.sta (vs := didE u48 (l.goOn (i : Int) c).1) (by exact sizeOf40) rfl rfl (did_one hu48) (by rfl)) ?_
              rintro _ _ ⟨rfl, rfl⟩
              refine .p (.a rfl) (.n (.t (.e ?_)))
              rw [step_m5 h12 hv h44]
              refine .retCT rfl rfl isAgg40 (by exact sizeOf40) Cells.a rfl fun w s => ⟨u48, ?_, trivial, finE .auto s⟩
              rfl
            · refine .s (.r (.p (.eql rfl rfl) (.p (.a rfl) (.n (.t (.condD rfl (fun h50 => ?_) (fun h50 => ?_)))))))
              · refine .r ?_
                refine .to (A := vslsH vv l.vs) (Bs := [sl vslE 3 vv xs, allH (fun x : Value × Vsl => sl evE 3 x.1 x.2.evs) xs]) .auto (vsls_in hxs) ?_
                refine .p (.m rfl) (.p (.m rfl) ?_)
                refine .does rfl (Does.callE rfl call40 rfl (lib_enter hv) .auto) ?_
                rintro _ _ ⟨⟨⟩, -, rfl, rfl⟩
                refine .n (.b (.t (.s (.r (.p (.lA rfl) ?_)))))
                refine .does rfl (Does.sta (vs := didE (.slice none 0 0) Did.z) (by exact sizeOf40) rfl rfl (by rfl) (by rfl)) ?_
                rintro _ _ ⟨rfl, rfl⟩
                refine .p (.a rfl) (.n (.t (.e ?_)))
                rw [step_m6 h12 hv (by omega)]
                refine .retCT rfl rfl isAgg40 (by exact sizeOf40) Cells.a rfl fun w s => ⟨(.slice none 0 0), ?_, trivial, finE .auto s⟩
                rfl
              · refine .s (.r (.p (.eql rfl rfl) (.p (.a rfl) (.n (.t (.condD rfl (fun h55 => ?_) (fun h55 => ?_)))))))
                · refine .r ?_
                  refine .to (A := vslsH vv l.vs) (Bs := [sl vslE 3 vv xs, allH (fun x : Value × Vsl => sl evE 3 x.1 x.2.evs) xs]) .auto (vsls_in hxs) ?_
                  refine .p (.m rfl) (.p (.m rfl) (.p (.m rfl) ?_))
                  refine .does rfl (Does.callE rfl call43 rfl (lib_inside hv hz hw) .auto) ?_
                  rintro _ _ ⟨u59, -, rfl, rfl⟩
                  refine .know (fun w s => Rd.isSl (Rd.sl .auto) w s) fun hu59 => ?_
                  refine .does rfl (Does.sta (vs := didE u59 (l.inside (i : Int) c).1) (by exact sizeOf40) rfl rfl (did_one hu59) (by rfl)) ?_
                  rintro _ _ ⟨rfl, rfl⟩
                  refine .n (.b (.t (.s (.r (.p (.lA rfl) ?_)))))
                  refine .does rfl (Does.sta (vs := didE u59 (l.inside (i : Int) c).1) (by exact sizeOf40) rfl rfl (did_one hu59) (by rfl)) ?_
                  rintro _ _ ⟨rfl, rfl⟩
                  refine .p (.a rfl) (.n (.t (.e ?_)))
                  rw [step_m7 h12 hv h55]
                  refine .retCT rfl rfl isAgg40 (by exact sizeOf40) Cells.a rfl fun w s => ⟨u59, ?_, trivial, finE .auto s⟩
                  rfl
                · refine .s (.r (.p (.eql rfl rfl) (.p (.a rfl) (.n (.t (.condD rfl (fun h61 => ?_) (fun h61 => ?_)))))))
                  · refine .s (.r (.p (.m rfl) (.p (.n rfl) (.p (.f rfl) (.p (.l rfl) ?_)))))
                    refine .does rfl (Does.callE rfl call44 rfl (rows_Empty (rs := l.rows) ⟨hz.rl, fun r hr => Nat.le_trans (hz.rw r hr) (by decide)⟩) .auto) ?_
                    rintro _ _ ⟨⟨⟩, -, rfl, rfl⟩
                    refine .p (.not rfl) (.n (.t (.cond rfl (fun h67 => ?_) (fun h67 => ?_))))
                    · refine .r (.p (.m rfl) (.p (.n rfl) (.p (.f rfl) (.p (.l rfl) (.p (.m rfl) ?_)))))
                      refine .p (.ix i rfl rfl rfl (by omega)) ?_
                      refine .p (.z rfl) ?_
                      refine .does rfl (Does.storeSl0 (x' := (x.1, { x.2 with mode := 3 })) rfl rfl sizeOf3 rfl hx (by decide) rfl .auto) ?_
                      rintro _ _ ⟨rfl, rfl⟩
                      refine .to (A := vslsH vv (l.vs.set i { x.2 with mode := 3 })) (Bs := [sl vslE 3 vv (xs.set i (x.1, { x.2 with mode := 3 })), allH (fun x : Value × Vsl => sl evE 3 x.1 x.2.evs) xs]) .auto (vsls_mode hxs hx rfl) ?_
                      refine .n (.b (.t (.s (.r (.p (.lA rfl) ?_)))))
                      refine .does rfl (Does.sta (vs := didE (.slice none 0 0) Did.z) (by exact sizeOf40) rfl rfl (by rfl) (by rfl)) ?_
                      rintro _ _ ⟨rfl, rfl⟩
                      refine .p (.a rfl) (.n (.t (.e ?_)))
                      rw [step_m8b h12 hv (by omega) (by simpa using h67)]
                      refine .retCT rfl rfl isAgg40 (by exact sizeOf40) Cells.a rfl fun w s => ⟨(.slice none 0 0), ?_, trivial, finE .auto s⟩
                      rfl
                    · refine .v (.b (.t (.s (.r (.p (.lA rfl) ?_)))))
                      refine .does rfl (Does.sta (vs := didE (.slice none 0 0) Did.z) (by exact sizeOf40) rfl rfl (by rfl) (by rfl)) ?_
                      rintro _ _ ⟨rfl, rfl⟩
                      refine .p (.a rfl) (.n (.t (.e ?_)))
                      refine .to (A := vslsH vv l.vs) (Bs := [sl vslE 3 vv xs, allH (fun x : Value × Vsl => sl evE 3 x.1 x.2.evs) xs]) .auto (vsls_in hxs) ?_
                      rw [step_m8a h12 hv (by omega) (by simpa using h67)]
                      refine .retCT rfl rfl isAgg40 (by exact sizeOf40) Cells.a rfl fun w s => ⟨(.slice none 0 0), ?_, trivial, finE .auto s⟩
                      rfl
                  · refine .v (.b (.t (.s (.r (.p (.lA rfl) ?_)))))
                    refine .does rfl (Does.sta (vs := didE (.slice none 0 0) Did.z) (by exact sizeOf40) rfl rfl (by rfl) (by rfl)) ?_
                    rintro _ _ ⟨rfl, rfl⟩
                    refine .p (.a rfl) (.n (.t (.e ?_)))
                    refine .to (A := vslsH vv l.vs) (Bs := [sl vslE 3 vv xs, allH (fun x : Value × Vsl => sl evE 3 x.1 x.2.evs) xs]) .auto (vsls_in hxs) ?_
                    rw [step_m9 h12 hv (by omega)]
                    refine .retCT rfl rfl isAgg40 (by exact sizeOf40) Cells.a rfl fun w s => ⟨(.slice none 0 0), ?_, trivial, finE .auto s⟩
                    rfl

theorem lib_Preempt {W : World} {b bs br : Nat} {l : Lib} {p : Int} (hz : LSz l) : Fn Tryz.prog W 9 [ptr b, .int .i64 p] [libX b bs br l] Unit (fun _ => .bool (l.preempt p).1) (fun _ => True) (fun _ => [libX b bs br (l.preempt p).2]) := by
  refine Fn.intro (N := 23) func9 rfl ntmps9 rfl fun F => ?_
  show GoC _ _ _ _ _ _ [libX b bs br l, F]
  refine .s (.r (.p (.a rfl) (.n (.t (.s (.s (.r (.p (.m rfl) (.p (.m rfl) ?_)))))))))
  refine .does rfl (Does.callE rfl call34 rfl lib_hasW .auto) ?_
  rintro _ _ ⟨⟨⟩, -, rfl, rfl⟩
  refine .p (.not rfl) (.n (.t (.cond rfl (fun h8 => ?_) (fun h8 => ?_))))
  · refine .s (.r (.p (.a rfl) (.n (.t (.e (.tr ?_))))))
    rw [preempt_no (by simpa using h8)]
    refine .ret1 rfl rfl fun w s => ⟨(), ?_, trivial, finE .auto s⟩
    rfl
  · refine .v (.t (.s ?_))
    have h8 : l.has p = true := by simpa using h8
    obtain ⟨i, v, rfl, hv, hm0⟩ := has_at h8
    refine .o2 (C := libX b bs br l) .auto rfl ?_
    rintro vv vw -
    refine .o1 (C := vslsH vv l.vs) .auto rfl ?_
    rintro xs hxs
    have hxl := map_len hxs
    obtain ⟨x, hx, rfl⟩ := map_back hxs hv
    have hil := (List.getElem?_eq_some_iff.1 hx).1
    refine .fr .auto (all_out (f := (fun x : Value × Vsl => sl evE 3 x.1 x.2.evs)) hx) ?_
    refine .draw [arr b 0 (libC bs br vv vw l.locked)] [0, 0, 0, 0, 0, 1, 1, 1, 1, 1, 1, 1, 2, 1, 3] rfl (by kernel_rfl) ?_
    refine .q (.m rfl) (.q (.n rfl) (.q (.f rfl) (.q (.l rfl) (.q (.m rfl) (.p (.m rfl) ?_)))))
    refine .p (.n rfl) (.p (.f rfl) (.p (.l rfl) (.p (.m rfl) ?_)))
    refine .p (.ix i rfl rfl rfl (by omega)) ?_
    refine .p (.la rfl (Cells.rd Rd.s hx)) ?_
    refine .d2 rfl Kept.auto (Does.callE rfl call37 rfl (vessel_Told (A := sl evE 3 x.1 x.2.evs) (u := x.1) (x := x.2) (m := (.slice none 0 0)) (ys := []) (Rd.sl .here) Rd.nil ⟨Nat.le_trans (hz.ev _ (List.mem_of_getElem? hv)) (by decide), by show 0 ≤ _; decide⟩) .auto) (by rintro _ _ ⟨u21, -, rfl, rfl⟩; exact Kept.auto) ?_
    rintro _ _ ⟨u21, -, rfl, rfl⟩
    refine .know (fun w s => Rd.isSl (Rd.sl .auto) w s) fun hu21 => ?_
    refine .p (.ix i rfl rfl rfl (by omega)) ?_
    refine .d3 rfl (Does.storeSlA (x' := (u21, x.2.told [])) rfl rfl sizeOf45 (vsl_one hu21) hx rfl rfl .auto) ?_
    rintro _ _ ⟨rfl, rfl⟩
    refine .to (A := vslsH vv (l.vs.set i (x.2.told []))) (Bs := [sl vslE 3 vv (xs.set i (u21, (x.2.told []))), sl evE 3 u21 ((x.2.told [])).evs, allH (fun x : Value × Vsl => sl evE 3 x.1 x.2.evs) (xs.eraseIdx i)]) .auto (vsls_evs hxs hx) ?_
    refine .n (.t (.s (.r (.p (.a rfl) (.n (.t (.e ?_)))))))
    rw [preempt_yes h8 hv]
    refine .ret1 rfl rfl fun w s => ⟨(), ?_, trivial, finE .auto s⟩
    rfl

theorem lib_Locked {W : World} {b bs br : Nat} {l : Lib} : Fn Tryz.prog W 12 [ptr b] [libX b bs br l] Unit (fun _ => .bool l.locked) (fun _ => True) (fun _ => [libX b bs br l]) := by
  refine Fn.intro (N := 11) func12 rfl ntmps12 rfl fun F => ?_
  show GoC _ _ _ _ _ _ [libX b bs br l, F]
  refine .o2 (C := libX b bs br l) .auto rfl ?_
  rintro vv vw -
  refine .s (.r (.p (.a rfl) (.n (.t (.s (.r (.p (.m rfl) (.p (.neqp rfl rfl) (.p (.m rfl) (.g (.m rfl) (.g (.n rfl) (.g (.f rfl) (.g (.l rfl) (.p (.t rfl rfl) (.p (.a rfl) (.n (.t (.e (.ret1 rfl rfl fun w s => ⟨(), ?_, trivial, finE .auto s⟩)))))))))))))))))))
  rfl

end Go.SLYtnceicnimongcaaGreat
namespace Go.SLYtnceicnimongcaaGreat
open Go Go.RowKit

def tkd (k : Nat) (xs : List (Nat × Spc)) : List (Nat × Spc) := (xs.take k).map (fun x => (x.1, x.2.tick.2)) ++ xs.drop k
end Go.SLYtnceicnimongcaaGreat
namespace Go.SLYtnceicnimongcaaGreat
open Go Go.RowKit

def oReady (l : List Spc) (n : Int) : List Int := match geti l n with | none => [] | some s => s.ready
def oRecs (l : List Spc) (n : Int) : List Rec := match geti l n with | none => [] | some s => s.recs
def oMem (l : List Spc) (n : Int) : List Int := match geti l n with | none => [] | some s => s.mem
def oLook (l : List Spc) (n k : Int) : Option Thr := match geti l n with | none => none | some s => s.at k
theorem OneOk.get {k : Nat} {l : List Spc} (h : OneOk k l) {n : Int} {s : Spc} (hs : geti l n = some s) : Okr k s := h s (List.mem_of_getElem? (geti_of hs).2.2)
theorem OneOk.more {k k' : Nat} {l : List Spc} (h : OneOk k l) (hk : k ≤ k') : OneOk k' l := fun s hs => (h s hs).more hk
theorem OneOk.recs {k : Nat} {l : List Spc} (h : OneOk k l) (hk : k ≤ 190) (n : Int) : (oRecs l n).length ≤ 80000000 := by
  unfold oRecs; split
  · exact Nat.zero_le _
  · rename_i s e; exact (h.get e).rec hk
theorem OneOk.ready {k : Nat} {l : List Spc} (h : OneOk k l) (n : Int) : (oReady l n).length ≤ 1000000000 := by
  unfold oReady; split
  · exact Nat.zero_le _
  · rename_i s e; exact ready_leB (h.get e).lt
def sAct (s : Spc) (k : Nat) (a : Acm) : Spc :=
  if a.kind = 3 then s.tick.2 else if a.space ≠ (k : Int) then s else if a.kind = 1 then (s.run a.thread a.choice).2.2 else if a.kind = 2 then (s.done a.choice).2.2 else s
def onesErr (ps : List Prg) : Int := if ps.length < 1 ∨ 8 < ps.length then 1 else checkAll ps
def lAct (n : Int) (a : Acm) : List Acm := if a.kind = 3 then [⟨3, 0, 0, 0⟩] else if a.space = n then [{ a with space := 0 }] else []
def lActs (acts : List Acm) (n : Int) : List Acm := acts.flatMap (lAct n)
def oRun (l : List Spc) (acts : List Acm) : List Spc := acts.foldl (fun l a => (oDo l a).2) l
def aloneR (ps : List Prg) (n : Int) (acts : List Acm) : List Rec :=
  match geti ps n with
  | none => []
  | some p => if checkI p = 0 then oRecs (oRun [Spc.new p] (lActs acts n)) 0 else []
def aloneE (ps : List Prg) (n : Int) : Int :=
  match geti ps n with
  | none => 1
  | some p => checkI p
end Go.SLYtnceicnimongcaaGreat
namespace Go.SLYtnceicnimongcaaGreat
open Go Go.RowKit

theorem checkAll_zero : ∀ {l : List Prg}, checkAll l = 0 → ∀ p ∈ l, checkI p = 0
  | [], _, p, hp => by cases hp
  | q :: l, h, p, hp => by
    unfold checkAll at h
    split at h
    · rename_i hq
      rcases List.mem_cons.1 hp with rfl | hp
      · exact hq
      · exact checkAll_zero h p hp
    · rename_i hq; exact absurd h hq
theorem onesErr_zero {ps : List Prg} (h : onesErr ps = 0) : 1 ≤ ps.length ∧ ps.length ≤ 8 ∧ ∀ p ∈ ps, checkI p = 0 := by
  unfold onesErr at h
  split at h
  · cases h
  · exact ⟨by omega, by omega, checkAll_zero h⟩
theorem OneOk.new {ps : List Prg} (h : onesErr ps = 0) (hw : ∀ p ∈ ps, ∀ f ∈ p.funcs, ∀ i ∈ f, W64 i.n) : OneOk 1 (ps.map Spc.new) := fun s hs => by
  obtain ⟨p, hp, rfl⟩ := List.mem_map.1 hs
  exact Okr.new ⟨(onesErr_zero h).2.2 p hp, hw p hp⟩
theorem OneOk.spc {k : Nat} {l : List Spc} (h : OneOk k l) (hk : k ≤ 190) : ∀ s ∈ l, SpcOk s := fun s hs => (h s hs).spc hk

/-! the laws' own fact -/
def I11 : List Ins := [⟨32, 1, 0, 0, 0⟩]
def P11 : Prg := ⟨[I11], 0, 0, 0, [], [], 0, 0⟩
def pv11 (x y : Nat) : PrgV := ⟨sl3 y 1, [(sl3 x 1, I11)], 0, 0, 0, .slice none 0 0, [], .slice none 0 0, [], 0, 0⟩
def A11 (x y z : Nat) : HProp := seps [arr z 0 (rows prgE [pv11 x y, pv11 x y]), arr y 0 [sl3 x 1], arr x 0 (rows insE I11)]
def o11a : List Spc := [P11, P11].map Spc.new
def o11b : List Spc := (oDo o11a ⟨1, 1, 0, 0⟩).2
def o11c : List Spc := (oDo o11b ⟨1, 2, 0, 0⟩).2
def o11d : List Spc := (oDo o11c ⟨3, 9, 0, 0⟩).2
def R11 : List Rec := [⟨65537, 32, 0, 65537, 0, true⟩]
end Go.SLYtnceicnimongcaaGreat
namespace Go.SLYtnceicnimongcaaGreat
open Go Go.RowKit

theorem step_grow {l : Lib} (hw : ∀ t c, (l.spc.run t c).1.woken.length ≤ 17) (p c : Int) : LGrow 40 40 l (l.step p c).2.2 := by
  unfold Lib.step
  split
  · rename_i hh
    obtain ⟨i, v, rfl, hv, -⟩ := has_at hh
    simp only
    split
    · unfold Lib.upcall
      split
      · rename_i x rest e
        rw [v_at hv] at e
        have hl := within_len e
        exact (LGrow.recover hv (by omega) c (hw x.thread c)).le (by omega) (by omega)
      · exact (LGrow.enter hv 2).le (by omega) (by omega)
    · split
      · exact (LGrow.handle hv).le (by omega) (by omega)
      · split
        · exact (LGrow.enter hv 4).le (by omega) (by omega)
        · split
          · exact (LGrow.pick hv).le (by omega) (by omega)
          · split
            · exact (LGrow.goOn hv c (hw _ c)).le (by omega) (by omega)
            · split
              · exact (LGrow.enter hv 7).le (by omega) (by omega)
              · split
                · exact (LGrow.inside hv c (hw _ c)).le (by omega) (by omega)
                · split
                  · split
                    · exact (LGrow.refl _).le (by omega) (by omega)
                    · exact (LGrow.setV (x := { l.v (i : Int) with mode := 3 }) (a := 0) hv (by rw [v_at hv]; exact Nat.le_refl _)).le (by omega) (by omega)
                  · exact (LGrow.refl _).le (by omega) (by omega)
  · exact (LGrow.refl _).le (by omega) (by omega)
theorem grant_grow (l : Lib) (p : Int) : LGrow 2 0 l (l.grant p).2 := by
  have h := grant_same l p
  exact ⟨h.len, congrArg _ h.rows, grant_ev l p, fun m hm => by rw [h.rows]; exact hm⟩
theorem preempt_grow (l : Lib) (p : Int) : LGrow 1 0 l (l.preempt p).2 := by
  cases h : l.has p with
  | false => rw [preempt_no h]; exact (LGrow.refl _).le (by omega) (by omega)
  | true =>
    obtain ⟨i, v, rfl, hv, -⟩ := has_at h
    rw [preempt_yes h hv, ← setV_at]
    exact LGrow.setV hv (by have := told_len v []; simpa using this)
theorem preempt_spc (l : Lib) (p : Int) : (l.preempt p).2.spc = l.spc := by unfold Lib.preempt; split <;> rfl
theorem LInv.more {k : Nat} {l : Lib} (h : LInv k l) : LInv (k + 1) l := h.of ((LGrow.refl _).le (by omega) (by omega)) (h.sp.more (by omega))
theorem LInv.grant {k : Nat} {l : Lib} (h : LInv k l) (p : Int) : LInv (k + 1) (l.grant p).2 := h.of ((grant_grow l p).le (by omega) (by omega)) (by rw [(grant_same l p).spc]; exact h.sp.more (by omega))
theorem LInv.preempt {k : Nat} {l : Lib} (h : LInv k l) (p : Int) : LInv (k + 1) (l.preempt p).2 := h.of ((preempt_grow l p).le (by omega) (by omega)) (by rw [preempt_spc]; exact h.sp.more (by omega))
theorem LInv.new {s : Spc} (h : Okr 1 s) (p : Int) : LInv 0 (Lib.new s p) := by
  have hc : 0 ≤ clamp p 64 ∧ clamp p 64 ≤ 64 := by unfold clamp; omega
  have h2 := readyFrom_len s.thr 0
  rw [h.lt] at h2
  refine ⟨h, ?_, ?_, ?_, ?_⟩
  · show (List.replicate _ _).length ≤ _; rw [List.length_replicate]; omega
  · show (List.replicate _ _).length ≤ _; rw [List.length_replicate]; omega
  · show (unblocked s.ready).length + ((List.replicate (clamp p 64).toNat Vsl.z).map (fun v => v.evs.length)).sum ≤ _
    have h3 : (unblocked s.ready).length = (readyFrom s.thr 0).length := by unfold unblocked; rw [List.length_map]; rfl
    rw [h3, List.map_replicate, List.sum_replicate_nat]
    show _ + (clamp p 64).toNat * 0 ≤ _
    omega
  · intro r hr
    have : r = [] := List.eq_of_mem_replicate hr
    subst this; exact Nat.zero_le _
theorem LInv.wok {k : Nat} {l : Lib} (h : LInv k l) (hk : k ≤ 180) : ∀ t c, (l.spc.run t c).1.woken.length ≤ 17 := fun t c => woken_le h.sp (by omega) t c
theorem look_has {l : Lib} {p : Int} (h : l.has p = true) : ∃ (i : Nat) (v : Vsl), p = (i : Int) ∧ l.vs[i]? = some v ∧ lookV l p = v := by
  obtain ⟨i, v, rfl, hv, -⟩ := has_at h
  exact ⟨i, v, rfl, hv, by unfold lookV; rw [if_pos h, Int.toNat_natCast, getD_of hv]⟩

/-! the law's own fact -/
def I16 : List Ins := [⟨1, 1, 0, 0, 5⟩]
def P16 : Prg := ⟨[I16], 0, 0, 0, [], [], 0, 0⟩
def pv16 (x y : Nat) : PrgV := ⟨sl3 y 1, [(sl3 x 1, I16)], 0, 0, 0, .slice none 0 0, [], .slice none 0 0, [], 0, 0⟩
def A16 (x y : Nat) : HProp := seps [arr y 0 [sl3 x 1], arr x 0 (rows insE I16)]
theorem pv16_rd {W : World} {x y : Nat} : PrgRd W [A16 x y] (pv16 x y) := by
  refine ⟨Rd.grp (Rd.lit .here rfl (fun _ _ => rfl) rfl), fun q hq => ?_, Rd.nil, Rd.nil⟩
  rw [show (pv16 x y).fs = [(sl3 x 1, I16)] from rfl, List.mem_singleton] at hq
  subst hq
  exact Rd.grp (Rd.lit (.there .here) rfl (fun _ _ => rfl) rfl)
theorem chk16 : checkI P16 = 0 := by decide +kernel
theorem ok16 : PrgOk P16 := ⟨chk16, fun f hf i hi => by
  have : (P16.funcs.all fun f => f.all fun i => decide (0 ≤ i.n) && decide (i.n ≤ 18446744073709551615)) = true := by decide +kernel
  have := List.all_eq_true.1 (List.all_eq_true.1 this f hf) i hi
  exact (by simpa using this : 0 ≤ i.n ∧ i.n ≤ 18446744073709551615)⟩
def l16n : Lib := Lib.new (Spc.new P16) 2
def l16g : Lib := (l16n.grant 1).2
def l16 : Nat → Lib
  | 0 => (l16g.grant 1).2
  | k + 1 => ((l16 k).step 1 0).2.2
def n16 : Nat → Nat
  | 0 => 0
  | k + 1 => n16 k + if ((l16 k).step 1 0).1.commit = true then 1 else 0
theorem i16n : LInv 0 l16n := LInv.new (Okr.new ok16) 2
theorem i16g : LInv 1 l16g := i16n.grant 1
theorem i16 : ∀ k, k ≤ 30 → LInv (k + 2) (l16 k)
  | 0, _ => i16g.grant 1
  | k + 1, h => (i16 k (by omega)).step (by omega) 1 0
theorem g16a : (l16n.grant 1).1 = true := by decide +kernel
theorem g16b : (l16g.grant 1).1 = false := by decide +kernel
theorem c16 : n16 20 = 2 := by decide +kernel
theorem e16 : ((l16 20).step 0 0).2.1 = 11 := by decide +kernel
theorem s16 : (l16 20).has 0 = false := by decide +kernel
theorem p16 : (l16 20).procs = [1] := by decide +kernel
theorem k16 : (l16 20).locked = false := by decide +kernel
theorem n16_le : ∀ k, n16 k ≤ k
  | 0 => Nat.le_refl _
  | k + 1 => by
    have := n16_le k
    unfold n16; split <;> omega
end Go.SLYtnceicnimongcaaGreat
namespace Go.SLYtnceicnimongcaaGreat
open Go Go.RowKit Go.Proofs Go.Proofs.Tryz

theorem lib_inN {W : World} {p : Int} : Fn Tryz.prog W 33 [.pointer none, .int .i64 p] [] Unit (fun _ => .bool false) (fun _ => True) (fun _ => []) := by
  refine Fn.intro (N := 20) func33 rfl ntmps33 rfl fun F => ?_
  show GoC _ _ _ _ _ _ [F]
  refine .s (.r (.p (.a rfl) (.n (.t (.s (.r (.p (.m rfl) (.p (.neqp rfl rfl) (.p (.m rfl) (.u (.u (.p (.u rfl rfl) (.p (.m rfl) (.u (.u (.u (.u (.u (.u (.u (.p (.u rfl rfl) (.p (.a rfl) (.n (.t (.e (.ret1 rfl rfl fun w s => ⟨(), ?_, trivial, finE .auto s⟩))))))))))))))))))))))))))
  rfl

theorem lib_hasN {W : World} {p : Int} : Fn Tryz.prog W 34 [.pointer none, .int .i64 p] [] Unit (fun _ => .bool false) (fun _ => True) (fun _ => []) := by
  refine Fn.intro (N := 19) func34 rfl ntmps34 rfl fun F => ?_
  show GoC _ _ _ _ _ _ [F]
  refine .s (.r (.p (.a rfl) (.n (.t (.s (.r (.p (.m rfl) (.p (.m rfl) ?_))))))))
  refine .does rfl (Does.callE rfl call33 rfl lib_inN .auto) ?_
  rintro _ _ ⟨⟨⟩, -, rfl, rfl⟩
  refine .p (.m rfl) (.u (.u (.u (.u (.u (.u (.u (.u (.u (.p (.u rfl rfl) (.p (.a rfl) (.n (.t (.e (.ret1 rfl rfl fun w s => ⟨(), ?_, trivial, finE .auto s⟩)))))))))))))))
  rfl

theorem lib_GrantN {W : World} {p : Int} : Fn Tryz.prog W 8 [.pointer none, .int .i64 p] [] Unit (fun _ => .bool false) (fun _ => True) (fun _ => []) := by
  refine Fn.intro (N := 31) func8 rfl ntmps8 rfl fun F => ?_
  show GoC _ _ _ _ _ _ [F]
  refine .s (.r (.p (.a rfl) (.n (.t (.s (.s (.r (.p (.m rfl) (.p (.m rfl) ?_)))))))))
  refine .does rfl (Does.callE rfl call33 rfl lib_inN .auto) ?_
  rintro _ _ ⟨⟨⟩, -, rfl, rfl⟩
  refine .p (.not rfl) (.p (.m rfl) (.u (.u (.u (.p (.t rfl rfl) (.n (.t (.condT rfl ?_))))))))
  refine .s (.r (.p (.a rfl) (.n (.t (.e (.tr (.ret1 rfl rfl fun w s => ⟨(), ?_, trivial, finE .auto s⟩)))))))
  rfl

theorem lib_RevokeN {W : World} {p : Int} : Fn Tryz.prog W 15 [.pointer none, .int .i64 p] [] Unit (fun _ => .bool false) (fun _ => True) (fun _ => []) := by
  refine Fn.intro (N := 28) func15 rfl ntmps15 rfl fun F => ?_
  show GoC _ _ _ _ _ _ [F]
  refine .s (.r (.p (.a rfl) (.n (.t (.s (.s (.r (.p (.m rfl) (.p (.m rfl) ?_)))))))))
  refine .does rfl (Does.callE rfl call34 rfl lib_hasN .auto) ?_
  rintro _ _ ⟨⟨⟩, -, rfl, rfl⟩
  refine .p (.not rfl) (.n (.t (.condT rfl ?_)))
  refine .s (.r (.p (.a rfl) (.n (.t (.e (.tr (.ret1 rfl rfl fun w s => ⟨(), ?_, trivial, finE .auto s⟩)))))))
  rfl

theorem lib_PreemptN {W : World} {p : Int} : Fn Tryz.prog W 9 [.pointer none, .int .i64 p] [] Unit (fun _ => .bool false) (fun _ => True) (fun _ => []) := by
  refine Fn.intro (N := 23) func9 rfl ntmps9 rfl fun F => ?_
  show GoC _ _ _ _ _ _ [F]
  refine .s (.r (.p (.a rfl) (.n (.t (.s (.s (.r (.p (.m rfl) (.p (.m rfl) ?_)))))))))
  refine .does rfl (Does.callE rfl call34 rfl lib_hasN .auto) ?_
  rintro _ _ ⟨⟨⟩, -, rfl, rfl⟩
  refine .p (.not rfl) (.n (.t (.condT rfl ?_)))
  refine .s (.r (.p (.a rfl) (.n (.t (.e (.tr (.ret1 rfl rfl fun w s => ⟨(), ?_, trivial, finE .auto s⟩)))))))
  rfl

theorem lib_TellN {W : World} {m : Value} : Fn Tryz.prog W 14 [.pointer none, m] [] Unit (fun _ => .tuple #[]) (fun _ => True) (fun _ => []) := by
  refine Fn.intro (N := 45) func14 rfl ntmps14 rfl fun F => ?_
  show GoC _ _ _ _ _ _ [F]
  refine .s (.s (.r (.p (.m rfl) (.p (.eqp rfl rfl) (.p (.m rfl) (.u (.u (.u (.p (.t rfl rfl) (.n (.t (.condT rfl ?_))))))))))))
  refine .e (.tr (.ret0 rfl fun w s => ⟨(), ?_, trivial, finE .auto s⟩))
  rfl

theorem lib_StepN {W : World} {p c : Int} : Fn Tryz.prog W 10 [.pointer none, .int .i64 p, .int .i64 c] [] Unit (fun _ => .tuple #[.agg (didE (.slice none 0 0) Did.z).toArray, .int .i64 11]) (fun _ => True) (fun _ => []) := by
  refine Fn.intro (N := 76) func10 rfl ntmps10 rfl fun F => ?_
  show GoC _ _ _ _ _ _ [F]
  refine .s (.r ?_)
  refine .does rfl (Does.alloc rfl zeroValue40 rfl) ?_
  rintro _ _ ⟨b6, rfl, rfl⟩
  refine .p (.a rfl) (.n (.t (.s (.s (.r (.p (.m rfl) (.p (.m rfl) ?_)))))))
  refine .does rfl (Does.callE rfl call34 rfl lib_hasN .auto) ?_
  rintro _ _ ⟨⟨⟩, -, rfl, rfl⟩
  refine .p (.not rfl) (.n (.t (.condT rfl ?_)))
  refine .s (.r ?_)
  refine .p (.bld0 (didE (.slice none 0 0) Did.z) (by kernel_rfl)) ?_
  refine .does rfl (Does.sta (vs := didE (.slice none 0 0) Did.z) (by exact sizeOf40) rfl rfl (by rfl) (by rfl)) ?_
  rintro _ _ ⟨rfl, rfl⟩
  refine .p (.a rfl) (.n (.t (.e (.tr ?_))))
  refine .retCT rfl rfl isAgg40 (by exact sizeOf40) Cells.a rfl fun w s => ⟨(), ?_, trivial, finE .auto s⟩
  rfl

theorem lib_LookN {W : World} {p : Int} : Fn Tryz.prog W 11 [.pointer none, .int .i64 p] [] Unit (fun _ => .tuple #[.agg (vslE ((.slice none 0 0), Vsl.z)).toArray, .bool false]) (fun _ => True) (fun _ => []) := by
  refine Fn.intro (N := 25) func11 rfl ntmps11 rfl fun F => ?_
  show GoC _ _ _ _ _ _ [F]
  refine .s (.r ?_)
  refine .does rfl (Does.alloc rfl zeroValue45 rfl) ?_
  rintro _ _ ⟨b4, rfl, rfl⟩
  refine .p (.a rfl) (.n (.t (.s (.s (.r (.p (.m rfl) (.p (.m rfl) ?_)))))))
  refine .does rfl (Does.callE rfl call34 rfl lib_hasN .auto) ?_
  rintro _ _ ⟨⟨⟩, -, rfl, rfl⟩
  refine .p (.not rfl) (.n (.t (.condT rfl ?_)))
  refine .s (.r ?_)
  refine .p (.bld0 ([(.int .i64 0), (.int .i64 0), (.slice none 0 0)]) (by kernel_rfl)) ?_
  refine .does rfl (Does.sta (by exact sizeOf45) rfl rfl rfl (by rfl)) ?_
  rintro _ _ ⟨rfl, rfl⟩
  refine .p (.a rfl) (.n (.t (.e (.tr ?_))))
  refine .retCT rfl rfl isAgg45 (by exact sizeOf45) Cells.a rfl fun w s => ⟨(), ?_, trivial, finE .auto s⟩
  rfl

theorem lib_LockedN {W : World}  : Fn Tryz.prog W 12 [.pointer none] [] Unit (fun _ => .bool false) (fun _ => True) (fun _ => []) := by
  refine Fn.intro (N := 11) func12 rfl ntmps12 rfl fun F => ?_
  show GoC _ _ _ _ _ _ [F]
  refine .s (.r (.p (.a rfl) (.n (.t (.s (.r (.p (.m rfl) (.p (.neqp rfl rfl) (.p (.m rfl) (.u (.u (.u (.u (.p (.u rfl rfl) (.p (.a rfl) (.n (.t (.e (.ret1 rfl rfl fun w s => ⟨(), ?_, trivial, finE .auto s⟩)))))))))))))))))))
  rfl

theorem lib_ProcsN {W : World}  : Fn Tryz.prog W 16 [.pointer none] [] Unit (fun _ => (.slice none 0 0)) (fun _ => True) (fun _ => []) := by
  refine Fn.intro (N := 24) func16 rfl ntmps16 rfl fun F => ?_
  show GoC _ _ _ _ _ _ [F]
  refine .s (.r (.p (.a rfl) (.n (.t (.s (.s (.r (.p (.m rfl) (.p (.eqp rfl rfl) (.n (.t (.condT rfl ?_))))))))))))
  refine .s (.r (.p (.a rfl) (.n (.t (.e (.tr (.ret1 rfl rfl fun w s => ⟨(), ?_, trivial, finE .auto s⟩)))))))
  rfl

theorem lib_WaitingN {W : World}  : Fn Tryz.prog W 17 [.pointer none] [] Unit (fun _ => (.slice none 0 0)) (fun _ => True) (fun _ => []) := by
  refine Fn.intro (N := 11) func17 rfl ntmps17 rfl fun F => ?_
  show GoC _ _ _ _ _ _ [F]
  refine .s (.r (.p (.a rfl) (.n (.t (.s (.s (.r (.p (.m rfl) (.p (.eqp rfl rfl) (.n (.t (.condT rfl ?_))))))))))))
  refine .s (.r (.p (.a rfl) (.n (.t (.e (.tr (.ret1 rfl rfl fun w s => ⟨(), ?_, trivial, finE .auto s⟩)))))))
  rfl

theorem lib_RowsN {W : World}  : Fn Tryz.prog W 18 [.pointer none] [] Unit (fun _ => .pointer none) (fun _ => True) (fun _ => []) := by
  refine Fn.intro (N := 9) func18 rfl ntmps18 rfl fun F => ?_
  show GoC _ _ _ _ _ _ [F]
  refine .s (.r (.p (.a rfl) (.n (.t (.s (.s (.r (.p (.m rfl) (.p (.eqp rfl rfl) (.n (.t (.condT rfl ?_))))))))))))
  refine .s (.r (.p (.a rfl) (.n (.t (.e (.tr (.ret1 rfl rfl fun w s => ⟨(), ?_, trivial, finE .auto s⟩)))))))
  rfl

theorem lib_SpaceN {W : World}  : Fn Tryz.prog W 19 [.pointer none] [] Unit (fun _ => .pointer none) (fun _ => True) (fun _ => []) := by
  refine Fn.intro (N := 9) func19 rfl ntmps19 rfl fun F => ?_
  show GoC _ _ _ _ _ _ [F]
  refine .s (.r (.p (.a rfl) (.n (.t (.s (.s (.r (.p (.m rfl) (.p (.eqp rfl rfl) (.n (.t (.condT rfl ?_))))))))))))
  refine .s (.r (.p (.a rfl) (.n (.t (.e (.tr (.ret1 rfl rfl fun w s => ⟨(), ?_, trivial, finE .auto s⟩)))))))
  rfl

theorem law16_awake {W : World}  : Fn Tryz.prog W 6 [] [] Unit (fun _ => .bool true) (fun _ => True) (fun _ => []) := by
  refine Fn.intro (N := 72) func6 rfl ntmps6 rfl fun F => ?_
  show GoC _ _ _ _ _ _ [F]
  refine .s (.r (.p (.a rfl) (.n (.t (.s (.r ?_))))))
  refine .p (.bld3 (fun v1 v2 v3 => [v1, v2, (.int .i64 0), (.int .i64 0), v3]) rfl rfl rfl (by kernel_rfl)) ?_
  refine .does rfl (Does.bsl 80 rfl rfl (by kernel_rfl)) ?_
  rintro _ _ ⟨b14, rfl, rfl⟩
  refine .does rfl (Does.bsl 76 rfl rfl (by kernel_rfl)) ?_
  rintro _ _ ⟨b15, rfl, rfl⟩
  refine .p (.bld1 (fun _ => prgE (pv16 b14 b15)) rfl (by kernel_rfl)) ?_
  refine .does rfl (Does.callE rfl call5 rfl (core_New (A := A16 b14 b15) (v := pv16 b14 b15) pv16_rd ⟨by show 1 ≤ _; decide, by show 0 ≤ _; decide, by show 0 ≤ _; decide⟩) .auto) ?_
  rintro _ _ ⟨o, ho, rfl, rfl⟩
  rw [show (pv16 b14 b15).p = P16 from rfl, chk16] at ho ⊢
  obtain ⟨kb, rfl⟩ := Option.isSome_iff_exists.1 ho
  refine .fr (A := optH (fun b => spcH b (Spc.new P16)) (some kb)) (Bs := [spcH kb (Spc.new P16)]) .auto opt_some ?_
  refine .o1 (C := spcH kb (Spc.new P16)) .auto rfl ?_
  rintro pt -
  refine .p (.m rfl) (.p (.extract rfl rfl) (.p (.extract rfl rfl) (.p (.a rfl) (.p (.a rfl) (.n (.t (.s (.r (.p (.m rfl) ?_)))))))))
  refine .does rfl (Does.callE rfl call7 rfl (lib_New (bs := kb) (ps := pt) (s := Spc.new P16) (p := 2) (new_thr _)) .auto) ?_
  rintro _ _ ⟨u21, -, rfl, rfl⟩
  rw [show Lib.new (Spc.new P16) 2 = l16n from rfl]
  refine .o2 (C := libH u21 l16n) .auto rfl ?_
  rintro bs br -
  refine .p (.a rfl) (.n (.t (.s (.r (.p (.m rfl) ?_)))))
  refine .does rfl (Does.callE rfl call8 rfl (lib_Grant (l := l16n) (p := 1) (Nat.le_trans (i16n.sz (by decide)).wt (by decide))) .auto) ?_
  rintro _ _ ⟨⟨⟩, -, rfl, rfl⟩
  rw [g16a, show (l16n.grant 1).2 = l16g from rfl]
  refine .p (.m rfl) ?_
  refine .does rfl (Does.callE rfl call8 rfl (lib_Grant (l := l16g) (p := 1) (Nat.le_trans (i16g.sz (by decide)).wt (by decide))) .auto) ?_
  rintro _ _ ⟨⟨⟩, -, rfl, rfl⟩
  rw [g16b, show (l16g.grant 1).2 = l16 0 from rfl]
  refine .p (.a rfl) (.p (.a rfl) (.n (.t (.s (.r (.p (.a rfl) (.n (.t (.s (.s (.r (.p (.a rfl) (.n (.t (.b ?_)))))))))))))))
  refine .loopK (X := Nat) [6, 7, 8, 9, 26, 27, 28, 29, 30, 31, 32, 33, 34, 35, 36, 37, 38] (fun k => 20 - k) (fun k => k ≤ 20) (fun k => [(7, some (.int .i64 (k : Int))), (6, some (.int .i64 (n16 k : Int)))]) (fun k => [libX u21 bs br (l16 k), F]) 0 ?_ ?_ ?_ ?_
  · exact Nat.zero_le _
  · exact ⟨rfl, rfl, trivial⟩
  · exact fun w s => Ent.kept .auto w s
  rintro k hk
  refine .s (.s (.r (.p (.m rfl) (.p (.lss rfl rfl) (.n (.t (.condD rfl (fun h27 => ?_) (fun h27 => ?_))))))))
  · refine .v (.t (.s (.b (.s (.r ?_)))))
    have hI := i16 k (by omega)
    have hnk := n16_le k
    refine .p (.m rfl) ?_
    refine .does rfl (Does.callE rfl call10 rfl (lib_Step (l := l16 k) (p := 1) (c := 0) (hI.sz (by omega)) (fun t => hI.wok (by omega) t _)) .auto) ?_
    rintro _ _ ⟨u32, -, rfl, rfl⟩
    refine .know (fun w s => Rd.isSl (Rd.sl .auto) w s) fun hu32 => ?_
    rw [show ((l16 k).step 1 0).2.2 = l16 (k + 1) from rfl]
    refine .p (.m rfl) ?_
    refine .p (.extract (v := .agg (didE u32 ((l16 k).step 1 0).1).toArray) rfl rfl) ?_
    refine .p (.extract (v := .int .i64 ((l16 k).step 1 0).2.1) rfl rfl) ?_
    refine .does rfl (Does.alloc rfl zeroValue40 rfl) ?_
    rintro _ _ ⟨b8, rfl, rfl⟩
    refine .does rfl (Does.sta (vs := didE u32 ((l16 k).step 1 0).1) (by exact sizeOf40) rfl rfl (did_one hu32) (by rfl)) ?_
    rintro _ _ ⟨rfl, rfl⟩
    refine .p (.a rfl) (.n (.t (.s (.r (.p (.z rfl) (.p (.l rfl) (.n (.t (.cond rfl (fun h36 => ?_) (fun h36 => ?_))))))))))
    · refine .r (.p (.m rfl) ?_)
      refine .p (.add rfl rfl (by omega)) ?_
      refine .p (.a rfl) (.n (.b (.t (.r (.p (.m rfl) ?_)))))
      refine .p (.inc rfl rfl (by omega)) ?_
      refine .p (.a rfl) (.n ?_)
      refine .againK (k + 1) .auto rfl ?_ ?_ ?_ ?_
      · omega
      · show k + 1 ≤ 20; omega
      · refine ⟨rfl, ?_, trivial⟩
        rw [show n16 (k + 1) = n16 k + 1 from by show n16 k + _ = _; rw [if_pos h36]]; rfl
      · exact fun w s => Ent.kept .auto w s
    · refine .v (.b (.t (.r (.p (.m rfl) ?_))))
      refine .p (.inc rfl rfl (by omega)) ?_
      refine .p (.a rfl) (.n ?_)
      refine .againK (k + 1) .auto rfl ?_ ?_ ?_ ?_
      · omega
      · show k + 1 ≤ 20; omega
      · refine ⟨rfl, ?_, trivial⟩
        rw [show n16 (k + 1) = n16 k from by show n16 k + _ = _; rw [if_neg (by rw [h36]; simp)]; rfl]; rfl
      · exact fun w s => Ent.kept .auto w s
  · obtain rfl : k = 20 := by omega
    have hI := i16 20 (by decide)
    rw [c16]
    refine .x (.tx (.tx (.bh (.t (.s (.r (.p (.m rfl) ?_)))))))
    refine .does rfl (Does.callE rfl call10 rfl (lib_Step (l := l16 20) (p := 0) (c := 0) (hI.sz (by decide)) (fun t => hI.wok (by decide) t _)) .auto) ?_
    rintro _ _ ⟨u41, -, rfl, rfl⟩
    refine .know (fun w s => Rd.isSl (Rd.sl .auto) w s) fun hu41 => ?_
    rw [e16, show ((l16 20).step 0 0).2.2 = l16 20 from by rw [lstep_no s16]]
    refine .p (.m rfl) ?_
    refine .p (.extract (v := .agg (didE u41 ((l16 20).step 0 0).1).toArray) rfl rfl) ?_
    refine .p (.extract (v := .int .i64 11) rfl rfl) ?_
    refine .does rfl (Does.alloc rfl zeroValue40 rfl) ?_
    rintro _ _ ⟨b10, rfl, rfl⟩
    refine .does rfl (Does.sta (vs := didE u41 ((l16 20).step 0 0).1) (by exact sizeOf40) rfl rfl (did_one hu41) (by rfl)) ?_
    rintro _ _ ⟨rfl, rfl⟩
    refine .p (.a rfl) (.n (.t (.s (.r (.p (.m rfl) (.p (.eql rfl rfl) (.p (.m rfl) (.g (.m rfl) (.p (.t rfl rfl) (.p (.m rfl) (.g (.m rfl) (.g (.not rfl) (.p (.t rfl rfl) (.p (.m rfl) (.g (.m rfl) (.g (.eql rfl rfl) (.p (.t rfl rfl) (.p (.m rfl) (.g (.m rfl) (.g (.eql rfl rfl) (.p (.t rfl rfl) (.p (.m rfl) ?_))))))))))))))))))))))
    apply GoL.segAD 5 66 61 [61, 62, 63, 64, 65, 66] rfl
    · intro h61
      refine .g (.m rfl) ?_
      refine .dg rfl rfl rfl (Does.callE rfl call16 rfl (lib_Procs (l := l16 20) (Nat.le_trans (hI.sz (by decide)).vl (by decide))) .auto) ?_
      rintro _ _ ⟨u63, -, rfl, rfl⟩
      rw [p16]
      refine .dg rfl rfl rfl (Does.bsl 3 rfl rfl (by kernel_rfl)) ?_
      rintro _ _ ⟨b64, rfl, rfl⟩
      refine .dg rfl rfl rfl (Does.callE rfl call29 rfl (ref_Ints (A := seps [sl intE 1 u63 [1], arr b64 0 [.int .i64 1]]) (xs := [1]) (ys := [1]) (Rd.grp (Rd.sl .here)) (Rd.grp (Rd.lit (.there .here) rfl (fun _ _ => rfl) rfl)) (by decide)) .auto) ?_
      rintro _ _ ⟨⟨⟩, -, rfl, rfl⟩
      refine .p (.t rfl rfl) (.n ?_)
      refine .seg .auto rfl (by first | exact fun _ h => h | exact Ent.kept .auto)
    · intro h61
      refine .u (.u (.u (.u (.p (.u rfl rfl) (.n ?_)))))
      refine .seg .auto rfl (by first | exact fun _ h => h | exact Ent.kept .auto)
    refine .p (.m rfl) (.g (.m rfl) ?_)
    refine .dg rfl rfl rfl (Does.callE rfl call12 rfl lib_Locked .auto) ?_
    rintro _ _ ⟨⟨⟩, -, rfl, rfl⟩
    rw [k16]
    refine .g (.not rfl) (.p (.t rfl rfl) (.p (.a rfl) (.n (.t (.e (.ret1 rfl rfl fun w s => ⟨(), ?_, trivial, finE .auto s⟩))))))
    rfl

theorem law16_None {W : World} {A : HProp} {p c : Int} {m : Value} {ys : List Ev} (_hm : Rd W [A] evE 3 m ys) : Fn Tryz.prog W 4 [.int .i64 p, .int .i64 c, m] [A] Unit (fun _ => .bool true) (fun _ => True) (fun _ => [A]) := by
  refine Fn.intro (N := 85) func4 rfl ntmps4 rfl fun F => ?_
  show GoC _ _ _ _ _ _ [A, F]
  refine .s (.r (.p (.a rfl) (.n (.t (.s (.r (.p (.a rfl) (.n (.t (.s (.r (.p (.m rfl) (.p (.m rfl) ?_)))))))))))))
  refine .does rfl (Does.callE rfl call14 rfl lib_TellN .auto) ?_
  rintro _ _ ⟨⟨⟩, -, rfl, rfl⟩
  refine .n (.t (.s (.r (.p (.m rfl) (.p (.m rfl) (.p (.m rfl) ?_))))))
  refine .does rfl (Does.callE rfl call10 rfl lib_StepN .auto) ?_
  rintro _ _ ⟨⟨⟩, -, rfl, rfl⟩
  refine .p (.m rfl) ?_
  refine .p (.extract (v := .agg (didE (.slice none 0 0) Did.z).toArray) rfl rfl) ?_
  refine .p (.extract rfl rfl) ?_
  refine .does rfl (Does.alloc rfl zeroValue40 rfl) ?_
  rintro _ _ ⟨b8, rfl, rfl⟩
  refine .does rfl (Does.sta (vs := didE (.slice none 0 0) Did.z) (by exact sizeOf40) rfl rfl (by rfl) (by rfl)) ?_
  rintro _ _ ⟨rfl, rfl⟩
  refine .p (.a rfl) (.n (.t (.s (.r (.p (.m rfl) (.p (.m rfl) ?_))))))
  refine .does rfl (Does.callE rfl call11 rfl lib_LookN .auto) ?_
  rintro _ _ ⟨⟨⟩, -, rfl, rfl⟩
  refine .p (.m rfl) ?_
  refine .p (.extract (v := .agg (vslE ((.slice none 0 0), Vsl.z)).toArray) rfl rfl) ?_
  refine .p (.extract rfl rfl) ?_
  refine .does rfl (Does.alloc rfl zeroValue45 rfl) ?_
  rintro _ _ ⟨b10, rfl, rfl⟩
  refine .does rfl (Does.sta (vs := vslE ((.slice none 0 0), Vsl.z)) (by exact sizeOf45) rfl rfl (by rfl) (by rfl)) ?_
  rintro _ _ ⟨rfl, rfl⟩
  refine .p (.a rfl) (.n (.t (.s (.r ?_))))
  refine .does rfl (Does.callE rfl call6 rfl law16_awake .auto) ?_
  rintro _ _ ⟨⟨⟩, -, rfl, rfl⟩
  refine .p (.m rfl) (.g (.m rfl) (.g (.eql rfl rfl) (.p (.t rfl rfl) (.p (.m rfl) (.g (.z rfl) (.g (.l rfl) (.g (.not rfl) (.p (.t rfl rfl) (.p (.m rfl) (.g (.m rfl) (.g (.not rfl) (.p (.t rfl rfl) (.p (.m rfl) ?_)))))))))))))
  apply GoL.segA 5 47 42 [42, 43, 44, 45, 46, 47] rfl
  · intro h42
    refine .g (.m rfl) (.g (.m rfl) ?_)
    refine .dg rfl rfl rfl (Does.callE rfl call8 rfl lib_GrantN .auto) ?_
    rintro _ _ ⟨⟨⟩, -, rfl, rfl⟩
    refine .g (.not rfl) (.p (.t rfl rfl) (.n ?_))
    refine .seg .auto rfl (by first | exact fun _ h => h | exact Ent.kept .auto)
  · intro h42
    refine .u (.u (.u (.u (.p (.u rfl rfl) (.n ?_)))))
    refine .seg .auto rfl (by first | exact fun _ h => h | exact Ent.kept .auto)
  refine .p (.m rfl) (.g (.m rfl) (.g (.m rfl) ?_))
  refine .dg rfl rfl rfl (Does.callE rfl call15 rfl lib_RevokeN .auto) ?_
  rintro _ _ ⟨⟨⟩, -, rfl, rfl⟩
  refine .g (.not rfl) (.p (.t rfl rfl) (.p (.m rfl) (.g (.m rfl) (.g (.m rfl) ?_))))
  refine .dg rfl rfl rfl (Does.callE rfl call9 rfl lib_PreemptN .auto) ?_
  rintro _ _ ⟨⟨⟩, -, rfl, rfl⟩
  refine .g (.not rfl) (.p (.t rfl rfl) (.p (.m rfl) (.g (.m rfl) ?_)))
  refine .dg rfl rfl rfl (Does.callE rfl call12 rfl lib_LockedN .auto) ?_
  rintro _ _ ⟨⟨⟩, -, rfl, rfl⟩
  refine .g (.not rfl) (.p (.t rfl rfl) (.p (.m rfl) (.g (.m rfl) ?_)))
  refine .dg rfl rfl rfl (Does.callE rfl call16 rfl lib_ProcsN .auto) ?_
  rintro _ _ ⟨⟨⟩, -, rfl, rfl⟩
  refine .g (.lens rfl) (.g (.m rfl) ?_)
  refine .dg rfl rfl rfl (Does.callE rfl call17 rfl lib_WaitingN .auto) ?_
  rintro _ _ ⟨⟨⟩, -, rfl, rfl⟩
  refine .g (.lens rfl) ?_
  refine .g (.add rfl rfl (by omega)) ?_
  refine .g (.eql rfl rfl) (.p (.t rfl rfl) (.p (.m rfl) (.g (.m rfl) ?_)))
  refine .dg rfl rfl rfl (Does.callE rfl call18 rfl lib_RowsN .auto) ?_
  rintro _ _ ⟨⟨⟩, -, rfl, rfl⟩
  refine .g (.eqp rfl rfl) (.p (.t rfl rfl) (.p (.m rfl) (.g (.m rfl) ?_)))
  refine .dg rfl rfl rfl (Does.callE rfl call19 rfl lib_SpaceN .auto) ?_
  rintro _ _ ⟨⟨⟩, -, rfl, rfl⟩
  refine .g (.eqp rfl rfl) (.p (.t rfl rfl) (.p (.a rfl) (.n (.t (.e (.ret1 rfl rfl fun w s => ⟨(), ?_, trivial, finE .auto s⟩))))))
  rfl

theorem eqEv {a b : Ev} : EqV Tryz.prog 49 2 (.agg (evE a).toArray) (.agg (evE b).toArray) (decide (a = b)) := fun d w => by
  have hs : Tryz.prog.stoodInHeld 49 = false := by kernel_rfl
  have one : ∀ (r : Ev) (t : TypeId) (i : Nat) (v : Value), (∀ w, (isAgg t).run Tryz.prog w = .ok false w) → (evE r)[i]? = some v → Part Tryz.prog t (evE r).toArray i v := fun r t i v ha hv => Part.one ha (by rw [List.getElem?_toArray]; exact hv)
  refine (run_eq_struct2 underlying49 hs (d + 1) _ _ w).trans ?_
  show (Op.eqFields (d + 1) _ _ [_, _, _]).run Tryz.prog w = _
  have pa0 : Part Tryz.prog 3 (evE a).toArray 0 (.int .i64 a.kind) := one a _ 0 _ isAgg3 rfl
  have pb0 : Part Tryz.prog 3 (evE b).toArray 0 (.int .i64 b.kind) := one b _ 0 _ isAgg3 rfl
  refine Eq.trans (eqFields_cons (a := .int .i64 a.kind) (b := .int .i64 b.kind) (r := decide (a.kind = b.kind)) ?_ ?_ ?_ ?_) ?_
  · decide +kernel
  · exact pa0
  · exact pb0
  · exact (EqV.int underlying3 d w)
  by_cases h0 : a.kind = b.kind
  rotate_left
  · rw [decide_eq_false h0, decide_eq_false (fun e => h0 (by rw [e])), if_neg (by simp)]
  rw [decide_eq_true h0, if_pos rfl]
  have pa1 : Part Tryz.prog 3 (evE a).toArray 1 (.int .i64 a.thread) := one a _ 1 _ isAgg3 rfl
  have pb1 : Part Tryz.prog 3 (evE b).toArray 1 (.int .i64 b.thread) := one b _ 1 _ isAgg3 rfl
  refine Eq.trans (eqFields_cons (a := .int .i64 a.thread) (b := .int .i64 b.thread) (r := decide (a.thread = b.thread)) ?_ ?_ ?_ ?_) ?_
  · decide +kernel
  · exact pa1
  · exact pb1
  · exact (EqV.int underlying3 d w)
  by_cases h1 : a.thread = b.thread
  rotate_left
  · rw [decide_eq_false h1, decide_eq_false (fun e => h1 (by rw [e])), if_neg (by simp)]
  rw [decide_eq_true h1, if_pos rfl]
  have pa2 : Part Tryz.prog 3 (evE a).toArray 2 (.int .i64 a.mode) := one a _ 2 _ isAgg3 rfl
  have pb2 : Part Tryz.prog 3 (evE b).toArray 2 (.int .i64 b.mode) := one b _ 2 _ isAgg3 rfl
  refine Eq.trans (eqFields_cons (a := .int .i64 a.mode) (b := .int .i64 b.mode) (r := decide (a.mode = b.mode)) ?_ ?_ ?_ ?_) ?_
  · decide +kernel
  · exact pa2
  · exact pb2
  · exact (EqV.int underlying3 d w)
  by_cases h2 : a.mode = b.mode
  rotate_left
  · rw [decide_eq_false h2, decide_eq_false (fun e => h2 (by rw [e])), if_neg (by simp)]
  rw [decide_eq_true h2, if_pos rfl]
  have e : a = b := by
    obtain ⟨a0, a1, a2⟩ := a
    obtain ⟨b0, b1, b2⟩ := b
    simp only at h0 h1 h2
    subst h0 h1 h2
    rfl
  rw [decide_eq_true e]
  simp [Op.eqFields]

theorem ref_Events {W : World} {A : HProp} {v u : Value} {xs ys : List Ev} (hv : Rd W [A] evE 3 v xs) (hu : Rd W [A] evE 3 u ys) (hl : xs.length ≤ 1000000000) : Fn Tryz.prog W 13 [v, u] [A] Unit (fun _ => .bool (decide (xs = ys))) (fun _ => True) (fun _ => [A]) := by
  refine Fn.intro (N := 26) func13 rfl ntmps13 rfl fun F => ?_
  haveI hRI : ∀ (H : List HProp) [HasH H A], ReadsC W H v evE 3 xs := fun H h => ⟨hv.at h.has⟩
  haveI hRJ : ∀ (H : List HProp) [HasH H A], ReadsC W H u evE 3 ys := fun H h => ⟨hu.at h.has⟩
  show GoC _ _ _ _ _ _ [A, F]
  refine .s (.r (.p (.a rfl) (.n (.t (.s (.s (.r (.p (.m rfl) (.p (.len rfl) (.p (.m rfl) (.p (.len rfl) (.p (.neq rfl rfl) (.n (.t (.condD rfl (fun h10 => ?_) (fun h10 => ?_))))))))))))))))
  · refine .s (.r (.p (.a rfl) (.n (.t (.e (.tr (.ret1 rfl rfl fun w s => ⟨(), ?_, trivial, finE .auto s⟩)))))))
    rw [decide_eq_false (fun e => h10 (by rw [e]))]
  · refine .v (.t (.s (.s (.r (.p (.a rfl) (.n (.t (.b ?_))))))))
    refine .loopK (X := Nat) [4, 5, 11, 12, 13, 14, 15, 16, 17, 18, 19, 20, 21, 22, 23, 24, 25] (fun k => xs.length - k) (fun k => k ≤ xs.length ∧ xs.take k = ys.take k) (fun k => [(5, some (.int .i64 (k : Int)))]) (fun k => [A, F]) 0 ?_ ?_ ?_ ?_
    · exact ⟨Nat.zero_le _, rfl⟩
    · exact ⟨rfl, trivial⟩
    · exact fun w s => Ent.kept .auto w s
    rintro k ⟨hk, hn⟩
    refine .s (.s (.r (.p (.m rfl) (.p (.m rfl) (.p (.len rfl) (.p (.lss rfl rfl) (.n (.t (.condD rfl (fun h14 => ?_) (fun h14 => ?_))))))))))
    · refine .v (.t (.s (.b (.s ?_))))
      refine .draw [] [1, 1, 1, 1, 1, 1, 1, 1, 1] rfl (by kernel_rfl) ?_
      obtain ⟨x, hx⟩ := at_some (show k < xs.length by omega)
      obtain ⟨y, hy⟩ := at_some (show k < ys.length by omega)
      refine .p (.m rfl) (.p (.m rfl) ?_)
      refine .p (.ix _ rfl rfl rfl (by first | omega | decide)) ?_
      refine .p (.la rfl (Cells.rd Rd.s hx)) ?_
      refine .p (.m rfl) (.p (.m rfl) ?_)
      refine .p (.ix _ rfl rfl rfl (by first | omega | decide)) ?_
      refine .p (.la rfl (Cells.rd Rd.s hy)) ?_
      refine .p (.neqAgg (by kernel_rfl) eqEv rfl rfl rfl) ?_
      refine .n (.t (.cond rfl (fun h25 => ?_) (fun h25 => ?_)))
      · have h25 : x ≠ y := by simpa using h25
        refine .s (.r (.p (.a rfl) (.n (.t (.e (.br (.tr (.tr (.br (.tr (.ret1 rfl rfl fun w s => ⟨(), ?_, trivial, finE .auto s⟩)))))))))))
        rw [decide_eq_false (fun e => h25 (by rw [e] at hx; exact Option.some.inj (hx.symm.trans hy)))]
      · have h25 : ¬ x ≠ y := by simpa using h25
        refine .v (.b (.t (.r (.p (.m rfl) ?_))))
        refine .p (.inc rfl rfl (by omega)) ?_
        refine .p (.a rfl) (.n ?_)
        refine .againK (k + 1) .auto rfl ?_ ?_ ?_ ?_
        · first | omega | (dsimp only; omega)
        · exact ⟨by omega, by rw [take_snoc hx, take_snoc hy, hn, Decidable.of_not_not h25]⟩
        · exact ⟨rfl, trivial⟩
        · exact fun w s => Ent.kept .auto w s
    · refine .x (.tx (.tx (.bh (.t (.s (.r (.p (.a rfl) (.n (.t (.e ?_))))))))))
      obtain rfl : k = xs.length := by omega
      rw [List.take_length, List.take_of_length_le (by omega)] at hn
      refine .ret1 rfl rfl fun w s => ⟨(), ?_, trivial, finE .auto s⟩
      rw [decide_eq_true hn]

end Go.SLYtnceicnimongcaaGreat
namespace Go.SLYtnceicnimongcaaGreat
open Go Go.RowKit

theorem Y.valB {P : Program} {W : World} {N : Nat} {L : List (Nat × Option Value)} {H : List HProp} {T : TypeId} {op : Op} {m n : Bool} (h : Y P W N op T L H (.bool m)) (e : m = n) : Y P W N op T L H (.bool n) := e ▸ h
theorem PrgRd.at {W : World} {H : List HProp} {A : HProp} {v : PrgV} (h : PrgRd W [A] v) (ha : At H A) : PrgRd W H v := ⟨h.fs.at ha, fun x hx => (h.ins x hx).at ha, h.sems.at ha, h.pipes.at ha⟩
theorem PrgRd.grp {W : World} {H : List HProp} {v : PrgV} (h : PrgRd W H v) : PrgRd W [seps H] v := ⟨Rd.grp h.fs, fun x hx => Rd.grp (h.ins x hx), Rd.grp h.sems, Rd.grp h.pipes⟩
/-! the laws' own fact -/
def L24 : List Acm := [⟨1, 1, 0, 3⟩, ⟨3, 5, 0, 0⟩, ⟨1, 0, 0, 0⟩]
def M24 : List Acm := [⟨1, 0, 0, 3⟩, ⟨3, 0, 0, 0⟩]
def K24 : List Acm := [⟨1, 1, 0, 0⟩]
def A24 (x y z w : Nat) : HProp := seps [A11 x y z, arr w 0 (rows actE K24)]
end Go.SLYtnceicnimongcaaGreat
namespace Go.SLYtnceicnimongcaaGreat
open Go Go.RowKit

def begins (v : Vsl) (w : Bool) : Bool := (decide (v.mode = 1) && !w) || decide (v.mode = 3) || decide (v.mode = 6)
theorem begins_any {v : Vsl} (h : begins v (v.evs.any inS) = true) : v.mode = 1 ∧ (∀ e ∈ v.evs, ¬ 0 < e.mode) ∨ v.mode = 3 ∨ v.mode = 6 := by
  unfold begins at h
  simp only [Bool.or_eq_true, Bool.and_eq_true, decide_eq_true_eq, Bool.not_eq_true'] at h
  rcases h with (⟨h1, h2⟩ | h) | h
  · exact .inl ⟨h1, fun e he => by
      have := List.any_eq_false.1 h2 e he
      unfold inS at this; simpa using this⟩
  · exact .inr (.inl h)
  · exact .inr (.inr h)
theorem spins {l : Lib} {p : Int} (hh : l.has p = true) (hl : l.locked = true) (hb : begins (lookV l p) ((lookV l p).evs.any inS) = true) (c : Int) : l.step p c = (Did.z, 0, l) := by
  obtain ⟨i, v, rfl, hv, e⟩ := look_has hh
  rw [e] at hb
  exact step_spins hv hl (begins_any hb) c
theorem any_snoc2 {l : List Ev} {k : Nat} {e : Ev} (h : l[k]? = some e) : (l.take (k + 1)).any inS = ((l.take k).any inS || inS e) := by rw [take_snoc h, List.any_append]; simp
end Go.SLYtnceicnimongcaaGreat
namespace Go.SLYtnceicnimongcaaGreat
open Go Go.RowKit Go.Proofs Go.Proofs.Tryz

theorem law16_Spins {W : World} {A : HProp} {v : PrgV} {u : Value} {acts : List Wha} {np nq : Int} (hp : PrgRd W [A] v) (hl : v.fs.length ≤ 1000000000 ∧ v.sems.length ≤ 1000000000 ∧ v.pipes.length ≤ 1000000000) (hw : ∀ f ∈ v.p.funcs, ∀ i ∈ f, W64 i.n) (hr : Rd W [A] whaE 3 u acts) (_hal : acts.length ≤ 1000000000) (hnp : 0 ≤ np ∧ np ≤ 255) (hnq : 0 ≤ nq ∧ nq ≤ 255) : Fn Tryz.prog W 3 [.agg (prgE v).toArray, .int .u8 np, u, .int .u8 nq] [A] Unit (fun _ => .bool true) (fun _ => True) (fun _ => [A]) := by
  refine Fn.intro (N := 187) func3 rfl ntmps3 rfl fun F => ?_
  haveI hRI : ∀ (H : List HProp) [HasH H A], ReadsC W H u whaE 3 acts := fun H h => ⟨hr.at h.has⟩
  show GoC _ _ _ _ _ _ [A, F]
  refine .s (.r ?_)
  refine .does rfl (Does.box rfl rfl rfl) ?_
  rintro _ _ ⟨b4, rfl, rfl⟩
  refine .mem (H' := [arr b4 0 (prgE v), A, F]) (fun w s => s) ?_
  refine .p (.a rfl) (.n (.t (.s (.r (.p (.lA rfl) ?_)))))
  refine .does rfl (Does.callE rfl call5 rfl (core_New hp hl) .auto) ?_
  rintro _ _ ⟨o, ho, rfl, rfl⟩
  refine .p (.m rfl) (.p (.extract rfl rfl) (.p (.extract rfl rfl) (.p (.a rfl) (.p (.a rfl) (.n (.t (.s (.s (.r (.p (.m rfl) (.p (.neq rfl rfl) (.n (.t (.condD rfl (fun h30 => ?_) (fun h30 => ?_)))))))))))))))
  · refine .s (.r ?_)
    refine .does rfl (Does.callE rfl call6 rfl law16_awake .auto) ?_
    rintro _ _ ⟨⟨⟩, -, rfl, rfl⟩
    refine .p (.a rfl) (.n (.t (.e (.tr (.ret1 rfl rfl fun w s => ⟨(), ?_, trivial, finE .auto s⟩)))))
    rfl
  · have hc : checkI v.p = 0 := Decidable.not_not.mp h30
    obtain ⟨ka, rfl⟩ := Option.isSome_iff_exists.1 (ho.trans (decide_eq_true hc))
    refine .fr (A := optH (fun b => spcH b (Spc.new v.p)) (some ka)) (Bs := [spcH ka (Spc.new v.p)]) .auto opt_some ?_
    refine .o1 (C := spcH ka (Spc.new v.p)) .auto rfl ?_
    rintro pt -
    have hok : Okr 1 (Spc.new v.p) := Okr.new ⟨hc, hw⟩
    obtain ⟨mk, hmkd⟩ : ∃ mk, mk = np.toNat % 6 := ⟨_, rfl⟩
    have hmk6 : mk < 6 := by rw [hmkd]; exact Nat.mod_lt _ (by decide)
    have hmk : np.tmod 6 = (mk : Int) := by
      obtain ⟨m, rfl⟩ : ∃ m : Nat, np = (m : Int) := ⟨np.toNat, by omega⟩
      rw [hmkd, Int.toNat_natCast]; exact (Int.ofNat_tmod m 6).symm
    have hI0 := LInv.new hok ((mk : Int) + 1)
    have hvl0 : (Lib.new (Spc.new v.p) ((mk : Int) + 1)).vs.length = mk + 1 := by
      show (List.replicate _ _).length = _; rw [List.length_replicate]; unfold clamp; omega
    refine .v (.t (.s (.r (.p (.m rfl) ?_))))
    refine .p (.valW (Y.rem rfl rfl (by omega)) hmk) ?_
    refine .p (.convI underlying5 underlying3 rfl (by omega)) ?_
    refine .p (.add rfl rfl (by omega)) ?_
    refine .p (.a rfl) (.n (.t (.s (.r (.p (.m rfl) (.p (.m rfl) ?_))))))
    refine .does rfl (Does.callE rfl call7 rfl (lib_New (bs := ka) (ps := pt) (s := Spc.new v.p) (p := (mk : Int) + 1) (new_thr _)) .auto) ?_
    rintro _ _ ⟨b38, -, rfl, rfl⟩
    refine .o2 (C := libH b38 (Lib.new (Spc.new v.p) ((mk : Int) + 1))) .auto rfl ?_
    rintro bs br -
    refine .p (.a rfl) (.n (.t (.s (.s (.r (.p (.a rfl) (.n (.t (.b ?_)))))))))
    refine .loopK (X := Nat × Lib) [13, 39, 40, 41, 42, 43, 44, 45, 46, 47, 48, 49, 50, 51, 52, 53, 54, 55, 56, 57, 58, 59, 60, 61, 62, 63, 64, 65, 66, 67, 68, 69, 70, 71, 72, 73, 74, 75, 76, 77, 78, 79, 80, 81, 82, 83] (fun z => acts.length - z.1) (fun z => z.1 ≤ acts.length ∧ z.1 ≤ 100 ∧ LInv z.1 z.2 ∧ z.2.vs.length = mk + 1) (fun z => [(13, some (.int .i64 (z.1 : Int)))]) (fun z => [libX b38 bs br z.2, A, F]) (0, Lib.new (Spc.new v.p) ((mk : Int) + 1)) ?_ ?_ ?_ ?_
    · exact ⟨Nat.zero_le _, Nat.zero_le _, hI0, hvl0⟩
    · exact ⟨rfl, trivial⟩
    · exact fun w s => Ent.kept .auto w s
    rintro ⟨k, l⟩ ⟨hk, hk2, hI, hvl⟩
    simp only at hk hk2 hI hvl
    refine .s (.s (.r (.p (.m rfl) (.p (.m rfl) (.p (.len rfl) (.p (.lss rfl rfl) (.p (.m rfl) ?_)))))))
    apply GoL.segAD 3 46 43 [43, 44, 45, 46] rfl
    · intro h43
      refine .g (.m rfl) (.g (.lss rfl rfl) (.p (.t rfl rfl) (.n ?_)))
      refine .seg .auto rfl (by first | exact fun _ h => h | exact Ent.kept .auto)
    · intro h43
      refine .u (.u (.p (.u rfl rfl) (.n ?_)))
      refine .seg .auto rfl (by first | exact fun _ h => h | exact Ent.kept .auto)
    refine .n (.t (.cond rfl (fun h46 => ?_) (fun h46 => ?_)))
    · simp only [Bool.and_eq_true, decide_eq_true_eq] at h46
      refine .v (.t (.s (.b (.s (.r ?_)))))
      obtain ⟨x, hx⟩ := at_some (show k < acts.length by omega)
      have hz := hI.sz (show k ≤ 180 by omega)
      refine .p (.m rfl) (.p (.m rfl) ?_)
      refine .p (.ix k rfl rfl rfl (by omega)) ?_
      refine .p (.z rfl) ?_
      refine .p (.lr rfl hx) ?_
      refine .n (.t (.b (.s (.r (.p (.eql rfl rfl) (.p (.a rfl) (.n (.t (.condD rfl (fun h67 => ?_) (fun h67 => ?_))))))))))
      · refine .r (.p (.m rfl) (.p (.m rfl) (.p (.m rfl) ?_)))
        refine .p (.ix k rfl rfl rfl (by omega)) ?_
        refine .p (.o rfl) ?_
        refine .p (.ld rfl (Cell.rd (c := 1) Rd.s hx rfl)) ?_
        refine .does rfl (Does.callE rfl call8 rfl (lib_Grant (l := l) (p := x.slot) (Nat.le_trans hz.wt (by decide))) .auto) ?_
        rintro _ _ ⟨⟨⟩, -, rfl, rfl⟩
        refine .n (.b (.b (.t (.r (.p (.m rfl) ?_)))))
        refine .p (.inc rfl rfl (by omega)) ?_
        refine .p (.a rfl) (.n ?_)
        refine .againK (k + 1, (l.grant x.slot).2) .auto rfl ?_ ?_ ?_ ?_
        · show acts.length - (k + 1) < acts.length - k; omega
        · exact ⟨by show k + 1 ≤ _; omega, by show k + 1 ≤ 100; omega, hI.grant _, (grant_grow l _).vs.trans hvl⟩
        · exact ⟨rfl, trivial⟩
        · exact fun w s => Ent.kept .auto w s
      · refine .s (.r (.p (.eql rfl rfl) (.p (.a rfl) (.n (.t (.condD rfl (fun h76 => ?_) (fun h76 => ?_)))))))
        · refine .r (.p (.m rfl) (.p (.m rfl) (.p (.m rfl) ?_)))
          refine .p (.ix k rfl rfl rfl (by omega)) ?_
          refine .p (.o rfl) ?_
          refine .p (.ld rfl (Cell.rd (c := 1) Rd.s hx rfl)) ?_
          refine .does rfl (Does.callE rfl call9 rfl (lib_Preempt (l := l) (p := x.slot) hz) .auto) ?_
          rintro _ _ ⟨⟨⟩, -, rfl, rfl⟩
          refine .n (.b (.b (.t (.r (.p (.m rfl) ?_)))))
          refine .p (.inc rfl rfl (by omega)) ?_
          refine .p (.a rfl) (.n ?_)
          refine .againK (k + 1, (l.preempt x.slot).2) .auto rfl ?_ ?_ ?_ ?_
          · show acts.length - (k + 1) < acts.length - k; omega
          · exact ⟨by show k + 1 ≤ _; omega, by show k + 1 ≤ 100; omega, hI.preempt _, (preempt_grow l _).vs.trans hvl⟩
          · exact ⟨rfl, trivial⟩
          · exact fun w s => Ent.kept .auto w s
        · refine .draw [] [1, 1, 1, 1, 1, 1, 1, 1, 1, 1, 1, 3] rfl (by kernel_rfl) ?_
          refine .p (.m rfl) (.p (.m rfl) (.p (.m rfl) ?_))
          refine .p (.ix k rfl rfl rfl (by omega)) ?_
          refine .p (.o rfl) ?_
          refine .p (.ld rfl (Cell.rd (c := 1) Rd.s hx rfl)) ?_
          refine .p (.m rfl) (.p (.m rfl) ?_)
          refine .p (.ix k rfl rfl rfl (by omega)) ?_
          refine .p (.o rfl) ?_
          refine .p (.ld rfl (Cell.rd (c := 2) Rd.s hx rfl)) ?_
          refine .d3 rfl (Does.callE rfl call10 rfl (lib_Step (l := l) (p := x.slot) (c := x.choice) hz (fun t => hI.wok (by omega) t _)) .auto) ?_
          rintro _ _ ⟨u65, -, rfl, rfl⟩
          refine .n (.b (.b (.t (.r (.p (.m rfl) ?_)))))
          refine .p (.inc rfl rfl (by omega)) ?_
          refine .p (.a rfl) (.n ?_)
          refine .againK (k + 1, (l.step x.slot x.choice).2.2) .auto rfl ?_ ?_ ?_ ?_
          · show acts.length - (k + 1) < acts.length - k; omega
          · exact ⟨by show k + 1 ≤ _; omega, by show k + 1 ≤ 100; omega, hI.step (by omega) _ _, (step_grow (hI.wok (by omega)) _ _).vs.trans hvl⟩
          · exact ⟨rfl, trivial⟩
          · exact fun w s => Ent.kept .auto w s
    · simp only [Bool.and_eq_false_iff, decide_eq_false_iff_not] at h46
      have hz := hI.sz (show k ≤ 180 by omega)
      obtain ⟨q, hqd⟩ : ∃ q, q = nq.toNat % (mk + 1) := ⟨_, rfl⟩
      have hql : q < mk + 1 := by rw [hqd]; exact Nat.mod_lt _ (by omega)
      have hqk : nq.tmod ((mk : Int) + 1) = (q : Int) := by
        obtain ⟨m, rfl⟩ : ∃ m : Nat, nq = (m : Int) := ⟨nq.toNat, by omega⟩
        rw [hqd, Int.toNat_natCast]; exact (Int.ofNat_tmod m (mk + 1)).symm
      have hel : (lookV l (q : Int)).evs.length ≤ 1000000 := by
        unfold lookV
        split
        · rename_i hh
          obtain ⟨i, w, e, hv, -⟩ := has_at hh
          rw [e, Int.toNat_natCast, getD_of hv]; exact hz.ev w (List.mem_of_getElem? hv)
        · exact Nat.zero_le _
      refine .x (.tx (.tx (.bh (.t (.s (.r (.p (.m rfl) ?_)))))))
      refine .p (.convI underlying5 underlying3 rfl (by omega)) ?_
      refine .p (.m rfl) ?_
      refine .p (.valW (Y.rem rfl rfl (by omega)) hqk) ?_
      refine .p (.a rfl) (.n (.t (.s (.r (.p (.m rfl) (.p (.m rfl) ?_))))))
      refine .does rfl (Does.callE rfl call11 rfl (lib_Look (l := l) (p := (q : Int)) (fun z hz2 => Nat.le_trans (hz.ev z hz2) (by decide))) .auto) ?_
      rintro _ _ ⟨u91, -, rfl, rfl⟩
      refine .know (fun w s => Rd.isSl (Rd.sl .auto) w s) fun hu91 => ?_
      refine .p (.m rfl) ?_
      refine .p (.extract (v := .agg (vslE (u91, (lookV l (q : Int)))).toArray) rfl rfl) ?_
      refine .p (.extract (v := .bool (l.has (q : Int))) rfl rfl) ?_
      refine .does rfl (Does.alloc rfl zeroValue45 rfl) ?_
      rintro _ _ ⟨b15, rfl, rfl⟩
      refine .does rfl (Does.sta (vs := vslE (u91, (lookV l (q : Int)))) (by exact sizeOf45) rfl rfl (vsl_one hu91) (by rfl)) ?_
      rintro _ _ ⟨rfl, rfl⟩
      refine .p (.a rfl) (.n (.t (.s (.r (.p (.a rfl) (.n (.t (.s (.s (.r (.p (.a rfl) (.n (.t (.b ?_))))))))))))))
      refine .loopK (X := Nat) [17, 18, 94, 95, 96, 97, 98, 99, 100, 101, 102, 103, 104, 105, 106, 107, 108, 109, 110] (fun j => (lookV l (q : Int)).evs.length - j) (fun j => j ≤ (lookV l (q : Int)).evs.length) (fun j => [(18, some (.int .i64 (j : Int))), (17, some (.bool (((lookV l (q : Int)).evs.take j).any inS)))]) (fun j => [arr b15 0 (vslE (u91, (lookV l (q : Int)))), sl evE 3 u91 (lookV l (q : Int)).evs, libX b38 bs br l, A, F]) 0 ?_ ?_ ?_ ?_
      · exact Nat.zero_le _
      · exact ⟨rfl, rfl, trivial⟩
      · exact fun w s => Ent.kept .auto w s
      rintro j hj
      refine .s (.s (.r (.p (.m rfl) (.p (.f rfl) (.p (.l rfl) (.p (.len rfl) (.p (.lss rfl rfl) (.n (.t (.condD rfl (fun h98 => ?_) (fun h98 => ?_)))))))))))
      · obtain ⟨e, he⟩ := at_some (show j < (lookV l (q : Int)).evs.length by omega)
        refine .v (.t (.s (.b (.r (.p (.m rfl) (.p (.m rfl) ?_))))))
        apply GoL.segO 8 110 102 [102, 103, 104, 105, 106, 107, 108, 109, 110] rfl
        · intro h102
          refine .g (.f rfl) (.g (.l rfl) (.g (.m rfl) ?_))
          refine .g (.ix j rfl rfl rfl (by omega)) ?_
          refine .g (.o rfl) ?_
          refine .g (.ld rfl (Cell.rd (c := 2) Rd.s he rfl)) ?_
          refine .g (.gtr rfl rfl) (.p (.u rfl rfl) (.n ?_))
          refine .seg .auto rfl (by first | exact fun _ h => h | exact Ent.kept .auto)
        · intro h102
          refine .u (.u (.u (.u (.u (.u (.u (.p (.t rfl rfl) (.n ?_))))))))
          refine .seg .auto rfl (by first | exact fun _ h => h | exact Ent.kept .auto)
        refine .p (.a rfl) (.n (.b (.t (.r (.p (.m rfl) ?_)))))
        refine .p (.inc rfl rfl (by omega)) ?_
        refine .p (.a rfl) (.n ?_)
        refine .againK (j + 1) .auto rfl ?_ ?_ ?_ ?_
        · omega
        · show j + 1 ≤ _; omega
        · refine ⟨rfl, ?_, trivial⟩
          rw [any_snoc2 he]; rfl
        · exact fun w s => Ent.kept .auto w s
      · obtain rfl : j = (lookV l (q : Int)).evs.length := by omega
        rw [List.take_length]
        refine .x (.tx (.tx (.bh (.t (.s (.r (.p (.z rfl) (.p (.l rfl) (.p (.eql rfl rfl) (.p (.m rfl) ?_))))))))))
        apply GoL.segAD 3 117 114 [114, 115, 116, 117] rfl
        · intro h114
          refine .g (.m rfl) (.g (.not rfl) (.p (.t rfl rfl) (.n ?_)))
          refine .seg .auto rfl (by first | exact fun _ h => h | exact Ent.kept .auto)
        · intro h114
          refine .u (.u (.p (.u rfl rfl) (.n ?_)))
          refine .seg .auto rfl (by first | exact fun _ h => h | exact Ent.kept .auto)
        refine .p (.m rfl) ?_
        apply GoL.segO 4 122 118 [118, 119, 120, 121, 122] rfl
        · intro h118
          refine .g (.z rfl) (.g (.l rfl) (.g (.eql rfl rfl) (.p (.u rfl rfl) (.n ?_))))
          refine .seg .auto rfl (by first | exact fun _ h => h | exact Ent.kept .auto)
        · intro h118
          refine .u (.u (.u (.p (.t rfl rfl) (.n ?_))))
          refine .seg .auto rfl (by first | exact fun _ h => h | exact Ent.kept .auto)
        refine .p (.m rfl) ?_
        apply GoL.segO 4 127 123 [123, 124, 125, 126, 127] rfl
        · intro h123
          refine .g (.z rfl) (.g (.l rfl) (.g (.eql rfl rfl) (.p (.u rfl rfl) (.n ?_))))
          refine .seg .auto rfl (by first | exact fun _ h => h | exact Ent.kept .auto)
        · intro h123
          refine .u (.u (.u (.p (.t rfl rfl) (.n ?_))))
          refine .seg .auto rfl (by first | exact fun _ h => h | exact Ent.kept .auto)
        refine .p (.a rfl) (.n (.t (.s (.s (.r (.p (.m rfl) (.p (.not rfl) (.p (.m rfl) ?_))))))))
        apply GoL.segO 4 134 130 [130, 131, 132, 133, 134] rfl
        · intro h130
          refine .g (.m rfl) ?_
          refine .dg rfl rfl rfl (Does.callE rfl call12 rfl lib_Locked .auto) ?_
          rintro _ _ ⟨⟨⟩, -, rfl, rfl⟩
          refine .g (.not rfl) (.p (.u rfl rfl) (.n ?_))
          refine .seg .auto rfl (by first | exact fun _ h => h | exact Ent.kept .auto)
        · intro h130
          refine .u (.u (.u (.p (.t rfl rfl) (.n ?_))))
          refine .seg .auto rfl (by first | exact fun _ h => h | exact Ent.kept .auto)
        refine .p (.m rfl) ?_
        apply GoL.segO 3 138 135 [135, 136, 137, 138] rfl
        · intro h135
          refine .g (.m rfl) (.g (.not rfl) (.p (.u rfl rfl) (.n ?_)))
          refine .seg .auto rfl (by first | exact fun _ h => h | exact Ent.kept .auto)
        · intro h135
          refine .u (.u (.p (.t rfl rfl) (.n ?_)))
          refine .seg .auto rfl (by first | exact fun _ h => h | exact Ent.kept .auto)
        refine .n (.t (.cond rfl (fun h138 => ?_) (fun h138 => ?_)))
        · refine .s (.r ?_)
          refine .does rfl (Does.callE rfl call6 rfl law16_awake .auto) ?_
          rintro _ _ ⟨⟨⟩, -, rfl, rfl⟩
          refine .p (.a rfl) (.n (.t (.e (.tr (.ret1 rfl rfl fun w s => ⟨(), ?_, trivial, finE .auto s⟩)))))
          rfl
        · have hall : l.has (q : Int) = true ∧ l.locked = true ∧ begins (lookV l (q : Int)) ((lookV l (q : Int)).evs.any inS) = true := by
            unfold begins
            simp only [Bool.or_eq_false_iff, Bool.not_eq_false'] at h138
            exact ⟨h138.1.1, h138.1.2, h138.2⟩
          have hsp := spins hall.1 hall.2.1 hall.2.2 0
          refine .v (.t (.s (.r (.p (.m rfl) (.p (.m rfl) ?_)))))
          refine .does rfl (Does.callE rfl call10 rfl (lib_Step (l := l) (p := (q : Int)) (c := 0) hz (fun t => hI.wok (by omega) t _)) .auto) ?_
          rintro _ _ ⟨u143, -, rfl, rfl⟩
          refine .know (fun w s => Rd.isSl (Rd.sl .auto) w s) fun hu143 => ?_
          rw [hsp]
          refine .p (.m rfl) ?_
          refine .p (.extract (v := .agg (didE u143 Did.z).toArray) rfl rfl) ?_
          refine .p (.extract (v := .int .i64 0) rfl rfl) ?_
          refine .does rfl (Does.alloc rfl zeroValue40 rfl) ?_
          rintro _ _ ⟨b20, rfl, rfl⟩
          refine .does rfl (Does.sta (vs := didE u143 Did.z) (by exact sizeOf40) rfl rfl (did_one hu143) (by rfl)) ?_
          rintro _ _ ⟨rfl, rfl⟩
          refine .p (.a rfl) (.n (.t (.s (.r (.p (.m rfl) (.p (.m rfl) ?_))))))
          refine .does rfl (Does.callE rfl call11 rfl (lib_Look (l := l) (p := (q : Int)) (fun z hz2 => Nat.le_trans (hz.ev z hz2) (by decide))) .auto) ?_
          rintro _ _ ⟨u149, -, rfl, rfl⟩
          refine .know (fun w s => Rd.isSl (Rd.sl .auto) w s) fun hu149 => ?_
          refine .p (.m rfl) ?_
          refine .p (.extract (v := .agg (vslE (u149, (lookV l (q : Int)))).toArray) rfl rfl) ?_
          refine .p (.extract rfl rfl) ?_
          refine .does rfl (Does.alloc rfl zeroValue45 rfl) ?_
          rintro _ _ ⟨b22, rfl, rfl⟩
          refine .does rfl (Does.sta (vs := vslE (u149, (lookV l (q : Int)))) (by exact sizeOf45) rfl rfl (vsl_one hu149) (by rfl)) ?_
          rintro _ _ ⟨rfl, rfl⟩
          refine .p (.a rfl) (.n (.t (.s (.r ?_))))
          refine .does rfl (Does.callE rfl call6 rfl law16_awake .auto) ?_
          rintro _ _ ⟨⟨⟩, -, rfl, rfl⟩
          refine .p (.m rfl) (.g (.m rfl) (.g (.eql rfl rfl) (.p (.t rfl rfl) (.p (.m rfl) (.g (.z rfl) (.g (.l rfl) (.g (.not rfl) (.p (.t rfl rfl) (.p (.m rfl) (.g (.m rfl) ?_))))))))))
          refine .dg rfl rfl rfl (Does.callE rfl call12 rfl lib_Locked .auto) ?_
          rintro _ _ ⟨⟨⟩, -, rfl, rfl⟩
          rw [hall.2.1]
          refine .p (.t rfl rfl) (.p (.m rfl) (.g (.z rfl) (.g (.l rfl) (.g (.z rfl) (.g (.l rfl) ?_)))))
          refine .g (.valB (Y.eql rfl rfl) (decide_eq_true rfl)) ?_
          refine .p (.t rfl rfl) (.p (.m rfl) (.g (.f rfl) (.g (.l rfl) (.g (.f rfl) (.g (.l rfl) ?_)))))
          refine .g (.valB (Y.eql rfl rfl) (decide_eq_true rfl)) ?_
          refine .p (.t rfl rfl) (.p (.m rfl) (.g (.f rfl) (.g (.l rfl) (.g (.f rfl) (.g (.l rfl) ?_)))))
          refine .dg rfl rfl rfl (Does.callE rfl call13 rfl (ref_Events (A := seps [sl evE 3 u91 (lookV l (q : Int)).evs, sl evE 3 u149 (lookV l (q : Int)).evs]) (Rd.grp (Rd.sl .here)) (Rd.grp (Rd.sl (.there .here))) (Nat.le_trans hel (by decide))) .auto) ?_
          rintro _ _ ⟨⟨⟩, -, rfl, rfl⟩
          rw [decide_eq_true (rfl : (lookV l (q : Int)).evs = (lookV l (q : Int)).evs)]
          refine .p (.t rfl rfl) (.p (.a rfl) (.n (.t (.e (.ret1 rfl rfl fun w s => ⟨(), ?_, trivial, finE .auto s⟩)))))
          rfl

end Go.SLYtnceicnimongcaaGreat
