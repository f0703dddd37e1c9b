/- Walks of functions, and what they compute. Conditions: none, this text proves no statement. -/
import Derived.Test.YtnceicnimongcaaGreatG05
import Derived.Test.YtnceicnimongcaaGreatProg
import Derived.Test.YtnceicnimongcaaGreatG06
import Derived.Test.YtnceicnimongcaaGreatG03
import Derived.KernelRfl
set_option maxRecDepth 20000
namespace Go.SLYtnceicnimongcaaGreat
open Go Go.RowKit Go.Proofs Go.Proofs.Tryz

theorem ready_New {W : World} {p : Int} : Fn Tryz.prog W 30 [.int .i64 p] [] Nat (fun b => ptr b) (fun _ => True) (fun b => [rwsH b (List.replicate (clamp p 64).toNat [])]) := by
  refine Fn.intro (N := 23) func30 rfl ntmps30 rfl fun F => ?_
  show GoC _ _ _ _ _ _ [F]
  have hc : 0 ≤ clamp p 64 ∧ clamp p 64 ≤ 64 := by unfold clamp; omega
  refine .s (.r (.p (.a rfl) (.n (.t (.s (.r ?_))))))
  refine .p (.bld0 ([(.slice none 0 0)]) (by kernel_rfl)) ?_
  refine .does rfl (Does.box rfl rfl rfl) ?_
  rintro _ _ ⟨b5, rfl, rfl⟩
  refine .p (.a rfl) (.n (.t (.s (.s (.r (.p (.m rfl) ?_))))))
  refine .p (.max2m rfl rfl) ?_
  refine .p (.valW (Y.min2m rfl rfl) (show min (max p 0) 64 = clamp p 64 from rfl)) ?_
  refine .p (.m rfl) (.n (.t (.b ?_)))
  refine .loopK (X := Nat × Value × List (Nat × List Int)) [9, 10, 11, 12, 13, 14, 15, 16, 17, 18, 19, 20, 21] (fun z => (clamp p 64).toNat - z.1) (fun z => z.1 ≤ (clamp p 64).toNat ∧ z.2.2.length = z.1 ∧ z.2.2.map (·.2) = List.replicate z.1 []) (fun z => [(9, some (.int .i64 (z.1 : Int)))]) (fun z => [arr b5 0 [z.2.1], sl ptrE 1 z.2.1 z.2.2, allH (fun x => dqH x.1 x.2) z.2.2, F]) (0, .slice none 0 0, []) ?_ ?_ ?_ ?_
  · exact ⟨Nat.zero_le _, rfl, rfl⟩
  · exact ⟨rfl, trivial⟩
  · exact fun w s => Ent.kept .auto w s
  rintro ⟨k, v, ts⟩ ⟨hk, htl, htm⟩
  simp only at hk htl htm
  refine .s (.r (.p (.lss rfl rfl) (.n (.t (.s (.condD rfl (fun h10 => ?_) (fun h10 => ?_)))))))
  · refine .v (.t (.s (.b ?_)))
    refine .draw [arr b5 0 [v]] [0, 0, 0, 0, 0, 2, 2, 2, 1, 1, 3] rfl (by kernel_rfl) ?_
    refine .q (.m rfl) (.q (.m rfl) (.q (.n rfl) (.q (.z rfl) (.q (.l rfl) ?_))))
    refine .d2 rfl Kept.auto (Does.callE rfl call52 rfl deque_New .auto) (by rintro _ _ ⟨x16, -, rfl, rfl⟩; exact Kept.auto) ?_
    rintro _ _ ⟨x16, -, rfl, rfl⟩
    refine .d2 rfl Kept.auto (Does.bsl 134 rfl rfl (by kernel_rfl)) (by rintro _ _ ⟨b17, rfl, rfl⟩; exact Kept.auto) ?_
    rintro _ _ ⟨b17, rfl, rfl⟩
    refine .d2 rfl Kept.auto (Does.app1 (enc := ptrE) (k := 1) ((x16, []) : Nat × List Int) rfl underlying131 underlying131 typeInfo134 rfl rfl rfl (by decide) rfl rfl rfl .auto rfl .auto (by first | omega | (dsimp only; omega)) rfl) (by rintro _ _ ⟨v18, rfl, rfl⟩; exact Kept.auto) ?_
    rintro _ _ ⟨v18, rfl, rfl⟩
    refine .p (.n rfl) (.p (.z rfl) ?_)
    refine .d3 rfl (Does.stS sizeOf131 rfl rfl rfl) ?_
    rintro _ _ ⟨rfl, rfl⟩
    refine .n (.b (.t (.r ?_)))
    refine .p (.inc rfl rfl (by omega)) ?_
    refine .p (.m rfl) (.n ?_)
    refine .againK (k + 1, v18, ts ++ [(x16, [])]) .auto rfl ?_ ?_ ?_ ?_
    · show (clamp p 64).toNat - (k + 1) < (clamp p 64).toNat - k; omega
    · exact ⟨by show k + 1 ≤ _; omega, by simp [htl], by simp [htm, List.replicate_succ']⟩
    · exact ⟨rfl, trivial⟩
    · show ∀ w, Sat _ w _ → Sat _ w (seps [_, sl ptrE 1 v18 (ts ++ [(x16, [])]), allH (fun x => dqH x.1 x.2) (ts ++ [(x16, [])]), F])
      rw [allH_snoc]
      exact fun w s => Ent.kept .auto w s
  · refine .x (.tx (.tx (.bh (.t (.s (.r (.p (.m rfl) (.p (.a rfl) (.n (.t (.e ?_)))))))))))
    obtain rfl : k = (clamp p 64).toNat := by omega
    refine .ret1 rfl rfl fun w s => ⟨b5, ?_, trivial, finE .auto s⟩
    rfl

theorem lib_unblocked {W : World} {A : HProp} {v : Value} {xs : List Int} (hr : Rd W [A] intE 1 v xs) (hl : xs.length ≤ 1000000000) : Fn Tryz.prog W 31 [v] [A] Value (fun u => u) (fun _ => True) (fun u => [sl evE 3 u (unblocked xs), A]) := by
  refine Fn.intro (N := 19) func31 rfl ntmps31 rfl fun F => ?_
  haveI hRI : ∀ (H : List HProp) [HasH H A], ReadsC W H v intE 1 xs := fun H h => ⟨hr.at h.has⟩
  show GoC _ _ _ _ _ _ [A, F]
  refine .s (.r (.p (.a rfl) (.n (.t (.s (.r (.p (.a rfl) (.n (.t (.s (.s (.r (.p (.m rfl) (.p (.len rfl) (.p (.m rfl) (.n (.t (.b ?_))))))))))))))))))
  refine .loopK (X := Nat × Value) [3, 5, 8, 9, 10, 11, 12, 13, 14, 15, 16, 17] (fun z => xs.length - z.1) (fun z => z.1 ≤ xs.length) (fun z => [(8, some (.int .i64 (z.1 : Int))), (3, some z.2)]) (fun z => [sl evE 3 z.2 (unblocked (xs.take z.1)), A, F]) (0, .slice none 0 0) ?_ ?_ ?_ ?_
  · exact Nat.zero_le _
  · exact ⟨rfl, rfl, trivial⟩
  · exact fun w s => Ent.kept .auto w s
  rintro ⟨k, u⟩ hk
  simp only at hk
  refine .s (.r (.p (.lss rfl rfl) (.n (.t (.s (.condD rfl (fun h9 => ?_) (fun h9 => ?_)))))))
  · refine .v (.t (.s (.b (.s (.r ?_)))))
    obtain ⟨n, hx⟩ := at_some (show k < xs.length by omega)
    refine .p (.ix _ rfl rfl rfl (by first | omega | decide)) ?_
    refine .p (.lr rfl ‹_›) ?_
    refine .p (.a rfl) (.n (.t (.r (.p (.m rfl) (.p (.m rfl) ?_)))))
    refine .p (.bld2 (fun v1 v2 => [v1, v2, (.int .i64 0)]) rfl rfl (by kernel_rfl)) ?_
    refine .does rfl (Does.bsl 49 rfl rfl (by kernel_rfl)) ?_
    rintro _ _ ⟨b15, rfl, rfl⟩
    refine .does rfl (Does.app1 (enc := evE) (k := 3) (⟨3, n, 0⟩ : Ev) rfl underlying43 underlying43 typeInfo49 rfl rfl rfl (by decide) rfl rfl rfl .auto rfl .auto (by unfold unblocked; rw [List.length_map, List.length_take]; omega) rfl) ?_
    rintro _ _ ⟨v16, rfl, rfl⟩
    refine .p (.a rfl) (.n (.b (.t (.r ?_))))
    refine .p (.inc rfl rfl (by omega)) ?_
    refine .p (.m rfl) (.n ?_)
    refine .againK (k + 1, v16) .auto rfl ?_ ?_ ?_ ?_
    · show xs.length - (k + 1) < xs.length - k; omega
    · show k + 1 ≤ _; omega
    · exact ⟨rfl, rfl, trivial⟩
    · show ∀ w, Sat _ w _ → Sat _ w (seps [sl evE 3 v16 (unblocked (xs.take (k + 1))), A, F])
      rw [unb_snoc hx]
      exact fun w s => Ent.kept .auto w s
  · refine .x (.tx (.tx (.bh (.t (.s (.r (.p (.m rfl) (.p (.a rfl) (.n (.t (.e ?_)))))))))))
    obtain rfl : k = xs.length := by omega
    rw [List.take_length]
    refine .ret1 rfl rfl fun w s => ⟨_, ?_, trivial, finE .auto s⟩
    rfl

theorem lib_New {W : World} {bs : Nat} {ps : List (Option Nat)} {s : Spc} {p : Int} (hl : s.thr.length = 16) : Fn Tryz.prog W 7 [ptr bs, .int .i64 p] [spcX bs ps s] Nat (fun b => ptr b) (fun _ => True) (fun b => [libH b (Lib.new s p)]) := by
  refine Fn.intro (N := 24) func7 rfl ntmps7 rfl fun F => ?_
  show GoC _ _ _ _ _ _ [spcX bs ps s, F]
  have hc : 0 ≤ clamp p 64 ∧ clamp p 64 ≤ 64 := by unfold clamp; omega
  have hrl : s.ready.length ≤ 1000000000 := by have := ready_len s.thr 0; show (readyFrom s.thr 0).length ≤ _; omega
  refine .s (.r (.p (.a rfl) (.n (.t (.s (.r (.p (.m rfl) ?_)))))))
  refine .p (.max2m rfl rfl) ?_
  refine .p (.valW (Y.min2m rfl rfl) (show min (max p 0) 64 = clamp p 64 from rfl)) ?_
  refine .p (.a rfl) (.n (.t (.s ?_)))
  refine .drawF [] [0, 0, 2, 0, 4, 0, 4, 0] [0, 1, 2, 3, 4, 5, 6, 7] rfl (by kernel_rfl) ?_
  refine GoF.q rfl rfl rfl Kept.auto (Y.m rfl) ?_
  refine GoF.q rfl rfl rfl Kept.auto (Y.m rfl) ?_
  refine GoF.callE rfl (.inl rfl) rfl (fun _ => Kept.auto) call30 rfl ready_New .auto (fun _ _ => Kept.auto) ?_
  rintro x12 -
  rw [show clamp (clamp p 64) 64 = clamp p 64 from by unfold clamp; omega]
  refine GoF.q rfl rfl rfl Kept.auto (Y.m rfl) ?_
  refine GoF.fresh rfl rfl rfl (by decide) Kept.auto (fresh_make (enc := vslE) (k := 3) ((Value.slice none 0 0 : Value), Vsl.z) (clamp p 64).toNat underlying87 typeInfo45 rfl rfl rfl rfl (by decide) (by decide) rfl rfl (by omega) (by omega) (by omega)) ?_
  rintro b14
  refine GoF.q rfl rfl rfl Kept.auto (Y.bld3 (fun v1 v2 v3 => [v1, v2, v3, (.slice none 0 0), (.bool false)]) rfl rfl rfl (by kernel_rfl)) ?_
  refine GoF.fresh rfl rfl rfl (by decide) Kept.auto (fresh_box rfl rfl) ?_
  rintro b16
  refine GoF.q rfl rfl rfl Kept.auto (Y.a rfl) ?_
  refine GoF.nil ?_
  refine .t (.s (.r ?_))
  refine .to (A := sl vslE 3 (.slice (some ⟨b14, 0, none⟩) (clamp p 64).toNat (clamp p 64).toNat) (List.replicate (clamp p 64).toNat ((Value.slice none 0 0 : Value), Vsl.z))) .auto (arr_slR rfl) ?_
  refine .p (.m rfl) (.p (.m rfl) ?_)
  refine .does rfl (Does.callE rfl call32 rfl (core_Ready hl) .auto) ?_
  rintro _ _ ⟨u19, -, rfl, rfl⟩
  refine .does rfl (Does.callE rfl call31 rfl (lib_unblocked (A := sl intE 1 u19 s.ready) (Rd.sl .here) hrl) .auto) ?_
  rintro _ _ ⟨u20, -, rfl, rfl⟩
  refine .p (.n rfl) (.p (.f rfl) ?_)
  refine .does rfl (Does.stS sizeOf43 rfl rfl rfl) ?_
  rintro _ _ ⟨rfl, rfl⟩
  refine .n (.t (.s (.r (.p (.m rfl) (.p (.a rfl) (.n (.t (.e ?_))))))))
  refine .ret1 rfl rfl fun w s => ⟨b16, ?_, trivial, finE (by repeat (first | exact Ent.nil | (apply Ent.cons; · repeat (first | exact Take.here | apply Take.there)) | apply Ent.opt0 | apply Ent.opt1 | apply Ent.void | apply Ent.emp0 | apply Ent.two | (apply Ent.allV; · exact sl_void) | (apply Ent.allM; · exact fun _ => sl_void) | apply Ent.f1 rfl | apply Ent.f2 rfl | apply Ent.f3 rfl | apply Ent.f4 rfl | apply Ent.f10 rfl | apply Ent.grp | assumption | exact trivial | rfl | omega | (apply Ent.allV; · exact sl_void) | (focus (simp [Lib.new]; done)) | (unfold Lib.new; simp only; apply Ent.cons; · repeat (first | exact Take.here | apply Take.there)))) s⟩
  rfl

theorem lib_Grant {W : World} {b bs br : Nat} {l : Lib} {p : Int} (hw : l.waiting.length ≤ 400000000) : Fn Tryz.prog W 8 [ptr b, .int .i64 p] [libX b bs br l] Unit (fun _ => .bool (l.grant p).1) (fun _ => True) (fun _ => [libX b bs br (l.grant p).2]) := by
  refine Fn.intro (N := 31) func8 rfl ntmps8 rfl fun F => ?_
  show GoC _ _ _ _ _ _ [libX b bs br l, F]
  refine .s (.r (.p (.a rfl) (.n (.t (.s (.s (.r (.p (.m rfl) (.p (.m rfl) ?_)))))))))
  refine .does rfl (Does.callE rfl call33 rfl lib_in .auto) ?_
  rintro _ _ ⟨⟨⟩, -, rfl, rfl⟩
  refine .p (.not rfl) (.p (.m rfl) ?_)
  apply GoL.segO 4 13 9 [9, 10, 11, 12, 13] rfl
  · intro h9
    refine .g (.m rfl) (.g (.m rfl) ?_)
    refine .dg rfl rfl rfl (Does.callE rfl call34 rfl lib_hasW .auto) ?_
    rintro _ _ ⟨⟨⟩, -, rfl, rfl⟩
    refine .p (.u rfl rfl) (.n ?_)
    refine .seg .auto rfl (by first | exact fun _ h => h | exact Ent.kept .auto)
  · intro h9
    refine .u (.u (.u (.p (.t rfl rfl) (.n ?_))))
    refine .seg .auto rfl (by first | exact fun _ h => h | exact Ent.kept .auto)
  refine .n (.t (.cond rfl (fun h13 => ?_) (fun h13 => ?_)))
  · simp only [Bool.or_eq_true, Bool.not_eq_true'] at h13
    refine .s (.r (.p (.a rfl) (.n (.t (.e (.tr ?_))))))
    rw [grant_no h13]
    refine .ret1 rfl rfl fun w s => ⟨(), ?_, trivial, finE .auto s⟩
    rfl
  · simp only [Bool.or_eq_false_iff, Bool.not_eq_false'] at h13
    refine .v (.t (.s ?_))
    obtain ⟨i, v, rfl, hv, hg⟩ := grant_yes h13.1 h13.2
    rw [hg]
    refine .o2 (C := libX b bs br l) .auto rfl ?_
    rintro vv vw -
    refine .o1 (C := vslsH vv l.vs) .auto rfl ?_
    rintro xs hxs
    have hxl := map_len hxs
    obtain ⟨x, hx, rfl⟩ := map_back hxs hv
    have hil := (List.getElem?_eq_some_iff.1 hx).1
    refine .draw [arr b 0 (libC bs br vv vw l.locked)] [0, 0, 0, 0, 0, 1, 2, 0, 0, 0, 0, 2, 2, 1, 3] rfl (by kernel_rfl) ?_
    refine .q (.m rfl) (.q (.n rfl) (.q (.f rfl) (.q (.l rfl) (.q (.m rfl) ?_))))
    refine .p (.bld2 (fun v1 v2 => [v1, v2, (.int .i64 0)]) rfl rfl (by kernel_rfl)) ?_
    refine .d2 rfl Kept.auto (Does.bsl 49 rfl rfl (by kernel_rfl)) (by rintro _ _ ⟨b20, rfl, rfl⟩; exact Kept.auto) ?_
    rintro _ _ ⟨b20, rfl, rfl⟩
    refine .q (.m rfl) (.q (.n rfl) (.q (.f rfl) (.q (.l rfl) ?_)))
    refine .d2 rfl Kept.auto (Does.callE rfl call36 rfl (JoinE (A := seps [arr b20 0 [.int .i64 1, .int .i64 (-1), .int .i64 0], sl evE 3 vw l.waiting]) (xs := [⟨1, -1, 0⟩]) (ys := l.waiting) (Rd.grp (Rd.lit .here rfl (fun _ _ => rfl) rfl)) (Rd.grp (Rd.sl .auto)) (by simp; omega)) .auto) (by rintro _ _ ⟨u25, -, rfl, rfl⟩; exact Kept.auto) ?_
    rintro _ _ ⟨u25, -, rfl, rfl⟩
    refine .ungrp .auto ?_
    refine .d2 rfl Kept.auto (Does.callE rfl call35 rfl (vessel_New (A := sl evE 3 u25 (⟨1, -1, 0⟩ :: l.waiting)) (xs := ⟨1, -1, 0⟩ :: l.waiting) (Rd.sl .here) (by simp; omega)) .auto) (by rintro _ _ ⟨u26, -, rfl, rfl⟩; exact Kept.auto) ?_
    rintro _ _ ⟨u26, -, rfl, rfl⟩
    refine .know (fun w s => Rd.isSl (Rd.sl .auto) w s) fun hu26 => ?_
    refine .p (.ix i rfl rfl rfl (by omega)) ?_
    refine .d3 rfl (Does.storeSlA (x' := (u26, Vsl.new (⟨1, -1, 0⟩ :: l.waiting))) rfl rfl sizeOf45 (vsl_one hu26) hx rfl rfl .auto) ?_
    rintro _ _ ⟨rfl, rfl⟩
    refine .n (.t (.s (.r ?_)))
    refine .fr .auto (all_out (f := fun x : Value × Vsl => sl evE 3 x.1 x.2.evs) hx) ?_
    refine .to (A := allH (fun x : Value × Vsl => sl evE 3 x.1 x.2.evs) (xs.set i (u26, Vsl.new (⟨1, -1, 0⟩ :: l.waiting)))) .auto (all_in (f := fun x : Value × Vsl => sl evE 3 x.1 x.2.evs) (u26, Vsl.new (⟨1, -1, 0⟩ :: l.waiting)) hx) ?_
    have hms := map_set hxs i (u26, Vsl.new (⟨1, -1, 0⟩ :: l.waiting))
    refine .p (.m rfl) (.p (.n rfl) (.p (.f rfl) ?_))
    refine .does rfl (Does.st sizeOf43 rfl rfl rfl rfl) ?_
    rintro _ _ ⟨rfl, rfl⟩
    refine .n (.t (.s (.r (.p (.a rfl) (.n (.t (.e (.ret1 rfl rfl fun w s => ⟨(), ?_, trivial, finE .auto s⟩))))))))
    rfl

theorem lib_Tell {W : World} {b bs br : Nat} {l : Lib} {A : HProp} {m : Value} {ys : List Ev} (hm : Rd W [A] evE 3 m ys) (hl : ys.length ≤ 400000000 ∧ l.waiting.length ≤ 400000000 ∧ l.vs.length ≤ 1000000000 ∧ ∀ v ∈ l.vs, v.evs.length ≤ 400000000) : Fn Tryz.prog W 14 [ptr b, m] [libX b bs br l, A] Unit (fun _ => .tuple #[]) (fun _ => True) (fun _ => [libX b bs br (l.tell ys), A]) := by
  refine Fn.intro (N := 45) func14 rfl ntmps14 rfl fun F => ?_
  haveI hRI : ∀ (H : List HProp) [HasH H A], ReadsC W H m evE 3 ys := fun H h => ⟨hm.at h.has⟩
  show GoC _ _ _ _ _ _ [libX b bs br l, A, F]
  refine .s (.s (.r (.p (.m rfl) (.p (.eqp rfl rfl) (.p (.m rfl) ?_)))))
  apply GoL.segO 4 11 7 [7, 8, 9, 10, 11] rfl
  · intro h7
    refine .g (.m rfl) (.g (.len rfl) (.g (.eql rfl rfl) (.p (.u rfl rfl) (.n ?_))))
    refine .seg .auto rfl (by first | exact fun _ h => h | exact Ent.kept .auto)
  · intro h7
    refine .u (.u (.u (.p (.t rfl rfl) (.n ?_))))
    refine .seg .auto rfl (by first | exact fun _ h => h | exact Ent.kept .auto)
  refine .n (.t (.cond rfl (fun h11 => ?_) (fun h11 => ?_)))
  · simp only [Bool.or_eq_true, decide_eq_true_eq] at h11
    refine .e (.tr ?_)
    obtain rfl : ys = [] := by simpa using h11
    rw [tell_nil]
    refine .ret0 rfl fun w s => ⟨(), ?_, trivial, finE .auto s⟩
    rfl
  · simp only [Bool.or_eq_false_iff, decide_eq_false_iff_not] at h11
    refine .v (.t (.s (.r (.p (.m rfl) ?_))))
    have hne : ys ≠ [] := by simpa using h11
    refine .does rfl (Does.callE rfl call16 rfl (lib_Procs hl.2.2.1) .auto) ?_
    rintro _ _ ⟨u13, -, rfl, rfl⟩
    refine .p (.a rfl) (.n (.t (.s (.s (.r (.p (.m rfl) (.p (.len rfl) (.p (.eql rfl rfl) (.n (.t (.condD rfl (fun h16 => ?_) (fun h16 => ?_))))))))))))
    · refine .s (.r ?_)
      refine .o2 (C := libX b bs br l) .auto rfl ?_
      rintro vv vw -
      refine .o1 (C := vslsH vv l.vs) .auto rfl ?_
      rintro xs hxs
      have hxl := map_len hxs
      refine .p (.m rfl) (.p (.m rfl) (.p (.n rfl) (.p (.f rfl) (.p (.l rfl) (.p (.m rfl) ?_)))))
      rw [tell_wait hne (by simpa using h16)]
      refine .does rfl (Does.callE rfl call36 rfl (JoinE (A := seps [sl evE 3 vw l.waiting, A]) (xs := l.waiting) (ys := ys) (Rd.grp (Rd.sl .here)) (Rd.grp (hm.at (.there .here))) (by omega)) .auto) ?_
      rintro _ _ ⟨u23, -, rfl, rfl⟩
      refine .ungrp .auto ?_
      refine .p (.n rfl) (.p (.f rfl) ?_)
      refine .does rfl (Does.stS sizeOf43 rfl rfl rfl) ?_
      rintro _ _ ⟨rfl, rfl⟩
      refine .n (.t (.e (.tr (.ret0 rfl fun w s => ⟨(), ?_, trivial, finE .auto s⟩))))
      rfl
    · refine .v (.t ?_)
      obtain ⟨p, r, hp⟩ : ∃ p r, l.procs = p :: r := by
        cases e : l.procs with
        | nil => rw [e] at h16; exact absurd rfl h16
        | cons p r => exact ⟨p, r, rfl⟩
      obtain ⟨i, v, rfl, hv, hmd⟩ := procs_head hp
      have hp0 : l.procs[0]? = some (i : Int) := by rw [hp]; rfl
      rw [tell_some hne hp hv]
      refine .o2 (C := libX b bs br l) .auto rfl ?_
      rintro vv vw -
      refine .o1 (C := vslsH vv l.vs) .auto rfl ?_
      rintro xs hxs
      have hxl := map_len hxs
      obtain ⟨x, hx, rfl⟩ := map_back hxs hv
      have hil := (List.getElem?_eq_some_iff.1 hx).1
      refine .fr .auto (all_out (f := fun x : Value × Vsl => sl evE 3 x.1 x.2.evs) hx) ?_
      have hel := hl.2.2.2 x.2 (List.mem_of_getElem? hv)
      refine .draw [arr b 0 (libC bs br vv vw l.locked), sl intE 1 u13 l.procs] [0, 0, 0, 0, 0, 0, 0, 1, 1, 1, 1, 1, 1, 1, 1, 1, 1, 2, 1, 3] rfl (by kernel_rfl) ?_
      refine .q (.m rfl) (.q (.n rfl) (.q (.f rfl) (.q (.l rfl) (.q (.m rfl) ?_))))
      refine .q (.ix 0 rfl rfl rfl (by rw [hp]; simp)) ?_
      refine .q (.lr rfl hp0) ?_
      refine .p (.m rfl) (.p (.n rfl) (.p (.f rfl) (.p (.l rfl) (.p (.m rfl) ?_))))
      refine .p (.ix 0 rfl rfl rfl (by rw [hp]; simp)) ?_
      refine .p (.lr rfl hp0) ?_
      refine .p (.ix i rfl rfl rfl (by omega)) ?_
      refine .p (.la rfl (Cells.rd Rd.s ‹_›)) ?_
      refine .p (.m rfl) ?_
      refine .d2 rfl Kept.auto (Does.callE rfl call37 rfl (vessel_Told (A := seps [sl evE 3 x.1 x.2.evs, A]) (u := x.1) (x := x.2) (m := m) (ys := ys) (Rd.grp (Rd.sl .here)) (Rd.grp (hm.at (.there .here))) (by omega)) .auto) (by rintro _ _ ⟨u43, -, rfl, rfl⟩; exact Kept.auto) ?_
      rintro _ _ ⟨u43, -, rfl, rfl⟩
      refine .know (fun w s => Rd.isSl (Rd.sl .auto) w s) fun hu43 => ?_
      refine .ungrp .auto ?_
      refine .p (.ix i rfl rfl rfl (by omega)) ?_
      refine .d3 rfl (Does.storeSlA (x' := (u43, x.2.told ys)) rfl rfl sizeOf45 (vsl_one hu43) hx rfl rfl .auto) ?_
      rintro _ _ ⟨rfl, rfl⟩
      refine .n ?_
      refine .to (A := allH (fun x : Value × Vsl => sl evE 3 x.1 x.2.evs) (xs.set i (u43, x.2.told ys))) .auto (all_in (f := fun x : Value × Vsl => sl evE 3 x.1 x.2.evs) (u43, x.2.told ys) hx) ?_
      have hms := map_set hxs i (u43, x.2.told ys)
      refine .end0 rfl fun w s => ⟨(), ?_, trivial, finE .auto s⟩
      rfl

end Go.SLYtnceicnimongcaaGreat
namespace Go.SLYtnceicnimongcaaGreat
open Go Go.RowKit

def posFrom (n : Int) : List Int → Nat → List Int
  | [], _ => []
  | o :: l, k => if o = n then (k : Int) :: posFrom n l (k + 1) else posFrom n l (k + 1)
def pos (n : Int) (o : List Int) : List Int := posFrom n o 0
structure Agree (k : Krn) : Prop where
  len : ∀ l ∈ k.libs, l.vs.length = k.owner.length
  ol : k.owner.length ≤ 64
  iff : ∀ (n : Nat) (l : Lib), k.libs[n]? = some l → ∀ p : Nat, modeAt l.vs (p : Int) ≠ 0 ↔ k.owner[p]? = some (n : Int)
theorem mode_nil (p : Nat) : modeAt [] (p : Int) = 0 := by simp [modeAt, Vsl.z]
theorem mode_zero (v : Vsl) (vs : List Vsl) : modeAt (v :: vs) ((0 : Nat) : Int) = v.mode := rfl
theorem mode_succ (v : Vsl) (vs : List Vsl) (p : Nat) : modeAt (v :: vs) ((p + 1 : Nat) : Int) = modeAt vs (p : Int) := by
  unfold modeAt; rw [Int.toNat_natCast, Int.toNat_natCast]; rfl
theorem pos_none {n : Int} : ∀ {o : List Int} {k : Nat}, (∀ p : Nat, o[p]? ≠ some n) → posFrom n o k = []
  | [], _, _ => rfl
  | x :: o, k, h => by
    rw [posFrom, if_neg (fun e => h 0 (by rw [e]; rfl))]
    exact pos_none fun p => h (p + 1)
theorem procs_none : ∀ {vs : List Vsl} {k : Nat}, (∀ p : Nat, modeAt vs (p : Int) = 0) → procsFrom vs k = []
  | [], _, _ => rfl
  | v :: vs, k, h => by
    rw [procsFrom, if_pos (by rw [← mode_zero v vs]; exact h 0)]
    exact procs_none fun p => by rw [← mode_succ v vs]; exact h (p + 1)
theorem procs_pos {n : Int} : ∀ {vs : List Vsl} {o : List Int} {k : Nat}, (∀ p : Nat, modeAt vs (p : Int) ≠ 0 ↔ o[p]? = some n) → procsFrom vs k = posFrom n o k
  | [], o, k, h => by
    rw [pos_none (fun p e => (h p).2 e (mode_nil p))]; rfl
  | v :: vs, [], k, h => by
    rw [procs_none (fun p => Decidable.of_not_not fun e => by have := (h p).1 e; simp at this)]; rfl
  | v :: vs, x :: o, k, h => by
    have ih := procs_pos (vs := vs) (o := o) (k := k + 1) fun p => by rw [← mode_succ v vs]; exact h (p + 1)
    have h0 := h 0
    rw [mode_zero] at h0
    rw [procsFrom, posFrom, ih]
    by_cases e : v.mode = 0
    · rw [if_pos e, if_neg (fun e2 => h0.2 (by rw [e2]; rfl) e)]
    · have : x = n := by simpa using h0.1 e
      rw [if_neg e, if_pos this]
theorem Agree.procs {k : Krn} (h : Agree k) {n : Nat} {l : Lib} (hl : k.libs[n]? = some l) : l.procs = pos (n : Int) k.owner := procs_pos (h.iff n l hl)
theorem Agree.libProcs {k : Krn} (h : Agree k) {n : Nat} (hn : n < k.libs.length) : libProcs k n = pos (n : Int) k.owner := by
  obtain ⟨l, hl⟩ := at_some hn
  unfold SLYtnceicnimongcaaGreat.libProcs; rw [getD_of hl, h.procs hl]

/-! what the libraries' steps do to the modes, to the events, to the space -/
theorem new_mode (l : List Ev) : (Vsl.new l).mode = 1 := rfl
theorem mode_set {vs : List Vsl} {i : Nat} (hi : i < vs.length) (v : Vsl) (p : Nat) : modeAt (vs.set i v) (p : Int) = if p = i then v.mode else modeAt vs (p : Int) := by
  unfold modeAt
  rw [Int.toNat_natCast, List.getD_eq_getElem?_getD, List.getD_eq_getElem?_getD]
  by_cases e : p = i
  · subst e; rw [if_pos rfl, List.getElem?_set_self hi]; rfl
  · rw [if_neg e, List.getElem?_set_ne (fun h => e h.symm)]
structure Same2 (l l' : Lib) : Prop where
  spc : l'.spc = l.spc
  rows : l'.rows = l.rows
  len : l'.vs.length = l.vs.length
theorem tell_same (l : Lib) (ys : List Ev) : Same2 l (l.tell ys) ∧ ∀ p : Nat, modeAt (l.tell ys).vs (p : Int) = 0 ↔ modeAt l.vs (p : Int) = 0 := by
  by_cases hy : ys = []
  · subst hy; rw [tell_nil]; exact ⟨⟨rfl, rfl, rfl⟩, fun p => Iff.rfl⟩
  · cases hp : l.procs with
    | nil => rw [tell_wait hy hp]; exact ⟨⟨rfl, rfl, rfl⟩, fun p => Iff.rfl⟩
    | cons q r =>
      obtain ⟨i, v, rfl, hv, hm⟩ := procs_head hp
      rw [tell_some hy hp hv]
      refine ⟨⟨rfl, rfl, List.length_set ..⟩, fun p => ?_⟩
      show modeAt (l.vs.set i (v.told ys)) (p : Int) = 0 ↔ _
      rw [mode_set (List.getElem?_eq_some_iff.1 hv).1]
      by_cases e : p = i
      · subst e; rw [if_pos rfl, ← mode_at hv]
        exact ⟨fun h => (by rw [show (v.told ys).mode = 1 from rfl] at h; omega), fun h => absurd h hm⟩
      · rw [if_neg e]
theorem sum_set {vs : List Vsl} {i : Nat} {v : Vsl} (h : vs[i]? = some v) (x : Vsl) : ((vs.set i x).map (fun v => v.evs.length)).sum + v.evs.length = (vs.map (fun v => v.evs.length)).sum + x.evs.length := by
  induction vs generalizing i with
  | nil => simp at h
  | cons y vs ih =>
    cases i with
    | zero => simp at h; subst h; simp; omega
    | succ i =>
      have := ih (i := i) (by simpa using h)
      simp only [List.set_cons_succ, List.map_cons, List.sum_cons]
      omega
theorem told_len (v : Vsl) (ys : List Ev) : (v.told ys).evs.length ≤ v.evs.length + 1 + ys.length := by
  have := strip_len v
  show (v.strip ++ ys).length ≤ _
  rw [List.length_append]; omega
theorem tell_ev (l : Lib) (ys : List Ev) : evSum (l.tell ys) ≤ evSum l + 1 + ys.length := by
  by_cases hy : ys = []
  · subst hy; rw [tell_nil]; omega
  · cases hp : l.procs with
    | nil => rw [tell_wait hy hp]; unfold evSum; simp only [List.length_append]; omega
    | cons q r =>
      obtain ⟨i, v, rfl, hv, hm⟩ := procs_head hp
      rw [tell_some hy hp hv]
      unfold evSum
      have := sum_set hv (v.told ys)
      have := told_len v ys
      simp only
      omega
theorem revoke_ev (l : Lib) (p : Int) : evSum (l.revoke p).2 ≤ evSum l + 2 := by
  by_cases h : l.has p = true
  · obtain ⟨i, v, rfl, hv⟩ := has_nat (has_in h)
    rw [revoke_yes h hv]
    have h1 := tell_ev { l with vs := l.vs.set i Vsl.z } v.strip
    have h2 := sum_set hv Vsl.z
    have h3 := strip_len v
    simp only [Vsl.z] at h1 h2 ⊢
    unfold evSum at *
    simp only [List.length_nil, Nat.add_zero] at *
    omega
  · rw [revoke_no (by simpa using h)]; exact Nat.le_add_right ..
theorem grant_ev (l : Lib) (p : Int) : evSum (l.grant p).2 ≤ evSum l + 2 := by
  by_cases h1 : libIn l p = true
  · cases h : l.has p with
    | true => rw [grant_no (.inr h)]; exact Nat.le_add_right ..
    | false =>
      obtain ⟨i, v, rfl, hv, e⟩ := grant_yes h1 h
      rw [e]
      have h2 := sum_set hv (Vsl.new (⟨1, -1, 0⟩ :: l.waiting))
      unfold evSum
      simp only [Vsl.new, List.length_cons, List.length_nil] at *
      omega
  · rw [grant_no (.inl (by simpa using h1))]; exact Nat.le_add_right ..
theorem grant_same (l : Lib) (p : Int) : Same2 l (l.grant p).2 := by
  by_cases h1 : libIn l p = true
  · cases h : l.has p with
    | true => rw [grant_no (.inr h)]; exact ⟨rfl, rfl, rfl⟩
    | false => obtain ⟨i, v, rfl, hv, e⟩ := grant_yes h1 h; rw [e]; exact ⟨rfl, rfl, List.length_set ..⟩
  · rw [grant_no (.inl (by simpa using h1))]; exact ⟨rfl, rfl, rfl⟩
theorem revoke_same (l : Lib) (p : Int) : Same2 l (l.revoke p).2 := by
  by_cases h : l.has p = true
  · obtain ⟨i, v, rfl, hv⟩ := has_nat (has_in h)
    rw [revoke_yes h hv]
    obtain ⟨⟨a, b, c⟩, _⟩ := tell_same { l with vs := l.vs.set i Vsl.z } v.strip
    exact ⟨a, b, c.trans (List.length_set ..)⟩
  · rw [revoke_no (by simpa using h)]; exact ⟨rfl, rfl, rfl⟩
theorem has_mode {l : Lib} {i : Nat} (hi : i < l.vs.length) : l.has (i : Int) = decide (modeAt l.vs (i : Int) ≠ 0) := by
  rw [lib_has, show libIn l (i : Int) = true from by unfold libIn; simp [hi], Bool.true_and]
theorem grant_mode {l : Lib} {i : Nat} (hi : i < l.vs.length) (p : Nat) : modeAt (l.grant (i : Int)).2.vs (p : Int) ≠ 0 ↔ modeAt l.vs (p : Int) ≠ 0 ∨ p = i := by
  cases h : l.has (i : Int) with
  | true =>
    rw [grant_no (.inr h)]
    rw [has_mode hi, decide_eq_true_eq] at h
    exact ⟨.inl, fun e => e.elim id fun e => by rw [e]; exact h⟩
  | false =>
    obtain ⟨j, v, e1, hv, e⟩ := grant_yes (show libIn l (i : Int) = true from by unfold libIn; simp [hi]) h
    obtain rfl : i = j := by omega
    rw [e]
    show modeAt (l.vs.set i _) (p : Int) ≠ 0 ↔ _
    rw [mode_set hi]
    by_cases e : p = i
    · rw [if_pos e]; exact ⟨fun _ => .inr e, fun _ => by rw [new_mode]; omega⟩
    · rw [if_neg e]; exact ⟨.inl, fun h => h.resolve_right e⟩
theorem revoke_mode {l : Lib} {i : Nat} (hi : i < l.vs.length) (p : Nat) : modeAt (l.revoke (i : Int)).2.vs (p : Int) ≠ 0 ↔ modeAt l.vs (p : Int) ≠ 0 ∧ p ≠ i := by
  cases h : l.has (i : Int) with
  | false =>
    rw [revoke_no h]
    rw [has_mode hi, decide_eq_false_iff_not] at h
    exact ⟨fun e => ⟨e, fun e2 => h (by rw [← e2]; exact e)⟩, fun e => e.1⟩
  | true =>
    obtain ⟨v, hv⟩ := at_some hi
    rw [revoke_yes h hv]
    have := (tell_same { l with vs := l.vs.set i Vsl.z } v.strip).2 p
    refine (not_congr this).trans ?_
    show modeAt (l.vs.set i Vsl.z) (p : Int) ≠ 0 ↔ _
    rw [mode_set hi]
    by_cases e : p = i
    · rw [if_pos e]; exact ⟨fun h => absurd rfl h, fun h => absurd e h.2⟩
    · rw [if_neg e]; exact ⟨fun h => ⟨h, e⟩, fun h => h.1⟩

/-! what giving and taking do -/
structure Inv (m : Nat) (k : Krn) : Prop where
  ok : KOk m k
  ag : Agree k
theorem KOk.step {m : Nat} {k : Krn} (h : KOk m k) {i n : Nat} {o : Int} {l l' : Lib} (hl : k.libs[n]? = some l) (ho : o = -1 ∨ (0 ≤ o ∧ o < (k.libs.length : Int))) (hs : Same2 l l') (he : evSum l' ≤ evSum l + 2) : KOk (m + 2) ⟨k.owner.set i o, k.libs.set n l'⟩ := by
  refine ⟨fun v hv => ?_, ?_, ?_, fun x hx => ?_⟩
  · show v = -1 ∨ (0 ≤ v ∧ v < ((k.libs.set n l').length : Int))
    rw [List.length_set]
    rcases List.mem_or_eq_of_mem_set hv with e | e
    · exact h.own v e
    · subst e; exact ho
  · show (k.owner.set i o).length ≤ 64; rw [List.length_set]; exact h.ol
  · show (k.libs.set n l').length ≤ 8; rw [List.length_set]; exact h.ll
  · rcases List.mem_or_eq_of_mem_set hx with e | e
    · have := h.lib x e; exact ⟨Nat.le_trans this.ev (by omega), this.vl, this.th⟩
    · subst e
      have := h.lib l (List.mem_of_getElem? hl)
      exact ⟨by have := this.ev; omega, by rw [hs.len]; exact this.vl, by rw [hs.spc]; exact this.th⟩
theorem KOk.up {m : Nat} {k : Krn} (h : KOk m k) {m' : Nat} (hm : m ≤ m') : KOk m' k := ⟨h.own, h.ol, h.ll, fun l hl => let ⟨a, b, c⟩ := h.lib l hl; ⟨Nat.le_trans a hm, b, c⟩⟩
theorem Agree.give {k : Krn} (h : Agree k) {i n : Nat} {l : Lib} (ho : k.owner[i]? = some (-1)) (hl : k.libs[n]? = some l) : Agree ⟨k.owner.set i (n : Int), k.libs.set n (l.grant (i : Int)).2⟩ := by
  have hi : i < k.owner.length := (List.getElem?_eq_some_iff.1 ho).1
  have hv := h.len l (List.mem_of_getElem? hl)
  have hol := h.ol
  refine ⟨fun x hx => ?_, by show (k.owner.set i (n : Int)).length ≤ 64; rw [List.length_set]; exact h.ol, fun j x hx p => ?_⟩
  · rcases List.mem_or_eq_of_mem_set hx with e | e
    · rw [h.len x e]; exact (List.length_set ..).symm
    · subst e; rw [(grant_same l (i : Int)).len, hv]; exact (List.length_set ..).symm
  · have hx' : (k.libs.set n (l.grant (i : Int)).2)[j]? = some x := hx
    show _ ↔ (k.owner.set i (n : Int))[p]? = some (j : Int)
    by_cases e : n = j
    · subst e
      rw [List.getElem?_set_self (List.getElem?_eq_some_iff.1 hl).1] at hx'
      obtain rfl := Option.some.inj hx'
      rw [grant_mode (by omega) p]
      by_cases e2 : p = i
      · subst e2; rw [List.getElem?_set_self hi]; exact ⟨fun _ => rfl, fun _ => .inr rfl⟩
      · rw [List.getElem?_set_ne (fun e => e2 e.symm), ← h.iff n l hl p]
        exact ⟨fun h => h.resolve_right e2, .inl⟩
    · rw [List.getElem?_set_ne e] at hx'
      rw [h.iff j x hx' p]
      by_cases e2 : p = i
      · subst e2; rw [List.getElem?_set_self hi, ho]
        constructor
        · intro e3; have := Option.some.inj e3; omega
        · intro e3; have := Option.some.inj e3; omega
      · rw [List.getElem?_set_ne (fun e => e2 e.symm)]
theorem Agree.take {k : Krn} (h : Agree k) {i n : Nat} {l : Lib} (ho : k.owner[i]? = some (n : Int)) (hl : k.libs[n]? = some l) : Agree ⟨k.owner.set i (-1), k.libs.set n (l.revoke (i : Int)).2⟩ := by
  have hi : i < k.owner.length := (List.getElem?_eq_some_iff.1 ho).1
  have hv := h.len l (List.mem_of_getElem? hl)
  have hol := h.ol
  refine ⟨fun x hx => ?_, by show (k.owner.set i (-1)).length ≤ 64; rw [List.length_set]; exact h.ol, fun j x hx p => ?_⟩
  · rcases List.mem_or_eq_of_mem_set hx with e | e
    · rw [h.len x e]; exact (List.length_set ..).symm
    · subst e; rw [(revoke_same l (i : Int)).len, hv]; exact (List.length_set ..).symm
  · have hx' : (k.libs.set n (l.revoke (i : Int)).2)[j]? = some x := hx
    show _ ↔ (k.owner.set i (-1))[p]? = some (j : Int)
    by_cases e : n = j
    · subst e
      rw [List.getElem?_set_self (List.getElem?_eq_some_iff.1 hl).1] at hx'
      obtain rfl := Option.some.inj hx'
      rw [revoke_mode (by omega) p]
      by_cases e2 : p = i
      · subst e2; rw [List.getElem?_set_self hi]
        exact ⟨fun h => absurd rfl h.2, fun h => by have := Option.some.inj h; omega⟩
      · rw [List.getElem?_set_ne (fun e => e2 e.symm), ← h.iff n l hl p]
        exact ⟨fun h => h.1, fun h => ⟨h, e2⟩⟩
    · rw [List.getElem?_set_ne e] at hx'
      rw [h.iff j x hx' p]
      by_cases e2 : p = i
      · subst e2; rw [List.getElem?_set_self hi, ho]
        constructor
        · intro e3; have := Option.some.inj e3; omega
        · intro e3; have := Option.some.inj e3; omega
      · rw [List.getElem?_set_ne (fun e => e2 e.symm)]
theorem Inv.take {m : Nat} {k : Krn} (h : Inv m k) (p : Int) : Inv (m + 2) (k.take p).2 := by
  by_cases e : mineE k p = 0
  · obtain ⟨i, n, l, rfl, ho, hl, e⟩ := mine_ok h.ok e
    rw [e]
    exact ⟨h.ok.step hl (.inl rfl) (revoke_same l _) (revoke_ev l _), h.ag.take ho hl⟩
  · rw [mine_bad e]; exact ⟨h.ok.up (by omega), h.ag⟩
theorem Inv.give {m : Nat} {k : Krn} (h : Inv m k) {i n : Nat} {l : Lib} (ho : k.owner[i]? = some (-1)) (hl : k.libs[n]? = some l) : Inv (m + 2) (k.give (i : Int) (n : Int)).2 := by
  rw [give_yes ho hl]
  have := (List.getElem?_eq_some_iff.1 hl).1
  exact ⟨h.ok.step hl (.inr ⟨by omega, by omega⟩) (grant_same l _) (grant_ev l _), h.ag.give ho hl⟩
end Go.SLYtnceicnimongcaaGreat
namespace Go.SLYtnceicnimongcaaGreat
open Go Go.RowKit

theorem pos_len (n : Int) : ∀ (o : List Int) (k : Nat), (posFrom n o k).length = o.count n
  | [], _ => rfl
  | x :: o, k => by
    rw [posFrom, List.count_cons]
    by_cases e : x = n
    · rw [if_pos e, List.length_cons, pos_len n o, if_pos (by simpa using e)]
    · rw [if_neg e, pos_len n o, if_neg (by simpa using e)]; rfl
/-! counting -/
def cntTo (o : List Int) : Nat → Nat
  | 0 => 0
  | L + 1 => cntTo o L + o.count (L : Int)
theorem cnt_cons (x : Int) (o : List Int) : ∀ L, cntTo (x :: o) L = cntTo o L + (if 0 ≤ x ∧ x < (L : Int) then 1 else 0)
  | 0 => by rw [cntTo, cntTo, if_neg (by omega)]
  | L + 1 => by
    rw [cntTo, cntTo, cnt_cons x o L, List.count_cons]
    by_cases e : x = (L : Int)
    · subst e; rw [if_neg (by omega), if_pos (by simp), if_pos (by omega)]; omega
    · rw [if_neg (show ¬ (x == (L : Int)) = true by simpa using e)]
      by_cases e2 : 0 ≤ x ∧ x < (L : Int)
      · rw [if_pos e2, if_pos (by omega)]; omega
      · rw [if_neg e2, if_neg (by omega)]; omega
theorem cnt_all {L : Nat} : ∀ {o : List Int}, (∀ v ∈ o, v = -1 ∨ (0 ≤ v ∧ v < (L : Int))) → o.length = o.count (-1) + cntTo o L
  | [], _ => by induction L with
    | zero => rfl
    | succ L ih => rw [cntTo]; simpa using ih (by simp)
  | x :: o, h => by
    have ih := cnt_all (L := L) (o := o) fun v hv => h v (List.mem_cons_of_mem _ hv)
    rw [List.length_cons, List.count_cons, cnt_cons, ih]
    rcases h x (List.mem_cons_self ..) with e | e
    · rw [if_pos (by simpa using e), if_neg (by omega)]; omega
    · rw [if_neg (by simp; omega), if_pos e]; omega
def natSum (l : List Int) : Nat := (l.map Int.toNat).sum
theorem natSum_snoc (l : List Int) (x : Int) : natSum (l ++ [x]) = natSum l + x.toNat := by unfold natSum; rw [List.map_append, List.sum_append]; simp
theorem cnt_le {o want : List Int} (h : ∀ (i : Nat) (w : Int), want[i]? = some w → o.count (i : Int) ≤ w.toNat) : ∀ L ≤ want.length, cntTo o L ≤ natSum (want.take L)
  | 0, _ => Nat.zero_le _
  | L + 1, hL => by
    obtain ⟨w, hw⟩ := at_some (show L < want.length by omega)
    rw [cntTo, take_snoc hw, natSum_snoc]
    have := cnt_le h L (by omega)
    have := h L w hw
    omega
theorem cnt_lt {o want : List Int} (h : ∀ (i : Nat) (w : Int), want[i]? = some w → o.count (i : Int) ≤ w.toNat) {n : Nat} {w : Int} (hw : want[n]? = some w) (hl : o.count (n : Int) < w.toNat) : ∀ L ≤ want.length, n < L → cntTo o L < natSum (want.take L)
  | 0, _, hn => absurd hn (by omega)
  | L + 1, hL, hn => by
    obtain ⟨x, hx⟩ := at_some (show L < want.length by omega)
    rw [cntTo, take_snoc hx, natSum_snoc]
    by_cases e : n = L
    · subst e
      rw [hw] at hx
      obtain rfl := Option.some.inj hx
      have := cnt_le h n (by omega)
      omega
    · have := cnt_lt h hw hl L (by omega) (by omega)
      have := h L x hx
      omega
structure Room (want : List Int) (k : Krn) : Prop where
  len : want.length = k.libs.length
  sum : natSum want ≤ k.owner.length
  cnt : ∀ (i : Nat) (w : Int), want[i]? = some w → k.owner.count (i : Int) ≤ w.toNat
theorem Room.free {want : List Int} {k : Krn} {m : Nat} (h : Room want k) (hk : KOk m k) {n : Nat} {w : Int} (hw : want[n]? = some w) (hl : k.owner.count (n : Int) < w.toNat) : 0 < k.owner.count (-1) := by
  have hn := (List.getElem?_eq_some_iff.1 hw).1
  have h1 := cnt_lt h.cnt hw hl want.length (Nat.le_refl _) hn
  rw [List.take_length, h.len] at h1
  have h2 := cnt_all hk.own
  have := h.sum
  omega
theorem count_set {o : List Int} {i : Nat} {a b : Int} (h : o[i]? = some a) (n : Int) : (o.set i b).count n + (if a = n then 1 else 0) = o.count n + (if b = n then 1 else 0) := by
  induction o generalizing i with
  | nil => simp at h
  | cons x o ih =>
    cases i with
    | zero =>
      simp at h; subst h
      rw [List.set_cons_zero, List.count_cons, List.count_cons]
      by_cases e1 : x = n <;> by_cases e2 : b = n <;> simp [e1, e2]
    | succ i =>
      have := ih (i := i) (by simpa using h)
      rw [List.set_cons_succ, List.count_cons, List.count_cons]
      omega
theorem Room.give {want : List Int} {k : Krn} (h : Room want k) {n i : Nat} {w : Int} {l : Lib} (hw : want[n]? = some w) (hl : k.owner.count (n : Int) < w.toNat) (ho : k.owner[i]? = some (-1)) (hb : k.libs[n]? = some l) : Room want (k.give (i : Int) (n : Int)).2 ∧ (k.give (i : Int) (n : Int)).2.owner.count (n : Int) = k.owner.count (n : Int) + 1 := by
  rw [give_yes ho hb]
  have h0 := count_set (b := (n : Int)) ho (n : Int)
  rw [if_neg (by omega), if_pos rfl] at h0
  refine ⟨⟨by rw [h.len]; exact (List.length_set ..).symm, by show _ ≤ (k.owner.set i (n : Int)).length; rw [List.length_set]; exact h.sum, fun j x hx => ?_⟩, by simpa using h0⟩
  show (k.owner.set i (n : Int)).count (j : Int) ≤ x.toNat
  by_cases e : n = j
  · subst e
    rw [hw] at hx
    obtain rfl := Option.some.inj hx
    omega
  · have h1 := count_set (b := (n : Int)) ho (j : Int)
    rw [if_neg (by omega), if_neg (by omega)] at h1
    have := h.cnt j x hx
    omega

/-! what is taken -/
def trim (n : Int) : Nat → List Int → List Int
  | _, [] => []
  | 0, x :: o => if x = n then -1 :: trim n 0 o else x :: trim n 0 o
  | w + 1, x :: o => if x = n then x :: trim n w o else x :: trim n (w + 1) o
def setAll (k : Nat) : List Int → List Int → List Int
  | [], o => o
  | p :: ps, o => setAll k ps (o.set (p.toNat - k) (-1))
end Go.SLYtnceicnimongcaaGreat
namespace Go.SLYtnceicnimongcaaGreat
open Go Go.RowKit

def trims : List Int → Nat → List Int → List Int
  | [], _, o => o
  | w :: l, n, o => trims l (n + 1) (trim (n : Int) w.toNat o)
/-! what is dealt out is there -/
end Go.SLYtnceicnimongcaaGreat
namespace Go.SLYtnceicnimongcaaGreat
open Go Go.RowKit

def spcs (k : Krn) : List Spc := k.libs.map (·.spc)
structure Kept2 (k k' : Krn) : Prop where
  spc : spcs k' = spcs k
  ol : k'.owner.length = k.owner.length
  ll : k'.libs.length = k.libs.length
theorem Kept2.refl (k : Krn) : Kept2 k k := ⟨rfl, rfl, rfl⟩
theorem Kept2.trans {a b c : Krn} (h : Kept2 a b) (g : Kept2 b c) : Kept2 a c := ⟨g.1.trans h.1, g.2.trans h.2, g.3.trans h.3⟩
theorem libProcs_len {m : Nat} {k : Krn} (h : Inv m k) {n : Nat} (hn : n < k.libs.length) : (libProcs k n).length = k.owner.count (n : Int) := by
  rw [h.ag.libProcs hn]; exact pos_len _ _ _
theorem still {want : List Int} {m : Nat} {k : Krn} (hi : Inv m k) (hl : want.length ≤ k.libs.length) (hc : ∀ (i : Nat) (w : Int), want[i]? = some w → k.owner.count (i : Int) = w.toNat) : ∀ (d n mv : Nat), d = want.length - n → takeFrom (want.drop n) n (k, mv) = (k, mv) ∧ giveFrom (want.drop n) n (k, mv) = (k, mv)
  | 0, n, mv, hd => by rw [List.drop_of_length_le (by omega)]; exact ⟨rfl, rfl⟩
  | d + 1, n, mv, hd => by
    obtain ⟨w, hw⟩ := at_some (show n < want.length by omega)
    have hp := libProcs_len hi (n := n) (by omega)
    rw [hc n w hw] at hp
    rw [drop_cons hw, takeFrom, giveFrom, show (libProcs k n).drop w.toNat = [] from List.drop_of_length_le (by omega), hp, Nat.sub_self]
    exact still hi hl hc d (n + 1) mv (by omega)
/-! what New makes -/
end Go.SLYtnceicnimongcaaGreat
namespace Go.SLYtnceicnimongcaaGreat
open Go Go.RowKit

def P18 : Prg := ⟨[[⟨1, 1, 0, 0, 5⟩]], 0, 0, 0, [], [], 0, 0⟩
def K18 : Krn := Krn.new 3 [P18, P18]
def pv18 (a b : Nat) : PrgV := ⟨.slice (some ⟨b, 0, none⟩) 1 1, [(.slice (some ⟨a, 0, none⟩) 1 1, [⟨1, 1, 0, 0, 5⟩])], 0, 0, 0, .slice none 0 0, [], .slice none 0 0, [], 0, 0⟩
def A18 (a b c : Nat) : HProp := seps [arr c 0 (prgE (pv18 a b) ++ prgE (pv18 a b)), arr b 0 [.slice (some ⟨a, 0, none⟩) 1 1], arr a 0 (insE ⟨1, 1, 0, 0, 5⟩)]
end Go.SLYtnceicnimongcaaGreat
namespace Go.SLYtnceicnimongcaaGreat
open Go Go.RowKit

structure Plc where
  kind : Int
  at_ : Int
deriving DecidableEq
def plcE (p : Plc) : List Value := [.int .i64 p.kind, .int .i64 p.at_]
def lookV (l : Lib) (p : Int) : Vsl := if l.has p = true then l.vs.getD p.toNat Vsl.z else Vsl.z
def isTold (slot : Int) (e : Ev) : Bool := decide (e.thread = slot) && (evRuns e || decide (e.mode > 0))
def toldN (l : List Ev) (slot : Int) : Nat := (l.filter (isTold slot)).length
def whereFrom (t : Int) : List (List Int) → Nat → Int × Bool
  | [], _ => (0, false)
  | r :: l, n => if t ∈ r then ((n : Int), true) else whereFrom t l (n + 1)
def atProc (l : Lib) (slot p : Int) : List Plc :=
  (if ((lookV l p).runs = true ∧ (lookV l p).thread = slot) then [⟨1, p⟩] else []) ++ List.replicate (toldN (lookV l p).evs slot) ⟨3, p⟩
def placeOf (l : Lib) (slot : Int) : List Plc :=
  l.procs.flatMap (atProc l slot) ++ (if (whereFrom slot l.rows 0).2 = true then [⟨2, (whereFrom slot l.rows 0).1⟩] else []) ++ List.replicate (toldN l.waiting slot) ⟨4, -1⟩
theorem look_no {l : Lib} {p : Int} (h : l.has p = false) : lookV l p = Vsl.z := by unfold lookV; rw [if_neg (by rw [h]; simp)]
theorem look_yes {l : Lib} {i : Nat} {v : Vsl} (h : l.has (i : Int) = true) (hv : l.vs[i]? = some v) : lookV l (i : Int) = v := by unfold lookV; rw [if_pos h, Int.toNat_natCast, getD_of hv]
theorem where_yes {t : Int} {rs : List (List Int)} {n : Nat} {r : List Int} (h : rs[n]? = some r) (ht : t ∈ r) : whereFrom t (rs.drop n) n = ((n : Int), true) := by rw [drop_cons h, whereFrom, if_pos ht]
theorem where_no {t : Int} {rs : List (List Int)} {n : Nat} {r : List Int} (h : rs[n]? = some r) (ht : t ∉ r) : whereFrom t (rs.drop n) n = whereFrom t (rs.drop (n + 1)) (n + 1) := by rw [drop_cons h, whereFrom, if_neg ht]
theorem where_end {t : Int} {rs : List (List Int)} {n : Nat} (h : rs.length ≤ n) : whereFrom t (rs.drop n) n = (0, false) := by rw [List.drop_of_length_le h]; rfl
/-! bounds, and where everything is -/
structure POk (k : Krn) : Prop where
  ev : ∀ l ∈ k.libs, (∀ v ∈ l.vs, v.evs.length ≤ 1000000) ∧ l.waiting.length ≤ 1000000 ∧ l.rows.length ≤ 64 ∧ ∀ r ∈ l.rows, r.length ≤ 1000000
def wherePart (l : Lib) (slot : Int) : List Plc := if (whereFrom slot l.rows 0).2 = true then [⟨2, (whereFrom slot l.rows 0).1⟩] else []
def rightIn (l : Lib) : Nat → Bool
  | 0 => true
  | n + 1 => rightIn l n && decide ((placeOf l (n : Int)).length = if l.spc.ready.contains (n : Int) then 1 else 0)
def rightTo (k : Krn) : Nat → Bool
  | 0 => true
  | n + 1 => rightTo k n && rightIn (k.libs.getD n libZ) 16
def ownIn (k : Krn) (p : Nat) : Nat → Bool
  | 0 => true
  | n + 1 => ownIn k p n && decide ((k.libs.getD n libZ).procs.contains (p : Int) = ((k.ownerOf (p : Int)).2 && decide ((n : Int) = (k.ownerOf (p : Int)).1)))
def ownTo (k : Krn) : Nat → Bool
  | 0 => true
  | p + 1 => ownTo k p && ownIn k p k.libs.length
def ownAll (k : Krn) : Bool := ownTo k k.owner.length
def rightAll (k : Krn) : Bool := rightTo k k.libs.length && ownAll k
end Go.SLYtnceicnimongcaaGreat
namespace Go.SLYtnceicnimongcaaGreat
open Go Go.RowKit Go.Proofs Go.Proofs.Tryz

theorem deque_All {W : World} {b : Nat} {l : List Int} (hl : l.length ≤ 1000000000) : Fn Tryz.prog W 63 [ptr b] [dqH b l] Value (fun u => u) (fun _ => True) (fun u => [sl intE 1 u l, dqH b l]) := by
  refine Fn.intro (N := 11) func63 rfl ntmps63 rfl fun F => ?_
  show GoC _ _ _ _ _ _ [dqH b l, F]
  refine .s (.r (.p (.a rfl) (.n (.t (.s (.s (.r (.p (.m rfl) (.p (.eqp rfl rfl) (.n (.t (.condF rfl ?_))))))))))))
  refine .v (.t (.s (.r ?_)))
  refine .o1 (C := dqH b l) .auto rfl ?_
  rintro v -
  refine .p (.m rfl) (.p (.n rfl) (.p (.z rfl) (.p (.l rfl) ?_)))
  refine .does rfl (Does.callE rfl call84 rfl (CloneI (A := sl intE 1 v l) (Rd.sl .here) hl) .auto) ?_
  rintro _ _ ⟨u9, -, rfl, rfl⟩
  refine .does rfl (Does.callE rfl call83 rfl ClipI .auto) ?_
  rintro _ _ ⟨u10, -, rfl, rfl⟩
  refine .p (.a rfl) (.n (.t (.e (.ret1 rfl rfl fun w s => ⟨_, ?_, trivial, finE .auto s⟩))))
  rfl

theorem lib_Look {W : World} {b bs br : Nat} {l : Lib} {p : Int} (hl : ∀ v ∈ l.vs, v.evs.length ≤ 1000000000) : Fn Tryz.prog W 11 [ptr b, .int .i64 p] [libX b bs br l] Value (fun u => .tuple #[.agg (vslE (u, lookV l p)).toArray, .bool (l.has p)]) (fun _ => True) (fun u => [sl evE 3 u (lookV l p).evs, libX b bs br l]) := by
  refine Fn.intro (N := 25) func11 rfl ntmps11 rfl fun F => ?_
  show GoC _ _ _ _ _ _ [libX b bs br l, F]
  refine .s (.r ?_)
  refine .does rfl (Does.alloc rfl zeroValue45 rfl) ?_
  rintro _ _ ⟨b4, rfl, rfl⟩
  refine .p (.a rfl) (.n (.t (.s (.s (.r (.p (.m rfl) (.p (.m rfl) ?_)))))))
  refine .does rfl (Does.callE rfl call34 rfl lib_hasW .auto) ?_
  rintro _ _ ⟨⟨⟩, -, rfl, rfl⟩
  refine .p (.not rfl) (.n (.t (.cond rfl (fun h10 => ?_) (fun h10 => ?_))))
  · rw [Bool.not_eq_true'] at h10
    rw [look_no h10, h10]
    refine .s (.r ?_)
    refine .p (.bld0 ([(.int .i64 0), (.int .i64 0), (.slice none 0 0)]) (by kernel_rfl)) ?_
    refine .does rfl (Does.sta (by exact sizeOf45) rfl rfl rfl (by rfl)) ?_
    rintro _ _ ⟨rfl, rfl⟩
    refine .p (.a rfl) (.n (.t (.e (.tr ?_))))
    refine .retCT rfl rfl isAgg45 (by exact sizeOf45) Cells.a rfl fun w s => ⟨.slice none 0 0, ?_, trivial, finE .auto s⟩
    rfl
  · rw [Bool.not_eq_false'] at h10
    obtain ⟨i, v, rfl, hv⟩ := has_nat (has_in h10)
    rw [look_yes h10 hv, h10]
    refine .o2 (C := libX b bs br l) .auto rfl ?_
    rintro vv vw -
    refine .o1 (C := vslsH vv l.vs) .auto rfl ?_
    rintro xs hxs
    have hxl := map_len hxs
    obtain ⟨x, hx, rfl⟩ := map_back hxs hv
    have hil := (List.getElem?_eq_some_iff.1 hx).1
    refine .v (.t (.s (.r (.p (.m rfl) (.p (.n rfl) (.p (.f rfl) (.p (.l rfl) (.p (.m rfl) ?_))))))))
    refine .p (.ix i rfl rfl rfl (by omega)) ?_
    refine .p (.la rfl (Cells.rd Rd.s hx)) ?_
    refine .fr .auto (all_out (f := fun x : Value × Vsl => sl evE 3 x.1 x.2.evs) hx) ?_
    refine .know (fun w s => Rd.isSl (Rd.sl .here) w s) fun hu0 => ?_
    have hone := vsl_one (x := x.2) hu0
    refine .does rfl (Does.alloc rfl zeroValue45 rfl) ?_
    rintro _ _ ⟨b6, rfl, rfl⟩
    refine .does rfl (Does.stp (by exact sizeOf45) rfl rfl hone rfl) ?_
    rintro _ _ ⟨rfl, rfl⟩
    refine .n (.t (.s (.r (.p (.f rfl) (.p (.l rfl) ?_)))))
    refine .does rfl (Does.callE rfl call46 rfl (CloneE (A := sl evE 3 x.1 x.2.evs) (xs := x.2.evs) (Rd.sl .here) (hl x.2 (List.mem_of_getElem? hv))) .auto) ?_
    rintro _ _ ⟨u21, -, rfl, rfl⟩
    refine .does rfl (Does.callE rfl call45 rfl ClipE .auto) ?_
    rintro _ _ ⟨u22, -, rfl, rfl⟩
    refine .know (fun w s => Rd.isSl (Rd.sl .auto) w s) fun hu22 => ?_
    refine .to (A := allH (fun x : Value × Vsl => sl evE 3 x.1 x.2.evs) xs) .auto (all_back (f := fun x : Value × Vsl => sl evE 3 x.1 x.2.evs) hx) ?_
    refine .p (.f rfl) ?_
    refine .does rfl (Does.stS sizeOf43 rfl rfl rfl) ?_
    rintro _ _ ⟨rfl, rfl⟩
    refine .n (.t (.s (.r (.p (.lA rfl) ?_))))
    refine .does rfl (Does.stp (by exact sizeOf45) rfl rfl (vsl_one hu22) rfl) ?_
    rintro _ _ ⟨rfl, rfl⟩
    refine .p (.a rfl) (.n (.t (.e ?_)))
    refine .retCT rfl rfl isAgg45 (by exact sizeOf45) Cells.a rfl fun w s => ⟨_, ?_, trivial, finE .auto s⟩
    rfl

theorem rows_Where {W : World} {b : Nat} {rs : List (List Int)} {t : Int} (hl : rs.length ≤ 64 ∧ ∀ r ∈ rs, r.length ≤ 1000000000) : Fn Tryz.prog W 85 [ptr b, .int .i64 t] [rwsH b rs] Unit (fun _ => .tuple #[.int .i64 (whereFrom t rs 0).1, .bool (whereFrom t rs 0).2]) (fun _ => True) (fun _ => [rwsH b rs]) := by
  refine Fn.intro (N := 35) func85 rfl ntmps85 rfl fun F => ?_
  show GoC _ _ _ _ _ _ [rwsH b rs, F]
  refine .o2 (C := rwsH b rs) .auto rfl ?_
  rintro v xs hxs
  have hxl := map_len hxs
  refine .s (.r (.p (.a rfl) (.p (.a rfl) (.n (.t (.s (.s (.r (.p (.m rfl) (.p (.eqp rfl rfl) (.n (.t (.condF rfl ?_)))))))))))))
  refine .v (.t (.s (.s (.r (.p (.m rfl) (.p (.n rfl) (.p (.z rfl) (.p (.l rfl) (.p (.len rfl) (.p (.m rfl) (.n (.t (.b ?_)))))))))))))
  refine .loopK (X := Nat) [4, 5, 6, 7, 9, 17, 18, 19, 20, 21, 22, 23, 24, 25, 26, 27, 28, 29, 30, 31, 32, 33, 34] (fun z => rs.length - z) (fun z => z ≤ rs.length ∧ whereFrom t rs 0 = whereFrom t (rs.drop z) z) (fun z => [(17, some (.int .i64 (z : Int)))]) (fun z => [arr b 0 [v], sl ptrE 1 v xs, allH (fun x : Nat × List Int => dqH x.1 x.2) xs, F]) 0 ?_ ?_ ?_ ?_
  · exact ⟨Nat.zero_le _, by rw [List.drop_zero]⟩
  · exact ⟨rfl, trivial⟩
  · exact fun w s => Ent.kept .auto w s
  rintro n ⟨hn, hw⟩
  refine .s (.r (.p (.lss rfl rfl) (.n (.t (.s (.condD rfl (fun h18 => ?_) (fun h18 => ?_)))))))
  · refine .v (.t (.s (.b (.s (.r ?_)))))
    obtain ⟨x, hx⟩ := at_some (show n < xs.length by omega)
    have hx2 := map_get hxs hx
    have hxl2 := hl.2 x.2 (List.mem_of_getElem? hx2)
    refine .p (.m rfl) ?_
    refine .p (.ix _ rfl rfl rfl (by first | omega | decide)) ?_
    refine .p (.lr rfl ‹_›) ?_
    refine .p (.a rfl) (.p (.a rfl) (.n (.t (.s (.r ?_)))))
    refine .fr .auto (all_out (f := fun x : Nat × List Int => dqH x.1 x.2) hx) ?_
    refine .p (.m rfl) ?_
    refine .does rfl (Does.callE rfl call63 rfl (deque_All (l := x.2) (hl.2 x.2 (List.mem_of_getElem? hx2))) .auto) ?_
    rintro _ _ ⟨u23, -, rfl, rfl⟩
    refine .to (A := allH (fun x : Nat × List Int => dqH x.1 x.2) xs) .auto (all_back (f := fun x : Nat × List Int => dqH x.1 x.2) hx) ?_
    refine .p (.len rfl) (.p (.m rfl) (.n (.t (.b ?_))))
    refine .loopK (X := Nat) [4, 5, 9, 25, 26, 27, 28, 29, 30, 31, 32, 33] (fun z => x.2.length - z) (fun z => z ≤ x.2.length ∧ t ∉ x.2.take z) (fun z => [(25, some (.int .i64 (z : Int)))]) (fun z => [sl intE 1 u23 x.2, arr b 0 [v], sl ptrE 1 v xs, allH (fun x : Nat × List Int => dqH x.1 x.2) xs, F]) 0 ?_ ?_ ?_ ?_
    · exact ⟨Nat.zero_le _, by simp⟩
    · exact ⟨rfl, trivial⟩
    · exact fun w s => Ent.kept .auto w s
    rintro j ⟨hj, hjt⟩
    refine .s (.r (.p (.lss rfl rfl) (.n (.t (.s (.condD rfl (fun h26 => ?_) (fun h26 => ?_)))))))
    · refine .v (.t (.s (.b (.s (.r ?_)))))
      obtain ⟨y, hy⟩ := at_some (show j < x.2.length by omega)
      refine .p (.ix _ rfl rfl rfl (by first | omega | decide)) ?_
      refine .p (.lr rfl hy) ?_
      refine .p (.a rfl) (.n (.t (.s (.r (.p (.m rfl) (.p (.m rfl) (.p (.eql rfl rfl) (.n (.t (.condD rfl (fun h31 => ?_) (fun h31 => ?_)))))))))))
      · rw [hw, where_yes hx2 (by rw [← h31]; exact List.mem_of_getElem? hy)]
        refine .s (.r (.p (.m rfl) (.p (.a rfl) (.p (.a rfl) (.n (.t (.e (.br (.tr (.tr (.br (.br (.tr (.tr (.br (.tr (.ret2 rfl rfl rfl fun w s => ⟨(), ?_, trivial, finE .auto s⟩)))))))))))))))))
        rfl
      · refine .v (.b (.t (.r ?_)))
        refine .p (.inc rfl rfl (by omega)) ?_
        refine .p (.m rfl) (.n ?_)
        refine .againK (j + 1) .auto rfl ?_ ?_ ?_ ?_
        · omega
        · exact ⟨by omega, by rw [take_snoc hy, List.mem_append]; rintro (h | h); exact hjt h; exact h31 (List.mem_singleton.1 h).symm⟩
        · exact ⟨rfl, trivial⟩
        · exact fun w s => Ent.kept .auto w s
    · obtain rfl : j = x.2.length := by omega
      rw [List.take_length] at hjt
      refine .x (.tx (.tx (.bh (.b (.t (.r ?_))))))
      refine .p (.inc rfl rfl (by omega)) ?_
      refine .p (.m rfl) (.n ?_)
      refine .againK (n + 1) .auto rfl ?_ ?_ ?_ ?_
      · omega
      · exact ⟨by omega, by rw [hw, where_no hx2 hjt]⟩
      · exact ⟨rfl, trivial⟩
      · exact fun w s => Ent.kept .auto w s
  · obtain rfl : n = rs.length := by omega
    rw [hw, where_end (Nat.le_refl _)]
    refine .x (.tx (.tx (.bh (.t (.s (.r (.p (.a rfl) (.p (.a rfl) (.n (.t (.e (.ret2 rfl rfl rfl fun w s => ⟨(), ?_, trivial, finE .auto s⟩))))))))))))
    rfl

end Go.SLYtnceicnimongcaaGreat
namespace Go.SLYtnceicnimongcaaGreat
open Go Go.RowKit Go.Proofs Go.Proofs.Tryz

theorem DeleteG {W : World} {v : Value} {xs : List Wtr} {i : Nat} (hi : i < xs.length) (_hl : xs.length ≤ 1000000000) : Fn Tryz.prog W 141 [v, .int .i64 (i : Int), .int .i64 ((i + 1 : Nat) : Int)] [sl wtrE 2 v xs] Value (fun u => u) (fun _ => True) (fun u => [sl wtrE 2 u (xs.eraseIdx i)]) := by
  refine Fn.intro (N := 33) func141 rfl ntmps141 rfl fun F => ?_
  show GoC _ _ _ _ _ _ [sl wtrE 2 v xs, F]
  have h0 : xs ≠ [] := by intro e; rw [e] at hi; simp at hi
  refine .know (fun w s => s.fact .auto (sl_shape h0)) fun e => ?_
  obtain ⟨b, cap, rfl, hc⟩ := e
  refine .s (.r (.p (.a rfl) (.n (.t (.s (.r (.p (.m rfl) (.p (.m rfl) (.p (.m rfl) (.p (.m rfl) (.p (.len rfl) ?_)))))))))))
  refine .p (.slice3 i (i + 1) xs.length underlying110 sizeOf212 rfl rfl rfl rfl rfl rfl rfl (by omega) (by omega) hc) ?_
  refine .n (.t (.s (.s (.r (.p (.m rfl) (.p (.m rfl) (.p (.eql rfl rfl) (.n (.t (.condD rfl (fun h16 => ?_) (fun h16 => ?_)))))))))))
  · exact absurd h16 (by omega)
  · refine .v (.t (.s (.r (.p (.m rfl) (.p (.len rfl) (.p (.a rfl) (.n (.t (.s ?_)))))))))
    refine .draw [] [1, 1, 1, 1, 1, 1, 3, 1] rfl (by kernel_rfl) ?_
    refine .p (.m rfl) (.p (.m rfl) ?_)
    refine .p (.slice0X i underlying110 sizeOf212 rfl rfl rfl (by omega)) ?_
    refine .p (.m rfl) (.p (.m rfl) ?_)
    refine .p (.sliceX0 (i + 1) underlying110 sizeOf212 rfl rfl rfl (by omega)) ?_
    refine .d3 rfl (Does.appendDel rfl underlying110 underlying110 typeInfo212 rfl rfl rfl .auto (by omega) (by omega) (wtrE_one _) h0) ?_
    rintro _ _ ⟨rfl, rfl⟩
    refine .p (.a rfl) (.n (.t (.s (.r (.p (.m rfl) (.p (.m rfl) (.p (.lens rfl) (.p (.m rfl) ?_))))))))
    refine .p (.sliceX (i + (xs.length - (i + 1))) xs.length underlying110 sizeOf212 rfl rfl rfl rfl rfl (by omega) hc) ?_
    refine .does rfl (Does.clearSp (xs := xs.take i ++ xs.drop (i + 1)) underlying110 zeroValue212 rfl rfl rfl rfl (by rw [List.length_append, List.length_take, List.length_drop]; omega) (by omega) .auto) ?_
    rintro _ _ ⟨rfl, rfl⟩
    refine .n (.t (.s (.r (.p (.m rfl) (.p (.a rfl) (.n (.t (.e ?_))))))))
    rw [erase_td]
    refine .ret1 rfl rfl fun w s => ⟨_, ?_, trivial, finE .auto s⟩
    rfl

theorem DeleteP {W : World} {v : Value} {xs : List Ptr} {i : Nat} (hi : i < xs.length) (_hl : xs.length ≤ 1000000000) : Fn Tryz.prog W 186 [v, .int .i64 (i : Int), .int .i64 ((i + 1 : Nat) : Int)] [sl putE 2 v xs] Value (fun u => u) (fun _ => True) (fun u => [sl putE 2 u (xs.eraseIdx i)]) := by
  refine Fn.intro (N := 33) func186 rfl ntmps186 rfl fun F => ?_
  show GoC _ _ _ _ _ _ [sl putE 2 v xs, F]
  have h0 : xs ≠ [] := by intro e; rw [e] at hi; simp at hi
  refine .know (fun w s => s.fact .auto (sl_shape h0)) fun e => ?_
  obtain ⟨b, cap, rfl, hc⟩ := e
  refine .s (.r (.p (.a rfl) (.n (.t (.s (.r (.p (.m rfl) (.p (.m rfl) (.p (.m rfl) (.p (.m rfl) (.p (.len rfl) ?_)))))))))))
  refine .p (.slice3 i (i + 1) xs.length underlying121 sizeOf257 rfl rfl rfl rfl rfl rfl rfl (by omega) (by omega) hc) ?_
  refine .n (.t (.s (.s (.r (.p (.m rfl) (.p (.m rfl) (.p (.eql rfl rfl) (.n (.t (.condD rfl (fun h16 => ?_) (fun h16 => ?_)))))))))))
  · exact absurd h16 (by omega)
  · refine .v (.t (.s (.r (.p (.m rfl) (.p (.len rfl) (.p (.a rfl) (.n (.t (.s ?_)))))))))
    refine .draw [] [1, 1, 1, 1, 1, 1, 3, 1] rfl (by kernel_rfl) ?_
    refine .p (.m rfl) (.p (.m rfl) ?_)
    refine .p (.slice0X i underlying121 sizeOf257 rfl rfl rfl (by omega)) ?_
    refine .p (.m rfl) (.p (.m rfl) ?_)
    refine .p (.sliceX0 (i + 1) underlying121 sizeOf257 rfl rfl rfl (by omega)) ?_
    refine .d3 rfl (Does.appendDel rfl underlying121 underlying121 typeInfo257 rfl rfl rfl .auto (by omega) (by omega) (putE_one _) h0) ?_
    rintro _ _ ⟨rfl, rfl⟩
    refine .p (.a rfl) (.n (.t (.s (.r (.p (.m rfl) (.p (.m rfl) (.p (.lens rfl) (.p (.m rfl) ?_))))))))
    refine .p (.sliceX (i + (xs.length - (i + 1))) xs.length underlying121 sizeOf257 rfl rfl rfl rfl rfl (by omega) hc) ?_
    refine .does rfl (Does.clearSp (xs := xs.take i ++ xs.drop (i + 1)) underlying121 zeroValue257 rfl rfl rfl rfl (by rw [List.length_append, List.length_take, List.length_drop]; omega) (by omega) .auto) ?_
    rintro _ _ ⟨rfl, rfl⟩
    refine .n (.t (.s (.r (.p (.m rfl) (.p (.a rfl) (.n (.t (.e ?_))))))))
    rw [erase_td]
    refine .ret1 rfl rfl fun w s => ⟨_, ?_, trivial, finE .auto s⟩
    rfl

theorem DeleteI {W : World} {v : Value} {xs : List Int} {i : Nat} (hi : i < xs.length) (_hl : xs.length ≤ 1000000000) : Fn Tryz.prog W 94 [v, .int .i64 (i : Int), .int .i64 ((i + 1 : Nat) : Int)] [sl intE 1 v xs] Value (fun u => u) (fun _ => True) (fun u => [sl intE 1 u (xs.eraseIdx i)]) := by
  refine Fn.intro (N := 33) func94 rfl ntmps94 rfl fun F => ?_
  show GoC _ _ _ _ _ _ [sl intE 1 v xs, F]
  have h0 : xs ≠ [] := by intro e; rw [e] at hi; simp at hi
  refine .know (fun w s => s.fact .auto (sl_shape h0)) fun e => ?_
  obtain ⟨b, cap, rfl, hc⟩ := e
  refine .s (.r (.p (.a rfl) (.n (.t (.s (.r (.p (.m rfl) (.p (.m rfl) (.p (.m rfl) (.p (.m rfl) (.p (.len rfl) ?_)))))))))))
  refine .p (.slice3 i (i + 1) xs.length underlying23 sizeOf3 rfl rfl rfl rfl rfl rfl rfl (by omega) (by omega) hc) ?_
  refine .n (.t (.s (.s (.r (.p (.m rfl) (.p (.m rfl) (.p (.eql rfl rfl) (.n (.t (.condD rfl (fun h16 => ?_) (fun h16 => ?_)))))))))))
  · exact absurd h16 (by omega)
  · refine .v (.t (.s (.r (.p (.m rfl) (.p (.len rfl) (.p (.a rfl) (.n (.t (.s ?_)))))))))
    refine .draw [] [1, 1, 1, 1, 1, 1, 3, 1] rfl (by kernel_rfl) ?_
    refine .p (.m rfl) (.p (.m rfl) ?_)
    refine .p (.slice0X i underlying23 sizeOf3 rfl rfl rfl (by omega)) ?_
    refine .p (.m rfl) (.p (.m rfl) ?_)
    refine .p (.sliceX0 (i + 1) underlying23 sizeOf3 rfl rfl rfl (by omega)) ?_
    refine .d3 rfl (Does.appendDel rfl underlying23 underlying23 typeInfo3 rfl rfl rfl .auto (by omega) (by omega) (intE_one _) h0) ?_
    rintro _ _ ⟨rfl, rfl⟩
    refine .p (.a rfl) (.n (.t (.s (.r (.p (.m rfl) (.p (.m rfl) (.p (.lens rfl) (.p (.m rfl) ?_))))))))
    refine .p (.sliceX (i + (xs.length - (i + 1))) xs.length underlying23 sizeOf3 rfl rfl rfl rfl rfl (by omega) hc) ?_
    refine .does rfl (Does.clearSp (xs := xs.take i ++ xs.drop (i + 1)) underlying23 zeroValue3 rfl rfl rfl rfl (by rw [List.length_append, List.length_take, List.length_drop]; omega) (by omega) .auto) ?_
    rintro _ _ ⟨rfl, rfl⟩
    refine .n (.t (.s (.r (.p (.m rfl) (.p (.a rfl) (.n (.t (.e ?_))))))))
    rw [erase_td]
    refine .ret1 rfl rfl fun w s => ⟨_, ?_, trivial, finE .auto s⟩
    rfl

theorem DeleteW {W : World} {v : Value} {xs : List Int} {i : Nat} (hi : i < xs.length) (_hl : xs.length ≤ 1000000000) : Fn Tryz.prog W 185 [v, .int .i64 (i : Int), .int .i64 ((i + 1 : Nat) : Int)] [sl wrdE 1 v xs] Value (fun u => u) (fun _ => True) (fun u => [sl wrdE 1 u (xs.eraseIdx i)]) := by
  refine Fn.intro (N := 33) func185 rfl ntmps185 rfl fun F => ?_
  show GoC _ _ _ _ _ _ [sl wrdE 1 v xs, F]
  have h0 : xs ≠ [] := by intro e; rw [e] at hi; simp at hi
  refine .know (fun w s => s.fact .auto (sl_shape h0)) fun e => ?_
  obtain ⟨b, cap, rfl, hc⟩ := e
  refine .s (.r (.p (.a rfl) (.n (.t (.s (.r (.p (.m rfl) (.p (.m rfl) (.p (.m rfl) (.p (.m rfl) (.p (.len rfl) ?_)))))))))))
  refine .p (.slice3 i (i + 1) xs.length underlying62 sizeOf78 rfl rfl rfl rfl rfl rfl rfl (by omega) (by omega) hc) ?_
  refine .n (.t (.s (.s (.r (.p (.m rfl) (.p (.m rfl) (.p (.eql rfl rfl) (.n (.t (.condD rfl (fun h16 => ?_) (fun h16 => ?_)))))))))))
  · exact absurd h16 (by omega)
  · refine .v (.t (.s (.r (.p (.m rfl) (.p (.len rfl) (.p (.a rfl) (.n (.t (.s ?_)))))))))
    refine .draw [] [1, 1, 1, 1, 1, 1, 3, 1] rfl (by kernel_rfl) ?_
    refine .p (.m rfl) (.p (.m rfl) ?_)
    refine .p (.slice0X i underlying62 sizeOf78 rfl rfl rfl (by omega)) ?_
    refine .p (.m rfl) (.p (.m rfl) ?_)
    refine .p (.sliceX0 (i + 1) underlying62 sizeOf78 rfl rfl rfl (by omega)) ?_
    refine .d3 rfl (Does.appendDel rfl underlying62 underlying62 typeInfo78 rfl rfl rfl .auto (by omega) (by omega) (wrdE_one _) h0) ?_
    rintro _ _ ⟨rfl, rfl⟩
    refine .p (.a rfl) (.n (.t (.s (.r (.p (.m rfl) (.p (.m rfl) (.p (.lens rfl) (.p (.m rfl) ?_))))))))
    refine .p (.sliceX (i + (xs.length - (i + 1))) xs.length underlying62 sizeOf78 rfl rfl rfl rfl rfl (by omega) hc) ?_
    refine .does rfl (Does.clearSp (xs := xs.take i ++ xs.drop (i + 1)) underlying62 zeroValue78 rfl rfl rfl rfl (by rw [List.length_append, List.length_take, List.length_drop]; omega) (by omega) .auto) ?_
    rintro _ _ ⟨rfl, rfl⟩
    refine .n (.t (.s (.r (.p (.m rfl) (.p (.a rfl) (.n (.t (.e ?_))))))))
    rw [erase_td]
    refine .ret1 rfl rfl fun w s => ⟨_, ?_, trivial, finE .auto s⟩
    rfl

theorem IndexFuncG {W : World} {A : HProp} {v : Value} {xs : List Wtr} {p : Wtr → Bool} {g : Nat} {c : Value} (hr : Rd W [A] wtrE 2 v xs) (hl : xs.length ≤ 1000000000) (hg : ∀ args w, (callFunc g args).run Tryz.prog w = .ok (.enter g args) w) (hf : ∀ x ∈ xs, Fn Tryz.prog W g [.agg (wtrE x).toArray, c] [A] Unit (fun _ => .bool (p x)) (fun _ => True) (fun _ => [A])) : Fn Tryz.prog W 194 [v, .func (.func g) #[] #[c]] [A] Unit (fun _ => .int .i64 (idxP p xs 0)) (fun _ => True) (fun _ => [A]) := by
  refine Fn.intro (N := 19) func194 rfl ntmps194 rfl fun F => ?_
  haveI hRI : ∀ (H : List HProp) [HasH H A], ReadsC W H v wtrE 2 xs := fun H h => ⟨hr.at h.has⟩
  show GoC _ _ _ _ _ _ [A, F]
  refine .s (.r (.p (.a rfl) (.n (.t (.s (.s (.r (.p (.m rfl) (.p (.len rfl) (.p (.m rfl) (.n (.t (.b ?_)))))))))))))
  refine .loopK (X := Nat) [4, 5, 8, 9, 10, 11, 12, 13, 14, 15, 16, 17, 18] (fun k => xs.length - k) (fun k => k ≤ xs.length ∧ idxP p xs 0 = idxP p (xs.drop k) k) (fun k => [(8, some (.int .i64 (k : Int)))]) (fun k => [A, F]) 0 ?_ ?_ ?_ ?_
  · exact ⟨Nat.zero_le _, by simp⟩
  · exact ⟨rfl, trivial⟩
  · exact fun w s => Ent.kept .auto w s
  rintro k ⟨hk, hn⟩
  refine .s (.r (.p (.lss rfl rfl) (.n (.t (.s (.condD rfl (fun h9 => ?_) (fun h9 => ?_)))))))
  · refine .v (.t (.s (.b (.s (.r (.p (.m rfl) (.p (.a rfl) (.n (.t (.s (.r (.p (.m rfl) (.p (.m rfl) (.p (.m rfl) ?_))))))))))))))
    obtain ⟨x, hx⟩ := at_some (show k < xs.length by omega)
    refine .p (.ix _ rfl rfl rfl (by first | omega | decide)) ?_
    refine .p (.la rfl (Cells.rd Rd.s ‹_›)) ?_
    refine .does rfl (Does.callvE rfl rfl hg rfl (hf x (List.mem_of_getElem? hx)) .auto) ?_
    rintro _ _ ⟨⟨⟩, -, rfl, rfl⟩
    refine .n (.t (.cond rfl (fun h16 => ?_) (fun h16 => ?_)))
    · refine .s (.r (.p (.m rfl) (.p (.a rfl) (.n (.t (.e (.br (.tr (.tr (.br (.tr (.ret1 rfl rfl fun w s => ⟨(), ?_, trivial, finE .auto s⟩))))))))))))
      rw [hn, idxP_hit hx h16]
    · refine .v (.b (.t (.r ?_)))
      refine .p (.inc rfl rfl (by omega)) ?_
      refine .p (.m rfl) (.n ?_)
      refine .againK (k + 1) .auto rfl ?_ ?_ ?_ ?_
      · first | omega | (dsimp only; omega)
      · exact ⟨by omega, hn.trans (idxP_miss hx h16)⟩
      · exact ⟨rfl, trivial⟩
      · exact fun w s => Ent.kept .auto w s
  · refine .x (.tx (.tx (.bh (.t (.s (.r (.p (.a rfl) (.n (.t (.e (.ret1 rfl rfl fun w s => ⟨(), ?_, trivial, finE .auto s⟩)))))))))))
    rw [hn, idxP_end (by omega)]

theorem ContainsFuncG {W : World} {A : HProp} {v : Value} {xs : List Wtr} {p : Wtr → Bool} {g : Nat} {c : Value} (hr : Rd W [A] wtrE 2 v xs) (hl : xs.length ≤ 1000000000) (hg : ∀ args w, (callFunc g args).run Tryz.prog w = .ok (.enter g args) w) (hf : ∀ x ∈ xs, Fn Tryz.prog W g [.agg (wtrE x).toArray, c] [A] Unit (fun _ => .bool (p x)) (fun _ => True) (fun _ => [A])) : Fn Tryz.prog W 178 [v, .func (.func g) #[] #[c]] [A] Unit (fun _ => .bool (xs.any p)) (fun _ => True) (fun _ => [A]) := by
  refine Fn.intro (N := 9) func178 rfl ntmps178 rfl fun F => ?_
  show GoC _ _ _ _ _ _ [A, F]
  refine .s (.r (.p (.a rfl) (.n (.t (.s (.r (.p (.m rfl) (.p (.m rfl) ?_))))))))
  refine .does rfl (Does.callE rfl call194 rfl (IndexFuncG hr hl hg hf) .auto) ?_
  rintro _ _ ⟨⟨⟩, -, rfl, rfl⟩
  refine .p (.geq rfl rfl) (.p (.a rfl) (.n (.t (.e (.ret1 rfl rfl fun w s => ⟨(), ?_, trivial, finE .auto s⟩)))))
  rw [← idxP_any xs 0]

theorem IndexFuncQ {W : World} {A : HProp} {v : Value} {xs : List Rqs} {p : Rqs → Bool} {g : Nat} {c : Value} (hr : Rd W [A] rqsE 4 v xs) (hl : xs.length ≤ 1000000000) (hg : ∀ args w, (callFunc g args).run Tryz.prog w = .ok (.enter g args) w) (hf : ∀ x ∈ xs, Fn Tryz.prog W g [.agg (rqsE x).toArray, c] [A] Unit (fun _ => .bool (p x)) (fun _ => True) (fun _ => [A])) : Fn Tryz.prog W 182 [v, .func (.func g) #[] #[c]] [A] Unit (fun _ => .int .i64 (idxP p xs 0)) (fun _ => True) (fun _ => [A]) := by
  refine Fn.intro (N := 19) func182 rfl ntmps182 rfl fun F => ?_
  haveI hRI : ∀ (H : List HProp) [HasH H A], ReadsC W H v rqsE 4 xs := fun H h => ⟨hr.at h.has⟩
  show GoC _ _ _ _ _ _ [A, F]
  refine .s (.r (.p (.a rfl) (.n (.t (.s (.s (.r (.p (.m rfl) (.p (.len rfl) (.p (.m rfl) (.n (.t (.b ?_)))))))))))))
  refine .loopK (X := Nat) [4, 5, 8, 9, 10, 11, 12, 13, 14, 15, 16, 17, 18] (fun k => xs.length - k) (fun k => k ≤ xs.length ∧ idxP p xs 0 = idxP p (xs.drop k) k) (fun k => [(8, some (.int .i64 (k : Int)))]) (fun k => [A, F]) 0 ?_ ?_ ?_ ?_
  · exact ⟨Nat.zero_le _, by simp⟩
  · exact ⟨rfl, trivial⟩
  · exact fun w s => Ent.kept .auto w s
  rintro k ⟨hk, hn⟩
  refine .s (.r (.p (.lss rfl rfl) (.n (.t (.s (.condD rfl (fun h9 => ?_) (fun h9 => ?_)))))))
  · refine .v (.t (.s (.b (.s (.r (.p (.m rfl) (.p (.a rfl) (.n (.t (.s (.r (.p (.m rfl) (.p (.m rfl) (.p (.m rfl) ?_))))))))))))))
    obtain ⟨x, hx⟩ := at_some (show k < xs.length by omega)
    refine .p (.ix _ rfl rfl rfl (by first | omega | decide)) ?_
    refine .p (.la rfl (Cells.rd Rd.s ‹_›)) ?_
    refine .does rfl (Does.callvE rfl rfl hg rfl (hf x (List.mem_of_getElem? hx)) .auto) ?_
    rintro _ _ ⟨⟨⟩, -, rfl, rfl⟩
    refine .n (.t (.cond rfl (fun h16 => ?_) (fun h16 => ?_)))
    · refine .s (.r (.p (.m rfl) (.p (.a rfl) (.n (.t (.e (.br (.tr (.tr (.br (.tr (.ret1 rfl rfl fun w s => ⟨(), ?_, trivial, finE .auto s⟩))))))))))))
      rw [hn, idxP_hit hx h16]
    · refine .v (.b (.t (.r ?_)))
      refine .p (.inc rfl rfl (by omega)) ?_
      refine .p (.m rfl) (.n ?_)
      refine .againK (k + 1) .auto rfl ?_ ?_ ?_ ?_
      · first | omega | (dsimp only; omega)
      · exact ⟨by omega, hn.trans (idxP_miss hx h16)⟩
      · exact ⟨rfl, trivial⟩
      · exact fun w s => Ent.kept .auto w s
  · refine .x (.tx (.tx (.bh (.t (.s (.r (.p (.a rfl) (.n (.t (.e (.ret1 rfl rfl fun w s => ⟨(), ?_, trivial, finE .auto s⟩)))))))))))
    rw [hn, idxP_end (by omega)]

theorem ContainsFuncQ {W : World} {A : HProp} {v : Value} {xs : List Rqs} {p : Rqs → Bool} {g : Nat} {c : Value} (hr : Rd W [A] rqsE 4 v xs) (hl : xs.length ≤ 1000000000) (hg : ∀ args w, (callFunc g args).run Tryz.prog w = .ok (.enter g args) w) (hf : ∀ x ∈ xs, Fn Tryz.prog W g [.agg (rqsE x).toArray, c] [A] Unit (fun _ => .bool (p x)) (fun _ => True) (fun _ => [A])) : Fn Tryz.prog W 165 [v, .func (.func g) #[] #[c]] [A] Unit (fun _ => .bool (xs.any p)) (fun _ => True) (fun _ => [A]) := by
  refine Fn.intro (N := 9) func165 rfl ntmps165 rfl fun F => ?_
  show GoC _ _ _ _ _ _ [A, F]
  refine .s (.r (.p (.a rfl) (.n (.t (.s (.r (.p (.m rfl) (.p (.m rfl) ?_))))))))
  refine .does rfl (Does.callE rfl call182 rfl (IndexFuncQ hr hl hg hf) .auto) ?_
  rintro _ _ ⟨⟨⟩, -, rfl, rfl⟩
  refine .p (.geq rfl rfl) (.p (.a rfl) (.n (.t (.e (.ret1 rfl rfl fun w s => ⟨(), ?_, trivial, finE .auto s⟩)))))
  rw [← idxP_any xs 0]

theorem IndexFuncP {W : World} {A : HProp} {v : Value} {xs : List Ptr} {p : Ptr → Bool} {g : Nat} {c : Value} (hr : Rd W [A] putE 2 v xs) (hl : xs.length ≤ 1000000000) (hg : ∀ args w, (callFunc g args).run Tryz.prog w = .ok (.enter g args) w) (hf : ∀ x ∈ xs, Fn Tryz.prog W g [.agg (putE x).toArray, c] [A] Unit (fun _ => .bool (p x)) (fun _ => True) (fun _ => [A])) : Fn Tryz.prog W 195 [v, .func (.func g) #[] #[c]] [A] Unit (fun _ => .int .i64 (idxP p xs 0)) (fun _ => True) (fun _ => [A]) := by
  refine Fn.intro (N := 19) func195 rfl ntmps195 rfl fun F => ?_
  haveI hRI : ∀ (H : List HProp) [HasH H A], ReadsC W H v putE 2 xs := fun H h => ⟨hr.at h.has⟩
  show GoC _ _ _ _ _ _ [A, F]
  refine .s (.r (.p (.a rfl) (.n (.t (.s (.s (.r (.p (.m rfl) (.p (.len rfl) (.p (.m rfl) (.n (.t (.b ?_)))))))))))))
  refine .loopK (X := Nat) [4, 5, 8, 9, 10, 11, 12, 13, 14, 15, 16, 17, 18] (fun k => xs.length - k) (fun k => k ≤ xs.length ∧ idxP p xs 0 = idxP p (xs.drop k) k) (fun k => [(8, some (.int .i64 (k : Int)))]) (fun k => [A, F]) 0 ?_ ?_ ?_ ?_
  · exact ⟨Nat.zero_le _, by simp⟩
  · exact ⟨rfl, trivial⟩
  · exact fun w s => Ent.kept .auto w s
  rintro k ⟨hk, hn⟩
  refine .s (.r (.p (.lss rfl rfl) (.n (.t (.s (.condD rfl (fun h9 => ?_) (fun h9 => ?_)))))))
  · refine .v (.t (.s (.b (.s (.r (.p (.m rfl) (.p (.a rfl) (.n (.t (.s (.r (.p (.m rfl) (.p (.m rfl) (.p (.m rfl) ?_))))))))))))))
    obtain ⟨x, hx⟩ := at_some (show k < xs.length by omega)
    refine .p (.ix _ rfl rfl rfl (by first | omega | decide)) ?_
    refine .p (.la rfl (Cells.rd Rd.s ‹_›)) ?_
    refine .does rfl (Does.callvE rfl rfl hg rfl (hf x (List.mem_of_getElem? hx)) .auto) ?_
    rintro _ _ ⟨⟨⟩, -, rfl, rfl⟩
    refine .n (.t (.cond rfl (fun h16 => ?_) (fun h16 => ?_)))
    · refine .s (.r (.p (.m rfl) (.p (.a rfl) (.n (.t (.e (.br (.tr (.tr (.br (.tr (.ret1 rfl rfl fun w s => ⟨(), ?_, trivial, finE .auto s⟩))))))))))))
      rw [hn, idxP_hit hx h16]
    · refine .v (.b (.t (.r ?_)))
      refine .p (.inc rfl rfl (by omega)) ?_
      refine .p (.m rfl) (.n ?_)
      refine .againK (k + 1) .auto rfl ?_ ?_ ?_ ?_
      · first | omega | (dsimp only; omega)
      · exact ⟨by omega, hn.trans (idxP_miss hx h16)⟩
      · exact ⟨rfl, trivial⟩
      · exact fun w s => Ent.kept .auto w s
  · refine .x (.tx (.tx (.bh (.t (.s (.r (.p (.a rfl) (.n (.t (.e (.ret1 rfl rfl fun w s => ⟨(), ?_, trivial, finE .auto s⟩)))))))))))
    rw [hn, idxP_end (by omega)]

theorem ContainsFuncP {W : World} {A : HProp} {v : Value} {xs : List Ptr} {p : Ptr → Bool} {g : Nat} {c : Value} (hr : Rd W [A] putE 2 v xs) (hl : xs.length ≤ 1000000000) (hg : ∀ args w, (callFunc g args).run Tryz.prog w = .ok (.enter g args) w) (hf : ∀ x ∈ xs, Fn Tryz.prog W g [.agg (putE x).toArray, c] [A] Unit (fun _ => .bool (p x)) (fun _ => True) (fun _ => [A])) : Fn Tryz.prog W 183 [v, .func (.func g) #[] #[c]] [A] Unit (fun _ => .bool (xs.any p)) (fun _ => True) (fun _ => [A]) := by
  refine Fn.intro (N := 9) func183 rfl ntmps183 rfl fun F => ?_
  show GoC _ _ _ _ _ _ [A, F]
  refine .s (.r (.p (.a rfl) (.n (.t (.s (.r (.p (.m rfl) (.p (.m rfl) ?_))))))))
  refine .does rfl (Does.callE rfl call195 rfl (IndexFuncP hr hl hg hf) .auto) ?_
  rintro _ _ ⟨⟨⟩, -, rfl, rfl⟩
  refine .p (.geq rfl rfl) (.p (.a rfl) (.n (.t (.e (.ret1 rfl rfl fun w s => ⟨(), ?_, trivial, finE .auto s⟩)))))
  rw [← idxP_any xs 0]

theorem IndexFuncM {W : World} {A : HProp} {v : Value} {xs : List (Value × Mtx)} {p : (Value × Mtx) → Bool} {g : Nat} {c : Value} (hr : Rd W [A] mtxE 3 v xs) (hl : xs.length ≤ 1000000000) (hg : ∀ args w, (callFunc g args).run Tryz.prog w = .ok (.enter g args) w) (hf : ∀ x ∈ xs, Fn Tryz.prog W g [.agg (mtxE x).toArray, c] [A] Unit (fun _ => .bool (p x)) (fun _ => True) (fun _ => [A])) : Fn Tryz.prog W 177 [v, .func (.func g) #[] #[c]] [A] Unit (fun _ => .int .i64 (idxP p xs 0)) (fun _ => True) (fun _ => [A]) := by
  refine Fn.intro (N := 19) func177 rfl ntmps177 rfl fun F => ?_
  haveI hRI : ∀ (H : List HProp) [HasH H A], ReadsC W H v mtxE 3 xs := fun H h => ⟨hr.at h.has⟩
  show GoC _ _ _ _ _ _ [A, F]
  refine .s (.r (.p (.a rfl) (.n (.t (.s (.s (.r (.p (.m rfl) (.p (.len rfl) (.p (.m rfl) (.n (.t (.b ?_)))))))))))))
  refine .loopK (X := Nat) [4, 5, 8, 9, 10, 11, 12, 13, 14, 15, 16, 17, 18] (fun k => xs.length - k) (fun k => k ≤ xs.length ∧ idxP p xs 0 = idxP p (xs.drop k) k) (fun k => [(8, some (.int .i64 (k : Int)))]) (fun k => [A, F]) 0 ?_ ?_ ?_ ?_
  · exact ⟨Nat.zero_le _, by simp⟩
  · exact ⟨rfl, trivial⟩
  · exact fun w s => Ent.kept .auto w s
  rintro k ⟨hk, hn⟩
  refine .s (.r (.p (.lss rfl rfl) (.n (.t (.s (.condD rfl (fun h9 => ?_) (fun h9 => ?_)))))))
  · refine .v (.t (.s (.b (.s (.r (.p (.m rfl) (.p (.a rfl) (.n (.t (.s (.r (.p (.m rfl) (.p (.m rfl) (.p (.m rfl) ?_))))))))))))))
    obtain ⟨x, hx⟩ := at_some (show k < xs.length by omega)
    refine .p (.ix _ rfl rfl rfl (by first | omega | decide)) ?_
    refine .p (.la rfl (Cells.rd Rd.s ‹_›)) ?_
    refine .does rfl (Does.callvE rfl rfl hg rfl (hf x (List.mem_of_getElem? hx)) .auto) ?_
    rintro _ _ ⟨⟨⟩, -, rfl, rfl⟩
    refine .n (.t (.cond rfl (fun h16 => ?_) (fun h16 => ?_)))
    · refine .s (.r (.p (.m rfl) (.p (.a rfl) (.n (.t (.e (.br (.tr (.tr (.br (.tr (.ret1 rfl rfl fun w s => ⟨(), ?_, trivial, finE .auto s⟩))))))))))))
      rw [hn, idxP_hit hx h16]
    · refine .v (.b (.t (.r ?_)))
      refine .p (.inc rfl rfl (by omega)) ?_
      refine .p (.m rfl) (.n ?_)
      refine .againK (k + 1) .auto rfl ?_ ?_ ?_ ?_
      · first | omega | (dsimp only; omega)
      · exact ⟨by omega, hn.trans (idxP_miss hx h16)⟩
      · exact ⟨rfl, trivial⟩
      · exact fun w s => Ent.kept .auto w s
  · refine .x (.tx (.tx (.bh (.t (.s (.r (.p (.a rfl) (.n (.t (.e (.ret1 rfl rfl fun w s => ⟨(), ?_, trivial, finE .auto s⟩)))))))))))
    rw [hn, idxP_end (by omega)]

theorem ContainsFuncM {W : World} {A : HProp} {v : Value} {xs : List (Value × Mtx)} {p : (Value × Mtx) → Bool} {g : Nat} {c : Value} (hr : Rd W [A] mtxE 3 v xs) (hl : xs.length ≤ 1000000000) (hg : ∀ args w, (callFunc g args).run Tryz.prog w = .ok (.enter g args) w) (hf : ∀ x ∈ xs, Fn Tryz.prog W g [.agg (mtxE x).toArray, c] [A] Unit (fun _ => .bool (p x)) (fun _ => True) (fun _ => [A])) : Fn Tryz.prog W 158 [v, .func (.func g) #[] #[c]] [A] Unit (fun _ => .bool (xs.any p)) (fun _ => True) (fun _ => [A]) := by
  refine Fn.intro (N := 9) func158 rfl ntmps158 rfl fun F => ?_
  show GoC _ _ _ _ _ _ [A, F]
  refine .s (.r (.p (.a rfl) (.n (.t (.s (.r (.p (.m rfl) (.p (.m rfl) ?_))))))))
  refine .does rfl (Does.callE rfl call177 rfl (IndexFuncM hr hl hg hf) .auto) ?_
  rintro _ _ ⟨⟨⟩, -, rfl, rfl⟩
  refine .p (.geq rfl rfl) (.p (.a rfl) (.n (.t (.e (.ret1 rfl rfl fun w s => ⟨(), ?_, trivial, finE .auto s⟩)))))
  rw [← idxP_any xs 0]

theorem IndexFuncR {W : World} {A : HProp} {v : Value} {xs : List (Value × List Wtr)} {p : (Value × List Wtr) → Bool} {g : Nat} {c : Value} (hr : Rd W [A] fstE 1 v xs) (hl : xs.length ≤ 1000000000) (hg : ∀ args w, (callFunc g args).run Tryz.prog w = .ok (.enter g args) w) (hf : ∀ x ∈ xs, Fn Tryz.prog W g [.agg (fstE x).toArray, c] [A] Unit (fun _ => .bool (p x)) (fun _ => True) (fun _ => [A])) : Fn Tryz.prog W 180 [v, .func (.func g) #[] #[c]] [A] Unit (fun _ => .int .i64 (idxP p xs 0)) (fun _ => True) (fun _ => [A]) := by
  refine Fn.intro (N := 19) func180 rfl ntmps180 rfl fun F => ?_
  haveI hRI : ∀ (H : List HProp) [HasH H A], ReadsC W H v fstE 1 xs := fun H h => ⟨hr.at h.has⟩
  show GoC _ _ _ _ _ _ [A, F]
  refine .s (.r (.p (.a rfl) (.n (.t (.s (.s (.r (.p (.m rfl) (.p (.len rfl) (.p (.m rfl) (.n (.t (.b ?_)))))))))))))
  refine .loopK (X := Nat) [4, 5, 8, 9, 10, 11, 12, 13, 14, 15, 16, 17, 18] (fun k => xs.length - k) (fun k => k ≤ xs.length ∧ idxP p xs 0 = idxP p (xs.drop k) k) (fun k => [(8, some (.int .i64 (k : Int)))]) (fun k => [A, F]) 0 ?_ ?_ ?_ ?_
  · exact ⟨Nat.zero_le _, by simp⟩
  · exact ⟨rfl, trivial⟩
  · exact fun w s => Ent.kept .auto w s
  rintro k ⟨hk, hn⟩
  refine .s (.r (.p (.lss rfl rfl) (.n (.t (.s (.condD rfl (fun h9 => ?_) (fun h9 => ?_)))))))
  · refine .v (.t (.s (.b (.s (.r (.p (.m rfl) (.p (.a rfl) (.n (.t (.s (.r (.p (.m rfl) (.p (.m rfl) (.p (.m rfl) ?_))))))))))))))
    obtain ⟨x, hx⟩ := at_some (show k < xs.length by omega)
    refine .p (.ix _ rfl rfl rfl (by first | omega | decide)) ?_
    refine .p (.la rfl (Cells.rd Rd.s ‹_›)) ?_
    refine .does rfl (Does.callvE rfl rfl hg rfl (hf x (List.mem_of_getElem? hx)) .auto) ?_
    rintro _ _ ⟨⟨⟩, -, rfl, rfl⟩
    refine .n (.t (.cond rfl (fun h16 => ?_) (fun h16 => ?_)))
    · refine .s (.r (.p (.m rfl) (.p (.a rfl) (.n (.t (.e (.br (.tr (.tr (.br (.tr (.ret1 rfl rfl fun w s => ⟨(), ?_, trivial, finE .auto s⟩))))))))))))
      rw [hn, idxP_hit hx h16]
    · refine .v (.b (.t (.r ?_)))
      refine .p (.inc rfl rfl (by omega)) ?_
      refine .p (.m rfl) (.n ?_)
      refine .againK (k + 1) .auto rfl ?_ ?_ ?_ ?_
      · first | omega | (dsimp only; omega)
      · exact ⟨by omega, hn.trans (idxP_miss hx h16)⟩
      · exact ⟨rfl, trivial⟩
      · exact fun w s => Ent.kept .auto w s
  · refine .x (.tx (.tx (.bh (.t (.s (.r (.p (.a rfl) (.n (.t (.e (.ret1 rfl rfl fun w s => ⟨(), ?_, trivial, finE .auto s⟩)))))))))))
    rw [hn, idxP_end (by omega)]

theorem ContainsFuncR {W : World} {A : HProp} {v : Value} {xs : List (Value × List Wtr)} {p : (Value × List Wtr) → Bool} {g : Nat} {c : Value} (hr : Rd W [A] fstE 1 v xs) (hl : xs.length ≤ 1000000000) (hg : ∀ args w, (callFunc g args).run Tryz.prog w = .ok (.enter g args) w) (hf : ∀ x ∈ xs, Fn Tryz.prog W g [.agg (fstE x).toArray, c] [A] Unit (fun _ => .bool (p x)) (fun _ => True) (fun _ => [A])) : Fn Tryz.prog W 161 [v, .func (.func g) #[] #[c]] [A] Unit (fun _ => .bool (xs.any p)) (fun _ => True) (fun _ => [A]) := by
  refine Fn.intro (N := 9) func161 rfl ntmps161 rfl fun F => ?_
  show GoC _ _ _ _ _ _ [A, F]
  refine .s (.r (.p (.a rfl) (.n (.t (.s (.r (.p (.m rfl) (.p (.m rfl) ?_))))))))
  refine .does rfl (Does.callE rfl call180 rfl (IndexFuncR hr hl hg hf) .auto) ?_
  rintro _ _ ⟨⟨⟩, -, rfl, rfl⟩
  refine .p (.geq rfl rfl) (.p (.a rfl) (.n (.t (.e (.ret1 rfl rfl fun w s => ⟨(), ?_, trivial, finE .auto s⟩)))))
  rw [← idxP_any xs 0]

theorem IndexFuncS {W : World} {A : HProp} {v : Value} {xs : List (Value × Smp)} {p : (Value × Smp) → Bool} {g : Nat} {c : Value} (hr : Rd W [A] smpE 2 v xs) (hl : xs.length ≤ 1000000000) (hg : ∀ args w, (callFunc g args).run Tryz.prog w = .ok (.enter g args) w) (hf : ∀ x ∈ xs, Fn Tryz.prog W g [.agg (smpE x).toArray, c] [A] Unit (fun _ => .bool (p x)) (fun _ => True) (fun _ => [A])) : Fn Tryz.prog W 181 [v, .func (.func g) #[] #[c]] [A] Unit (fun _ => .int .i64 (idxP p xs 0)) (fun _ => True) (fun _ => [A]) := by
  refine Fn.intro (N := 19) func181 rfl ntmps181 rfl fun F => ?_
  haveI hRI : ∀ (H : List HProp) [HasH H A], ReadsC W H v smpE 2 xs := fun H h => ⟨hr.at h.has⟩
  show GoC _ _ _ _ _ _ [A, F]
  refine .s (.r (.p (.a rfl) (.n (.t (.s (.s (.r (.p (.m rfl) (.p (.len rfl) (.p (.m rfl) (.n (.t (.b ?_)))))))))))))
  refine .loopK (X := Nat) [4, 5, 8, 9, 10, 11, 12, 13, 14, 15, 16, 17, 18] (fun k => xs.length - k) (fun k => k ≤ xs.length ∧ idxP p xs 0 = idxP p (xs.drop k) k) (fun k => [(8, some (.int .i64 (k : Int)))]) (fun k => [A, F]) 0 ?_ ?_ ?_ ?_
  · exact ⟨Nat.zero_le _, by simp⟩
  · exact ⟨rfl, trivial⟩
  · exact fun w s => Ent.kept .auto w s
  rintro k ⟨hk, hn⟩
  refine .s (.r (.p (.lss rfl rfl) (.n (.t (.s (.condD rfl (fun h9 => ?_) (fun h9 => ?_)))))))
  · refine .v (.t (.s (.b (.s (.r (.p (.m rfl) (.p (.a rfl) (.n (.t (.s (.r (.p (.m rfl) (.p (.m rfl) (.p (.m rfl) ?_))))))))))))))
    obtain ⟨x, hx⟩ := at_some (show k < xs.length by omega)
    refine .p (.ix _ rfl rfl rfl (by first | omega | decide)) ?_
    refine .p (.la rfl (Cells.rd Rd.s ‹_›)) ?_
    refine .does rfl (Does.callvE rfl rfl hg rfl (hf x (List.mem_of_getElem? hx)) .auto) ?_
    rintro _ _ ⟨⟨⟩, -, rfl, rfl⟩
    refine .n (.t (.cond rfl (fun h16 => ?_) (fun h16 => ?_)))
    · refine .s (.r (.p (.m rfl) (.p (.a rfl) (.n (.t (.e (.br (.tr (.tr (.br (.tr (.ret1 rfl rfl fun w s => ⟨(), ?_, trivial, finE .auto s⟩))))))))))))
      rw [hn, idxP_hit hx h16]
    · refine .v (.b (.t (.r ?_)))
      refine .p (.inc rfl rfl (by omega)) ?_
      refine .p (.m rfl) (.n ?_)
      refine .againK (k + 1) .auto rfl ?_ ?_ ?_ ?_
      · first | omega | (dsimp only; omega)
      · exact ⟨by omega, hn.trans (idxP_miss hx h16)⟩
      · exact ⟨rfl, trivial⟩
      · exact fun w s => Ent.kept .auto w s
  · refine .x (.tx (.tx (.bh (.t (.s (.r (.p (.a rfl) (.n (.t (.e (.ret1 rfl rfl fun w s => ⟨(), ?_, trivial, finE .auto s⟩)))))))))))
    rw [hn, idxP_end (by omega)]

theorem ContainsFuncS {W : World} {A : HProp} {v : Value} {xs : List (Value × Smp)} {p : (Value × Smp) → Bool} {g : Nat} {c : Value} (hr : Rd W [A] smpE 2 v xs) (hl : xs.length ≤ 1000000000) (hg : ∀ args w, (callFunc g args).run Tryz.prog w = .ok (.enter g args) w) (hf : ∀ x ∈ xs, Fn Tryz.prog W g [.agg (smpE x).toArray, c] [A] Unit (fun _ => .bool (p x)) (fun _ => True) (fun _ => [A])) : Fn Tryz.prog W 163 [v, .func (.func g) #[] #[c]] [A] Unit (fun _ => .bool (xs.any p)) (fun _ => True) (fun _ => [A]) := by
  refine Fn.intro (N := 9) func163 rfl ntmps163 rfl fun F => ?_
  show GoC _ _ _ _ _ _ [A, F]
  refine .s (.r (.p (.a rfl) (.n (.t (.s (.r (.p (.m rfl) (.p (.m rfl) ?_))))))))
  refine .does rfl (Does.callE rfl call181 rfl (IndexFuncS hr hl hg hf) .auto) ?_
  rintro _ _ ⟨⟨⟩, -, rfl, rfl⟩
  refine .p (.geq rfl rfl) (.p (.a rfl) (.n (.t (.e (.ret1 rfl rfl fun w s => ⟨(), ?_, trivial, finE .auto s⟩)))))
  rw [← idxP_any xs 0]

end Go.SLYtnceicnimongcaaGreat
namespace Go.SLYtnceicnimongcaaGreat
open Go Go.RowKit Go.Proofs Go.Proofs.Tryz

theorem slot_Find {W : World} {b : Nat} {l : List (Bool × Int)} {h : Int} (hl : TakeOk l) (h0 : 0 ≤ h) : Fn Tryz.prog W 131 [ptr b, .int .u64 h] [tblH b l] Unit (fun _ => findV (slotFind l h)) (fun _ => True) (fun _ => [tblH b l]) := by
  refine Fn.intro (N := 50) func131 rfl ntmps131 rfl fun F => ?_
  show GoC _ _ _ _ _ _ [tblH b l, F]
  refine .s (.r (.p (.a rfl) (.p (.a rfl) (.n (.t (.s (.s (.r (.p (.m rfl) (.p (.eqp rfl rfl) (.p (.m rfl) (.g (.m rfl) ?_))))))))))))
  refine .g (.valW (Y.rem rfl rfl (by omega)) (tmod_pos h0)) ?_
  refine .g (.eql rfl rfl) (.p (.u rfl rfl) (.n (.t (.condD rfl (fun h13 => ?_) (fun h13 => ?_)))))
  · refine .s (.r (.p (.a rfl) (.p (.a rfl) (.n (.t (.e (.tr (.ret2 rfl rfl rfl fun w s => ⟨(), ?_, trivial, finE .auto s⟩))))))))
    rw [find_zero h13]; rfl
  · refine .v (.t (.s (.r ?_)))
    refine .o1 (C := tblH b l) .auto rfl ?_
    rintro v -
    obtain ⟨hl1, hl2⟩ := hl
    have hm : h % 65536 < 65536 := by omega
    have ho : (hh : hN h < l.length) → l[hN h]? = some (slotAt l (hN h)) := getD_some
    refine .p (.m rfl) ?_
    refine .p (.valW (Y.rem rfl rfl (by omega)) (tmod_pos h0)) ?_
    refine .p (.convI underlying78 underlying3 rfl (by omega)) ?_
    refine .p (.valW (Y.sub rfl rfl (by omega)) (hN_cast h13)) ?_
    refine .p (.a rfl) (.n (.t (.s (.s (.r (.p (.m rfl) (.p (.m rfl) (.p (.n rfl) (.p (.z rfl) (.p (.l rfl) (.p (.len rfl) (.p (.geq rfl rfl) (.p (.m rfl) ?_)))))))))))))
    apply GoL.segOD 10 35 25 [25, 26, 27, 28, 29, 30, 31, 32, 33, 34, 35] rfl
    · intro h25
      have hlt : hN h < l.length := by omega
      refine .g (.m rfl) (.g (.n rfl) (.g (.z rfl) (.g (.l rfl) (.g (.m rfl) ?_))))
      refine .g (.ixRd (hN h) underlying101 sizeOf158 rfl rfl Rd.s rfl hlt) ?_
      refine .g (.z rfl) ?_
      refine .g (.ld rfl (Cell.rd0 Rd.s (ho (by omega)) (by rfl))) ?_
      refine .g (.not rfl) (.p (.u rfl rfl) (.n ?_))
      refine .seg .auto rfl (by first | exact fun _ h => h | exact Ent.kept .auto)
    · intro h25
      refine .u (.u (.u (.u (.u (.u (.u (.u (.u (.p (.t rfl rfl) (.n ?_))))))))))
      refine .seg .auto rfl (by first | exact fun _ h => h | exact Ent.kept .auto)
    refine .p (.m rfl) ?_
    apply GoL.segO 12 48 36 [36, 37, 38, 39, 40, 41, 42, 43, 44, 45, 46, 47, 48] rfl
    · intro h36
      simp only [Bool.or_eq_false_iff, decide_eq_false_iff_not] at h36
      have hlt : hN h < l.length := by omega
      have hob := hl2 _ (List.mem_of_getElem? (ho hlt))
      refine .g (.m rfl) (.g (.n rfl) (.g (.z rfl) (.g (.l rfl) (.g (.m rfl) ?_))))
      refine .g (.ixRd (hN h) underlying101 sizeOf158 rfl rfl Rd.s rfl hlt) ?_
      refine .g (.la rfl (Cells.rd Rd.s (ho (by omega)))) ?_
      refine .g (.m rfl) ?_
      refine .dg rfl rfl rfl (Does.callE rfl call72 rfl (slot_handle (o := slotAt l (hN h)) (n := hN h) (by omega) (by omega)) .auto) ?_
      rintro _ _ ⟨⟨⟩, -, rfl, rfl⟩
      refine .g (.m rfl) (.g (.neq rfl rfl) (.p (.u rfl rfl) (.n ?_)))
      refine .seg .auto rfl (by first | exact fun _ h => h | exact Ent.kept .auto)
    · intro h36
      refine .u (.u (.u (.u (.u (.u (.u (.u (.u (.u (.u (.p (.t rfl rfl) (.n ?_))))))))))))
      refine .seg .auto rfl (by first | exact fun _ h => h | exact Ent.kept .auto)
    refine .n (.t (.cond rfl (fun h48 => ?_) (fun h48 => ?_)))
    · refine .s (.r (.p (.a rfl) (.p (.a rfl) (.n (.t (.e (.tr (.ret2 rfl rfl rfl fun w s => ⟨(), ?_, trivial, finE .auto s⟩))))))))
      rw [find_eq h13, if_pos (by simpa using h48)]; rfl
    · refine .v (.t (.s (.r (.p (.m rfl) (.p (.a rfl) (.p (.a rfl) (.n (.t (.e (.ret2 rfl rfl rfl fun w s => ⟨(), ?_, trivial, finE .auto s⟩))))))))))
      rw [find_eq h13, if_neg (by simpa using h48)]; rfl

theorem slot_Free {W : World} {b : Nat} {l : List (Bool × Int)} {h : Int} (hl : TakeOk l) (h0 : 0 ≤ h) : Fn Tryz.prog W 109 [ptr b, .int .u64 h] [tblH b l] Int (fun e => .int .i64 e) (fun _ => True) (fun _ => [tblH b (slotFreed l h)]) := by
  refine Fn.intro (N := 22) func109 rfl ntmps109 rfl fun F => ?_
  show GoC _ _ _ _ _ _ [tblH b l, F]
  refine .s (.r (.p (.a rfl) (.n (.t (.s (.r (.p (.m rfl) (.p (.m rfl) ?_))))))))
  refine .does rfl (Does.callE rfl call131 rfl (slot_Find hl h0) .auto) ?_
  rintro _ _ ⟨⟨⟩, -, rfl, rfl⟩
  refine .p (.m rfl) (.p (.extract rfl rfl) (.p (.extract rfl rfl) (.p (.a rfl) (.p (.a rfl) (.n (.t (.s (.s (.r (.p (.m rfl) (.p (.not rfl) (.n (.t (.cond rfl (fun h14 => ?_) (fun h14 => ?_)))))))))))))))
  · refine .s (.r (.p (.a rfl) (.n (.t (.e (.tr ?_))))))
    rw [freed_none (show slotFind l h = none from by cases e : slotFind l h with
      | none => rfl
      | some n => rw [e] at h14; cases h14)]
    refine .ret1 rfl rfl fun w s => ⟨3, ?_, trivial, finE .auto s⟩
    rfl
  · refine .v (.t (.s (.r ?_)))
    refine .o1 (C := tblH b l) .auto rfl ?_
    rintro v -
    obtain ⟨n, hn⟩ : ∃ n, slotFind l h = some n := by cases e : slotFind l h with
      | none => rw [e] at h14; cases h14
      | some n => exact ⟨n, rfl⟩
    obtain ⟨hlt, -⟩ := find_lt hn
    have ho : l[n]? = some (slotAt l n) := getD_some hlt
    obtain ⟨u, tk, hut⟩ : ∃ u tk, slotAt l n = (u, tk) := ⟨_, _, rfl⟩
    rw [hut] at ho
    refine .p (.m rfl) (.p (.n rfl) (.p (.z rfl) (.p (.l rfl) (.p (.m rfl) ?_))))
    refine .p (.ixRd n underlying101 sizeOf158 rfl (by rw [hn]; rfl) Rd.s rfl hlt) ?_
    refine .p (.z rfl) ?_
    refine .does rfl (Does.storeSl0 (x' := (false, tk)) rfl rfl sizeOf4 rfl ho (by decide) rfl .auto) ?_
    rintro _ _ ⟨rfl, rfl⟩
    refine .n (.t (.s (.r (.p (.a rfl) (.n (.t (.e ?_)))))))
    rw [freed_some hn, hut]
    refine .ret1 rfl rfl fun w s => ⟨0, ?_, trivial, finE .auto s⟩
    rfl

theorem has_f {W : World} {A : HProp} {x : Wtr} {c : Nat} {who : Int} : Fn Tryz.prog W 179 [.agg (wtrE x).toArray, ptr c] [seps [arr c 0 [.int .i64 who], A]] Unit (fun _ => .bool (decide (x.who = who))) (fun _ => True) (fun _ => [seps [arr c 0 [.int .i64 who], A]]) := by
  refine Fn.intro (N := 8) func179 rfl ntmps179 rfl fun F => ?_
  show GoC _ _ _ _ _ _ [seps [arr c 0 [.int .i64 who], A], F]
  refine .ungrp .auto ?_
  refine .s (.r ?_)
  refine .does rfl (Does.box rfl rfl rfl) ?_
  rintro _ _ ⟨b2, rfl, rfl⟩
  refine .p (.a rfl) (.n (.t (.s (.r (.p (.z rfl) (.p (.l rfl) (.p (.l rfl) (.p (.eql rfl rfl) (.p (.a rfl) (.n (.t (.e (.ret1 rfl rfl fun w s => ⟨(), ?_, trivial, finE .auto s⟩)))))))))))))
  rfl

theorem row_has {W : World} {A : HProp} {b : Nat} {u : Value} {cs : List Value} {l : List Wtr} {who : Int} (hr : Rd W [A] wtrE 2 u l) (hl : l.length ≤ 1000000) : Fn Tryz.prog W 160 [ptr b, .int .i64 who] [arr b 0 (u :: cs), A] Unit (fun _ => .bool (hasW l who)) (fun _ => True) (fun _ => [arr b 0 (u :: cs), A]) := by
  refine Fn.intro (N := 11) func160 rfl ntmps160 rfl fun F => ?_
  show GoC _ _ _ _ _ _ [arr b 0 (u :: cs), A, F]
  refine .s (.r ?_)
  refine .does rfl (Does.box rfl rfl rfl) ?_
  rintro _ _ ⟨b3, rfl, rfl⟩
  refine .p (.a rfl) (.n (.t (.s (.r (.p (.m rfl) (.p (.n rfl) (.p (.z rfl) (.p (.l rfl) (.p (.makeFunc rfl rfl) ?_)))))))))
  refine .does rfl (Does.callE rfl call178 rfl (ContainsFuncG (A := seps [arr b3 0 [.int .i64 who], A]) (p := fun w => decide (w.who = who)) (Rd.grp (Rd.at hr (.there .here))) (by omega) call179 (fun x _ => has_f)) .auto) ?_
  rintro _ _ ⟨⟨⟩, -, rfl, rfl⟩
  refine .ungrp .auto ?_
  refine .p (.a rfl) (.n (.t (.e (.ret1 rfl rfl fun w s => ⟨(), ?_, trivial, finE .auto s⟩))))
  rfl

theorem waits_f1 {W : World} {A : HProp} {x : Value × Mtx} {c : Nat} {who : Int} (hr : Rd W [A] wtrE 2 x.1 x.2.wait) (hl : x.2.wait.length ≤ 1000000) : Fn Tryz.prog W 159 [.agg (mtxE x).toArray, ptr c] [seps [arr c 0 [.int .i64 who], A]] Unit (fun _ => .bool (hasW x.2.wait who)) (fun _ => True) (fun _ => [seps [arr c 0 [.int .i64 who], A]]) := by
  refine Fn.intro (N := 7) func159 rfl ntmps159 rfl fun F => ?_
  show GoC _ _ _ _ _ _ [seps [arr c 0 [.int .i64 who], A], F]
  refine .ungrp .auto ?_
  refine .s (.r ?_)
  refine .does rfl (Does.box rfl rfl rfl) ?_
  rintro _ _ ⟨b2, rfl, rfl⟩
  refine .mem (H' := [arr b2 0 (mtxE x), arr c 0 [.int .i64 who], A, F]) (fun w s => s) ?_
  refine .p (.a rfl) (.n (.t (.s (.r (.p (.z rfl) (.p (.l rfl) ?_))))))
  refine .does rfl (Does.callE rfl call160 rfl (row_has hr hl) .auto) ?_
  rintro _ _ ⟨⟨⟩, -, rfl, rfl⟩
  refine .p (.a rfl) (.n (.t (.e (.ret1 rfl rfl fun w s => ⟨(), ?_, trivial, finE .auto s⟩))))
  rfl

theorem waits_f2 {W : World} {A : HProp} {x : Value × List Wtr} {c : Nat} {who : Int} (hr : Rd W [A] wtrE 2 x.1 x.2) (hl : x.2.length ≤ 1000000) : Fn Tryz.prog W 162 [.agg (fstE x).toArray, ptr c] [seps [arr c 0 [.int .i64 who], A]] Unit (fun _ => .bool (hasW x.2 who)) (fun _ => True) (fun _ => [seps [arr c 0 [.int .i64 who], A]]) := by
  refine Fn.intro (N := 6) func162 rfl ntmps162 rfl fun F => ?_
  show GoC _ _ _ _ _ _ [seps [arr c 0 [.int .i64 who], A], F]
  refine .ungrp .auto ?_
  refine .s (.r ?_)
  refine .does rfl (Does.box rfl rfl rfl) ?_
  rintro _ _ ⟨b2, rfl, rfl⟩
  refine .mem (H' := [arr b2 0 (fstE x), arr c 0 [.int .i64 who], A, F]) (fun w s => s) ?_
  refine .p (.a rfl) (.n (.t (.s (.r (.p (.l rfl) ?_)))))
  refine .does rfl (Does.callE rfl call160 rfl (row_has hr hl) .auto) ?_
  rintro _ _ ⟨⟨⟩, -, rfl, rfl⟩
  refine .p (.a rfl) (.n (.t (.e (.ret1 rfl rfl fun w s => ⟨(), ?_, trivial, finE .auto s⟩))))
  rfl

theorem waits_f3 {W : World} {A : HProp} {x : Value × Smp} {c : Nat} {who : Int} (hr : Rd W [A] wtrE 2 x.1 x.2.wait) (hl : x.2.wait.length ≤ 1000000) : Fn Tryz.prog W 164 [.agg (smpE x).toArray, ptr c] [seps [arr c 0 [.int .i64 who], A]] Unit (fun _ => .bool (hasW x.2.wait who)) (fun _ => True) (fun _ => [seps [arr c 0 [.int .i64 who], A]]) := by
  refine Fn.intro (N := 7) func164 rfl ntmps164 rfl fun F => ?_
  show GoC _ _ _ _ _ _ [seps [arr c 0 [.int .i64 who], A], F]
  refine .ungrp .auto ?_
  refine .s (.r ?_)
  refine .does rfl (Does.box rfl rfl rfl) ?_
  rintro _ _ ⟨b2, rfl, rfl⟩
  refine .mem (H' := [arr b2 0 (smpE x), arr c 0 [.int .i64 who], A, F]) (fun w s => s) ?_
  refine .p (.a rfl) (.n (.t (.s (.r (.p (.z rfl) (.p (.l rfl) ?_))))))
  refine .does rfl (Does.callE rfl call160 rfl (row_has hr hl) .auto) ?_
  rintro _ _ ⟨⟨⟩, -, rfl, rfl⟩
  refine .p (.a rfl) (.n (.t (.e (.ret1 rfl rfl fun w s => ⟨(), ?_, trivial, finE .auto s⟩))))
  rfl

theorem gate_waits {W : World} {b : Nat} {g : Gates} {who : Int} {vm vc vs : Value} (hg : GatesLen g) : Fn Tryz.prog W 137 [ptr b, .int .i64 who] [arr b 0 [vm, vc, vs], mtxsH vm g.mtx, cndsH vc g.cnd, smpsH vs g.sem] Unit (fun _ => .bool (g.waits who)) (fun _ => True) (fun _ => [arr b 0 [vm, vc, vs], mtxsH vm g.mtx, cndsH vc g.cnd, smpsH vs g.sem]) := by
  refine Fn.intro (N := 27) func137 rfl ntmps137 rfl fun F => ?_
  show GoC _ _ _ _ _ _ [arr b 0 [vm, vc, vs], mtxsH vm g.mtx, cndsH vc g.cnd, smpsH vs g.sem, F]
  refine .o1 (C := mtxsH vm g.mtx) .auto rfl ?_
  rintro xm hxm
  refine .o1 (C := cndsH vc g.cnd) .auto rfl ?_
  rintro xc hxc
  refine .o1 (C := smpsH vs g.sem) .auto rfl ?_
  rintro xs hxs
  have hlm := map_len hxm
  have hlc := map_len hxc
  have hls := map_len hxs
  have hm2 : ∀ x ∈ xm, x.2.wait.length ≤ 1000000 := fun x hx => hg.mw _ (hxm ▸ List.mem_map_of_mem hx)
  have hc2 : ∀ x ∈ xc, x.2.length ≤ 1000000 := fun x hx => hg.cw _ (hxc ▸ List.mem_map_of_mem hx)
  have hs2 : ∀ x ∈ xs, x.2.wait.length ≤ 1000000 := fun x hx => hg.sw _ (hxs ▸ List.mem_map_of_mem hx)
  obtain ⟨hg1, hg2, hg3, -, -, -⟩ := hg
  refine .s (.r ?_)
  refine .does rfl (Does.box rfl rfl rfl) ?_
  rintro _ _ ⟨b3, rfl, rfl⟩
  refine .p (.a rfl) (.n (.t (.s (.r (.p (.m rfl) (.p (.n rfl) (.p (.z rfl) (.p (.l rfl) (.p (.makeFunc rfl rfl) ?_)))))))))
  refine .does rfl (Does.callE rfl call158 rfl (ContainsFuncM (A := seps [arr b3 0 [.int .i64 who], seps [sl mtxE 3 vm xm, allH (fun x => sl wtrE 2 x.1 x.2.wait) xm]]) (p := fun x => hasW x.2.wait who) (Rd.grp (Rd.at (Rd.grp (Rd.sl .here)) (.there .here))) (by omega) call159 (fun x hx => waits_f1 (Rd.grp (rd_one (f := fun x : Value × Mtx => x.1) (g := fun x => x.2.wait) hx (.there .here))) (hm2 x hx))) .auto) ?_
  rintro _ _ ⟨⟨⟩, -, rfl, rfl⟩
  refine .ungrp .auto ?_
  refine .ungrp .auto ?_
  refine .p (.m rfl) ?_
  apply GoL.segO 7 18 11 [11, 12, 13, 14, 15, 16, 17, 18] rfl
  · intro h11
    refine .g (.m rfl) (.g (.n rfl) (.g (.f rfl) (.g (.l rfl) (.g (.makeFunc rfl rfl) ?_))))
    refine .dg rfl rfl rfl (Does.callE rfl call161 rfl (ContainsFuncR (A := seps [arr b3 0 [.int .i64 who], seps [sl fstE 1 vc xc, allH (fun x => sl wtrE 2 x.1 x.2) xc]]) (p := fun x => hasW x.2 who) (Rd.grp (Rd.at (Rd.grp (Rd.sl .here)) (.there .here))) (by omega) call162 (fun x hx => waits_f2 (Rd.grp (rd_one (f := fun x : Value × List Wtr => x.1) (g := fun x => x.2) hx (.there .here))) (hc2 x hx))) .auto) ?_
    rintro _ _ ⟨⟨⟩, -, rfl, rfl⟩
    refine .ungrp .auto ?_
    refine .ungrp .auto ?_
    refine .p (.u rfl rfl) (.n ?_)
    refine .seg .auto rfl (by first | exact fun _ h => h | exact Ent.kept .auto)
  · intro h11
    refine .u (.u (.u (.u (.u (.u (.p (.t rfl rfl) (.n ?_)))))))
    refine .seg .auto rfl (by first | exact fun _ h => h | exact Ent.kept .auto)
  refine .p (.m rfl) ?_
  apply GoL.segO 7 26 19 [19, 20, 21, 22, 23, 24, 25, 26] rfl
  · intro h19
    refine .g (.m rfl) (.g (.n rfl) (.g (.f rfl) (.g (.l rfl) (.g (.makeFunc rfl rfl) ?_))))
    refine .dg rfl rfl rfl (Does.callE rfl call163 rfl (ContainsFuncS (A := seps [arr b3 0 [.int .i64 who], seps [sl smpE 2 vs xs, allH (fun x => sl wtrE 2 x.1 x.2.wait) xs]]) (p := fun x => hasW x.2.wait who) (Rd.grp (Rd.at (Rd.grp (Rd.sl .here)) (.there .here))) (by omega) call164 (fun x hx => waits_f3 (Rd.grp (rd_one (f := fun x : Value × Smp => x.1) (g := fun x => x.2.wait) hx (.there .here))) (hs2 x hx))) .auto) ?_
    rintro _ _ ⟨⟨⟩, -, rfl, rfl⟩
    refine .ungrp .auto ?_
    refine .ungrp .auto ?_
    refine .p (.u rfl rfl) (.n ?_)
    refine .seg .auto rfl (by first | exact fun _ h => h | exact Ent.kept .auto)
  · intro h19
    refine .u (.u (.u (.u (.u (.u (.p (.t rfl rfl) (.n ?_)))))))
    refine .seg .auto rfl (by first | exact fun _ h => h | exact Ent.kept .auto)
  refine .p (.a rfl) (.n (.t (.e (.ret1 rfl rfl fun w s => ⟨(), ?_, trivial, finE .auto s⟩))))
  exact retB (waits_eq hxm hxc hxs)

theorem gate_mutex {W : World} {b : Nat} {l : List (Mtx)} {m : Int} {vm vc vs : Value} : Fn Tryz.prog W 136 [ptr b, .int .i64 m] [arr b 0 [vm, vc, vs], mtxsH vm l] Unit (fun _ => elP vm l.length 3 m) (fun _ => True) (fun _ => [arr b 0 [vm, vc, vs], mtxsH vm l]) := by
  refine Fn.intro (N := 26) func136 rfl ntmps136 rfl fun F => ?_
  show GoC _ _ _ _ _ _ [arr b 0 [vm, vc, vs], mtxsH vm l, F]
  refine .o1 (C := mtxsH vm l) .auto rfl ?_
  rintro xs hxs
  have hl := map_len hxs
  refine .s (.r (.p (.a rfl) (.n (.t (.s (.s (.r (.p (.m rfl) (.p (.eqp rfl rfl) (.p (.m rfl) (.g (.m rfl) (.g (.lss rfl rfl) (.p (.u rfl rfl) (.p (.m rfl) ?_))))))))))))))
  apply GoL.segOD 8 19 11 [11, 12, 13, 14, 15, 16, 17, 18, 19] rfl
  · intro h11
    refine .g (.m rfl) (.g (.m rfl) (.g (.n rfl) (.g (.z rfl) (.g (.l rfl) (.g (.len rfl) (.g (.geq rfl rfl) (.p (.u rfl rfl) (.n ?_))))))))
    refine .seg .auto rfl (by first | exact fun _ h => h | exact Ent.kept .auto)
  · intro h11
    refine .u (.u (.u (.u (.u (.u (.u (.p (.t rfl rfl) (.n ?_))))))))
    refine .seg .auto rfl (by first | exact fun _ h => h | exact Ent.kept .auto)
  refine .n (.t (.cond rfl (fun h19 => ?_) (fun h19 => ?_)))
  · simp only [Bool.or_eq_true, decide_eq_true_eq] at h19
    refine .s (.r (.p (.a rfl) (.n (.t (.e (.tr (.ret1 rfl rfl fun w s => ⟨(), ?_, trivial, finE .auto s⟩)))))))
    rw [elP_nil (by omega)]
  · simp only [Bool.or_eq_false_iff, decide_eq_false_iff_not] at h19
    refine .v (.t (.s (.r (.p (.m rfl) (.p (.n rfl) (.p (.z rfl) (.p (.l rfl) (.p (.m rfl) ?_))))))))
    refine .p (.ix m.toNat rfl rfl (by omega) (by omega)) ?_
    refine .p (.a rfl) (.n (.t (.e (.ret1 rfl rfl fun w s => ⟨(), ?_, trivial, finE .auto s⟩))))
    rw [elP_some (by omega)]

theorem gate_cond {W : World} {b : Nat} {l : List (List Wtr)} {m : Int} {vm vc vs : Value} : Fn Tryz.prog W 120 [ptr b, .int .i64 m] [arr b 0 [vm, vc, vs], cndsH vc l] Unit (fun _ => elP vc l.length 1 m) (fun _ => True) (fun _ => [arr b 0 [vm, vc, vs], cndsH vc l]) := by
  refine Fn.intro (N := 26) func120 rfl ntmps120 rfl fun F => ?_
  show GoC _ _ _ _ _ _ [arr b 0 [vm, vc, vs], cndsH vc l, F]
  refine .o1 (C := cndsH vc l) .auto rfl ?_
  rintro xs hxs
  have hl := map_len hxs
  refine .s (.r (.p (.a rfl) (.n (.t (.s (.s (.r (.p (.m rfl) (.p (.eqp rfl rfl) (.p (.m rfl) (.g (.m rfl) (.g (.lss rfl rfl) (.p (.u rfl rfl) (.p (.m rfl) ?_))))))))))))))
  apply GoL.segOD 8 19 11 [11, 12, 13, 14, 15, 16, 17, 18, 19] rfl
  · intro h11
    refine .g (.m rfl) (.g (.m rfl) (.g (.n rfl) (.g (.f rfl) (.g (.l rfl) (.g (.len rfl) (.g (.geq rfl rfl) (.p (.u rfl rfl) (.n ?_))))))))
    refine .seg .auto rfl (by first | exact fun _ h => h | exact Ent.kept .auto)
  · intro h11
    refine .u (.u (.u (.u (.u (.u (.u (.p (.t rfl rfl) (.n ?_))))))))
    refine .seg .auto rfl (by first | exact fun _ h => h | exact Ent.kept .auto)
  refine .n (.t (.cond rfl (fun h19 => ?_) (fun h19 => ?_)))
  · simp only [Bool.or_eq_true, decide_eq_true_eq] at h19
    refine .s (.r (.p (.a rfl) (.n (.t (.e (.tr (.ret1 rfl rfl fun w s => ⟨(), ?_, trivial, finE .auto s⟩)))))))
    rw [elP_nil (by omega)]
  · simp only [Bool.or_eq_false_iff, decide_eq_false_iff_not] at h19
    refine .v (.t (.s (.r (.p (.m rfl) (.p (.n rfl) (.p (.f rfl) (.p (.l rfl) (.p (.m rfl) ?_))))))))
    refine .p (.ix m.toNat rfl rfl (by omega) (by omega)) ?_
    refine .p (.a rfl) (.n (.t (.e (.ret1 rfl rfl fun w s => ⟨(), ?_, trivial, finE .auto s⟩))))
    rw [elP_some (by omega)]

theorem gate_sem {W : World} {b : Nat} {l : List (Smp)} {m : Int} {vm vc vs : Value} : Fn Tryz.prog W 143 [ptr b, .int .i64 m] [arr b 0 [vm, vc, vs], smpsH vs l] Unit (fun _ => elP vs l.length 2 m) (fun _ => True) (fun _ => [arr b 0 [vm, vc, vs], smpsH vs l]) := by
  refine Fn.intro (N := 26) func143 rfl ntmps143 rfl fun F => ?_
  show GoC _ _ _ _ _ _ [arr b 0 [vm, vc, vs], smpsH vs l, F]
  refine .o1 (C := smpsH vs l) .auto rfl ?_
  rintro xs hxs
  have hl := map_len hxs
  refine .s (.r (.p (.a rfl) (.n (.t (.s (.s (.r (.p (.m rfl) (.p (.eqp rfl rfl) (.p (.m rfl) (.g (.m rfl) (.g (.lss rfl rfl) (.p (.u rfl rfl) (.p (.m rfl) ?_))))))))))))))
  apply GoL.segOD 8 19 11 [11, 12, 13, 14, 15, 16, 17, 18, 19] rfl
  · intro h11
    refine .g (.m rfl) (.g (.m rfl) (.g (.n rfl) (.g (.f rfl) (.g (.l rfl) (.g (.len rfl) (.g (.geq rfl rfl) (.p (.u rfl rfl) (.n ?_))))))))
    refine .seg .auto rfl (by first | exact fun _ h => h | exact Ent.kept .auto)
  · intro h11
    refine .u (.u (.u (.u (.u (.u (.u (.p (.t rfl rfl) (.n ?_))))))))
    refine .seg .auto rfl (by first | exact fun _ h => h | exact Ent.kept .auto)
  refine .n (.t (.cond rfl (fun h19 => ?_) (fun h19 => ?_)))
  · simp only [Bool.or_eq_true, decide_eq_true_eq] at h19
    refine .s (.r (.p (.a rfl) (.n (.t (.e (.tr (.ret1 rfl rfl fun w s => ⟨(), ?_, trivial, finE .auto s⟩)))))))
    rw [elP_nil (by omega)]
  · simp only [Bool.or_eq_false_iff, decide_eq_false_iff_not] at h19
    refine .v (.t (.s (.r (.p (.m rfl) (.p (.n rfl) (.p (.f rfl) (.p (.l rfl) (.p (.m rfl) ?_))))))))
    refine .p (.ix m.toNat rfl rfl (by omega) (by omega)) ?_
    refine .p (.a rfl) (.n (.t (.e (.ret1 rfl rfl fun w s => ⟨(), ?_, trivial, finE .auto s⟩))))
    rw [elP_some (by omega)]

theorem row_add {W : World} {b o : Nat} {l : List Wtr} {x : Wtr} (hl : l.length ≤ 100000000) : Fn Tryz.prog W 140 [.pointer (some ⟨b, o, none⟩), .agg (wtrE x).toArray] [rowH b o l] Unit (fun _ => .tuple #[]) (fun _ => True) (fun _ => [rowH b o (l ++ [x])]) := by
  refine Fn.intro (N := 14) func140 rfl ntmps140 rfl fun F => ?_
  show GoC _ _ _ _ _ _ [rowH b o l, F]
  refine .o1 (C := rowH b o l) .auto rfl ?_
  rintro v -
  refine .s (.r ?_)
  refine .does rfl (Does.box rfl rfl rfl) ?_
  rintro _ _ ⟨b3, rfl, rfl⟩
  refine .mem (H' := [arr b3 0 (wtrE x), arr b o [v], sl wtrE 2 v l, F]) (fun w s => s) ?_
  refine .n (.t ?_)
  refine .draw [arr b o [v]] [0, 0, 0, 0, 0, 1, 2, 2, 1, 1, 3] rfl (by kernel_rfl) ?_
  refine .q (.m rfl) (.q (.m rfl) (.q (.n rfl) (.q (.z rfl) (.q (.lz rfl) (.p (.lA rfl) ?_)))))
  refine .d2 rfl Kept.auto (Does.bsl 212 rfl rfl (by kernel_rfl)) (by rintro _ _ ⟨b10, rfl, rfl⟩; exact Kept.auto) ?_
  rintro _ _ ⟨b10, rfl, rfl⟩
  refine .mem (H' := [arr b10 0 (wtrE x), arr b3 0 (wtrE x), arr b o [v], sl wtrE 2 v l, F]) (fun w s => s) ?_
  refine .d2 rfl Kept.auto (Does.app1 (enc := wtrE) (k := 2) x rfl underlying110 underlying110 typeInfo212 rfl rfl rfl (by decide) rfl rfl rfl .auto rfl .auto (by omega) rfl) (by rintro _ _ ⟨v11, rfl, rfl⟩; exact Kept.auto) ?_
  rintro _ _ ⟨v11, rfl, rfl⟩
  refine .p (.n rfl) (.p (.z rfl) ?_)
  refine .d3 rfl (Does.stzS sizeOf110 rfl rfl rfl) ?_
  rintro _ _ ⟨rfl, rfl⟩
  refine .n (.end0 rfl fun w s => ⟨(), ?_, trivial, finE .auto s⟩)
  rfl

theorem row_take {W : World} {b o : Nat} {l : List Wtr} {c : Int} (hl : l.length ≤ 1000000) : Fn Tryz.prog W 121 [.pointer (some ⟨b, o, none⟩), .int .i64 c] [rowH b o l] Unit (fun _ => .tuple #[.agg (wtrE (takeW l c).1).toArray, .bool (takeW l c).2.1]) (fun _ => True) (fun _ => [rowH b o (takeW l c).2.2]) := by
  refine Fn.intro (N := 43) func121 rfl ntmps121 rfl fun F => ?_
  show GoC _ _ _ _ _ _ [rowH b o l, F]
  refine .o1 (C := rowH b o l) .auto rfl ?_
  rintro v -
  refine .s (.r ?_)
  refine .does rfl (Does.alloc rfl zeroValue212 rfl) ?_
  rintro _ _ ⟨b4, rfl, rfl⟩
  refine .p (.a rfl) (.n (.t (.s (.r (.p (.m rfl) (.p (.n rfl) (.p (.z rfl) (.p (.lz rfl) (.p (.len rfl) (.p (.a rfl) (.n (.t (.s (.s (.r (.p (.m rfl) (.p (.eql rfl rfl) (.n (.t (.condD rfl (fun h15 => ?_) (fun h15 => ?_)))))))))))))))))))))
  · refine .s (.r ?_)
    refine .p (.bld0 ([(.int .i64 0), (.int .i64 0)]) (by kernel_rfl)) ?_
    refine .does rfl (Does.sta (by exact sizeOf212) rfl rfl rfl (by rfl)) ?_
    rintro _ _ ⟨rfl, rfl⟩
    refine .p (.a rfl) (.n (.t (.e (.tr ?_))))
    rw [take_no (show l.length = 0 by omega)]
    refine .retCT rfl rfl isAgg212 (by exact sizeOf212) Cells.a rfl fun w s => ⟨(), ?_, trivial, finE .auto s⟩
    rfl
  · refine .v (.t (.s (.r ?_)))
    have hpk : pick c l.length < l.length := pick_lt (by omega)
    refine .p (.m rfl) (.p (.m rfl) ?_)
    refine .p (.rem rfl rfl (by omega)) ?_
    refine .p (.m rfl) ?_
    refine .p (.add rfl rfl (pick_bd (by omega) (by omega))) ?_
    refine .p (.m rfl) ?_
    refine .p (.valW (Y.rem rfl rfl (by omega)) (pick_int (by omega))) ?_
    refine .p (.a rfl) (.n (.t (.s (.r (.p (.m rfl) (.p (.n rfl) (.p (.z rfl) (.p (.lz rfl) (.p (.m rfl) ?_)))))))))
    refine .p (.ixRd (pick c l.length) underlying110 sizeOf212 rfl rfl Rd.s rfl hpk) ?_
    refine .p (.la rfl (Cells.rd Rd.s (getD_some (d := ⟨0, 0⟩) hpk))) ?_
    refine .does rfl (Does.alloc rfl zeroValue212 rfl) ?_
    rintro _ _ ⟨b8, rfl, rfl⟩
    refine .does rfl (Does.sta (by exact sizeOf212) rfl rfl rfl (by rfl)) ?_
    rintro _ _ ⟨rfl, rfl⟩
    refine .n (.t (.s (.r (.p (.m rfl) (.p (.m rfl) (.p (.n rfl) (.p (.z rfl) (.p (.lz rfl) (.p (.m rfl) (.p (.m rfl) ?_))))))))))
    refine .p (.inc rfl rfl (by omega)) ?_
    refine .does rfl (Does.callE rfl call141 rfl (DeleteG hpk (by omega)) .auto) ?_
    rintro _ _ ⟨u39, -, rfl, rfl⟩
    refine .p (.n rfl) (.p (.z rfl) ?_)
    refine .does rfl (Does.stzS sizeOf110 rfl rfl rfl) ?_
    rintro _ _ ⟨rfl, rfl⟩
    refine .n (.t (.s (.r (.p (.lA rfl) ?_))))
    refine .does rfl (Does.sta (by exact sizeOf212) rfl rfl rfl (by rfl)) ?_
    rintro _ _ ⟨rfl, rfl⟩
    refine .p (.a rfl) (.n (.t (.e ?_)))
    rw [take_ok (show ¬ l.length = 0 by omega)]
    refine .retCT rfl rfl isAgg212 (by exact sizeOf212) Cells.a rfl fun w s => ⟨(), ?_, trivial, finE .auto s⟩
    rfl

theorem mutex_is {W : World} {b o : Nat} {m : Mtx} {who : Int} : Fn Tryz.prog W 138 [.pointer (some ⟨b, o, none⟩), .int .i64 who] [mtxAt b o m] Unit (fun _ => .bool (m.is who)) (fun _ => True) (fun _ => [mtxAt b o m]) := by
  refine Fn.intro (N := 17) func138 rfl ntmps138 rfl fun F => ?_
  show GoC _ _ _ _ _ _ [mtxAt b o m, F]
  refine .o1 (C := mtxAt b o m) .auto rfl ?_
  rintro u -
  refine .s (.r (.p (.a rfl) (.n (.t (.s (.r (.p (.m rfl) (.p (.n rfl) (.p (.o rfl) (.p (.lo rfl) (.p (.m rfl) ?_)))))))))))
  apply GoL.segA 7 16 9 [9, 10, 11, 12, 13, 14, 15, 16] rfl
  · intro h9
    refine .g (.m rfl) (.g (.n rfl) (.g (.o rfl) (.g (.lo rfl) (.g (.m rfl) (.g (.eql rfl rfl) (.p (.t rfl rfl) (.n ?_)))))))
    refine .seg .auto rfl (by first | exact fun _ h => h | exact Ent.kept .auto)
  · intro h9
    refine .u (.u (.u (.u (.u (.u (.p (.u rfl rfl) (.n ?_)))))))
    refine .seg .auto rfl (by first | exact fun _ h => h | exact Ent.kept .auto)
  refine .p (.a rfl) (.n (.t (.e (.ret1 rfl rfl fun w s => ⟨(), ?_, trivial, finE .auto s⟩))))
  rfl

theorem mutex_lock {W : World} {b o : Nat} {m : Mtx} {who : Int} (hl : m.wait.length ≤ 100000000) : Fn Tryz.prog W 122 [.pointer (some ⟨b, o, none⟩), .int .i64 who] [mtxAt b o m] Unit (fun _ => .bool (m.lock who).1) (fun _ => True) (fun _ => [mtxAt b o (m.lock who).2]) := by
  refine Fn.intro (N := 22) func122 rfl ntmps122 rfl fun F => ?_
  show GoC _ _ _ _ _ _ [mtxAt b o m, F]
  refine .o1 (C := mtxAt b o m) .auto rfl ?_
  rintro u -
  refine .s (.r (.p (.a rfl) (.n (.t (.s (.s (.r (.p (.m rfl) (.p (.n rfl) (.p (.o rfl) (.p (.lo rfl) (.n (.t (.cond rfl (fun h8 => ?_) (fun h8 => ?_)))))))))))))))
  · refine .s (.r (.p (.m rfl) (.p (.n rfl) (.p (.z rfl) (.p (.m rfl) ?_)))))
    refine .p (.bld1 (fun v1 => [v1, (.int .i64 0)]) rfl (by kernel_rfl)) ?_
    refine .fr .auto (arr_cut1 (b := b) (o := o) (u := u)) ?_
    refine .does rfl (Does.callE rfl call140 rfl (row_add (x := ⟨who, 0⟩) hl) .auto) ?_
    rintro _ _ ⟨⟨⟩, -, rfl, rfl⟩
    refine .n (.t (.s (.r (.p (.a rfl) (.n (.t (.e (.tr ?_))))))))
    rw [lock_no h8]
    refine .to (A := mtxAt b o { m with wait := m.wait ++ [⟨who, 0⟩] }) (Bs := [rowH b o (m.wait ++ [⟨who, 0⟩]), arr b (o + 1) [.bool m.held, .int .i64 m.owner]]) .auto (row_mtx (m := { m with wait := m.wait ++ [⟨who, 0⟩] })) ?_
    refine .ret1 rfl rfl fun w s => ⟨(), ?_, trivial, finE .auto s⟩
    rfl
  · refine .v (.t (.s (.r (.p (.m rfl) (.p (.m rfl) (.p (.m rfl) (.p (.n rfl) (.p (.o rfl) ?_))))))))
    refine .does rfl (Does.sto sizeOf4 rfl rfl rfl rfl) ?_
    rintro _ _ ⟨rfl, rfl⟩
    refine .p (.n rfl) (.p (.o rfl) ?_)
    refine .does rfl (Does.sto sizeOf3 rfl rfl rfl rfl) ?_
    rintro _ _ ⟨rfl, rfl⟩
    refine .n (.t (.s (.r (.p (.a rfl) (.n (.t (.e ?_)))))))
    rw [lock_ok h8]
    refine .ret1 rfl rfl fun w s => ⟨(), ?_, trivial, finE .auto s⟩
    rfl

theorem mutex_unlock {W : World} {b o : Nat} {m : Mtx} {c : Int} (hl : m.wait.length ≤ 1000000) : Fn Tryz.prog W 139 [.pointer (some ⟨b, o, none⟩), .int .i64 c] [mtxAt b o m] Unit (fun _ => .tuple #[.int .i64 (m.unlock c).1, .bool (m.unlock c).2.1]) (fun _ => True) (fun _ => [mtxAt b o (m.unlock c).2.2]) := by
  refine Fn.intro (N := 28) func139 rfl ntmps139 rfl fun F => ?_
  show GoC _ _ _ _ _ _ [mtxAt b o m, F]
  refine .o1 (C := mtxAt b o m) .auto rfl ?_
  rintro u -
  refine .s (.r (.p (.a rfl) (.p (.a rfl) (.n (.t (.s (.r (.p (.m rfl) (.p (.n rfl) (.p (.z rfl) (.p (.m rfl) ?_)))))))))))
  refine .fr .auto (arr_cut1 (b := b) (o := o) (u := u)) ?_
  refine .does rfl (Does.callE rfl call121 rfl (row_take hl) .auto) ?_
  rintro _ _ ⟨⟨⟩, -, rfl, rfl⟩
  refine .p (.m rfl) (.p (.extract rfl rfl) (.p (.extract rfl rfl) ?_))
  refine .does rfl (Does.alloc rfl zeroValue212 rfl) ?_
  rintro _ _ ⟨b6, rfl, rfl⟩
  refine .does rfl (Does.sta (by exact sizeOf212) rfl rfl rfl (by rfl)) ?_
  rintro _ _ ⟨rfl, rfl⟩
  refine .p (.a rfl) (.n (.t (.s ?_)))
  refine .draw [arr b6 0 (wtrE (takeW m.wait c).1)] [1, 0, 1, 0, 0, 1, 1, 2, 1, 1, 3] rfl (by kernel_rfl) ?_
  refine .p (.m rfl) (.q (.m rfl) (.p (.m rfl) (.q (.z rfl) (.q (.l rfl) ?_))))
  refine .p (.n rfl) (.p (.o rfl) ?_)
  refine .d2 rfl Kept.auto (Does.stz sizeOf4 rfl rfl rfl rfl) (by rintro _ _ ⟨rfl, rfl⟩; exact Kept.auto) ?_
  rintro _ _ ⟨rfl, rfl⟩
  refine .p (.n rfl) (.p (.o rfl) ?_)
  refine .d3 rfl (Does.sto (i := 1) sizeOf3 rfl rfl rfl rfl) ?_
  rintro _ _ ⟨rfl, rfl⟩
  refine .n (.t (.s (.r (.p (.z rfl) (.p (.l rfl) (.p (.m rfl) (.p (.a rfl) (.p (.a rfl) (.n (.t (.e ?_)))))))))))
  refine .to (A := mtxAt b o (m.unlock c).2.2) (Bs := [rowH b o (takeW m.wait c).2.2, arr b (o + 1) [.bool (takeW m.wait c).2.1, .int .i64 (takeW m.wait c).1.who]]) .auto (row_mtx (m := (m.unlock c).2.2)) ?_
  refine .ret2 rfl rfl rfl fun w s => ⟨(), ?_, trivial, finE .auto s⟩
  rfl

end Go.SLYtnceicnimongcaaGreat
namespace Go.SLYtnceicnimongcaaGreat
open Go Go.RowKit Go.Proofs Go.Proofs.Tryz

theorem core_at {W : World} {b : Nat} {ps : List (Option Nat)} {s : Spc} {n : Int} : Fn Tryz.prog W 80 [ptr b, .int .i64 n] [spcX b ps s] Unit (fun _ => ptrO (atP ps n)) (fun _ => True) (fun _ => [spcX b ps s]) := by
  refine Fn.intro (N := 21) func80 rfl ntmps80 rfl fun F => ?_
  show GoC _ _ _ _ _ _ [spcX b ps s, F]
  refine .o10 (C := spcX b ps s) .auto rfl ?_
  rintro fv sv pv bt vm bg vt bk bw vr -
  refine .s (.r (.p (.a rfl) (.n (.t (.s (.s (.r (.p (.m rfl) (.p (.eqp rfl rfl) (.p (.m rfl) (.g (.m rfl) (.g (.lss rfl rfl) (.p (.u rfl rfl) (.p (.m rfl) ?_))))))))))))))
  apply GoL.segOD 3 14 11 [11, 12, 13, 14] rfl
  · intro h11
    refine .g (.m rfl) (.g (.geq rfl rfl) (.p (.u rfl rfl) (.n ?_)))
    refine .seg .auto rfl (by first | exact fun _ h => h | exact Ent.kept .auto)
  · intro h11
    refine .u (.u (.p (.t rfl rfl) (.n ?_)))
    refine .seg .auto rfl (by first | exact fun _ h => h | exact Ent.kept .auto)
  refine .n (.t (.cond rfl (fun h14 => ?_) (fun h14 => ?_)))
  · simp only [Bool.or_eq_true, decide_eq_true_eq] at h14
    refine .s (.r (.p (.a rfl) (.n (.t (.e (.tr (.ret1 rfl rfl fun w s => ⟨(), ?_, trivial, finE .auto s⟩)))))))
    rw [atP, if_neg (by omega)]; rfl
  · simp only [Bool.or_eq_false_iff, decide_eq_false_iff_not] at h14
    refine .v (.t (.s (.r (.p (.m rfl) (.p (.m rfl) (.p (.n rfl) (.p (.f rfl) ?_)))))))
    refine .p (.ixArr n.toNat underlying70 sizeOf69 rfl rfl (by omega) (by omega)) ?_
    refine .p (.ld rfl (Cell.a (by rw [Nat.mul_one]; exact spcC_get (by omega)))) ?_
    refine .p (.a rfl) (.n (.t (.e (.ret1 rfl rfl fun w s => ⟨(), ?_, trivial, finE .auto s⟩))))
    rw [atP, if_pos (by omega)]

theorem core_free {W : World} {b p : Nat} {ps : List (Option Nat)} {s : Spc} {n : Nat} {t : Thr} (hp : ps[n]? = some (some p)) (ht : s.thr[n]? = some (some t)) (hl : s.thr.length = 16) (hpl : ps.length = 16) (hT : TakeOk s.table) (hh : 0 ≤ t.handle) : Fn Tryz.prog W 95 [ptr b, .int .i64 (n : Int)] [spcX b ps s] Unit (fun _ => .tuple #[]) (fun _ => True) (fun _ => [spcX b (ps.set n none) (s.free n)]) := by
  refine Fn.intro (N := 23) func95 rfl ntmps95 rfl fun F => ?_
  show GoC _ _ _ _ _ _ [spcX b ps s, F]
  refine .o10 (C := spcX b ps s) .auto rfl ?_
  rintro fv sv pv bt vm bg vt bk bw vr -
  have hn16 : n < 16 := hl ▸ (List.getElem?_eq_some_iff.1 ht).1
  refine .fr .auto (thrs_out hp ht) ?_
  refine .s ?_
  refine .draw [arr b 0 (spcC fv sv pv s.prg bt ps vm bg vt bk bw vr), arr p 0 (thrC t)] [1, 1, 1, 1, 1, 1, 1, 1, 1, 1, 1, 1, 1, 3] rfl (by kernel_rfl) ?_
  refine .p (.m rfl) (.p (.n rfl) (.p (.f rfl) (.p (.l rfl) (.p (.m rfl) (.p (.m rfl) ?_)))))
  refine .p (.n rfl) (.p (.f rfl) ?_)
  refine .p (.ixArr n underlying70 sizeOf69 rfl rfl rfl hn16) ?_
  refine .p (.ld rfl (Cell.a (by rw [Nat.mul_one, spcC_get hn16, getD_of hp]))) ?_
  refine .p (.n rfl) (.p (.f rfl) (.p (.l rfl) ?_))
  refine .d3 rfl (Does.callE rfl call109 rfl (slot_Free hT hh) .auto) ?_
  rintro _ _ ⟨e, -, rfl, rfl⟩
  refine .n (.t (.r (.p (.m rfl) (.p (.m rfl) (.p (.n rfl) (.p (.f rfl) ?_))))))
  refine .p (.ixArr n underlying70 sizeOf69 rfl rfl rfl hn16) ?_
  refine .does rfl (Does.st sizeOf69 rfl rfl rfl (Nat.blt_eq.mpr (by show 9 + n * 1 < 31; omega))) ?_
  rintro _ _ ⟨rfl, rfl⟩
  rw [Nat.mul_one, show Value.pointer none = ptrO none from rfl, spcC_set hn16 hpl]
  refine .n ?_
  rw [show s.free n = { s with table := slotFreed s.table t.handle, thr := s.thr.set n none } from by unfold Spc.free; rw [spc_t ht]]
  refine .end0 rfl fun w s => ⟨(), ?_, trivial, finE .auto s⟩
  rfl

theorem dng_tell {W : World} {bd b p : Nat} {ps : List (Option Nat)} {d : Dng} {t : Thr} (hp : ps[d.n]? = some (some p)) (ht : d.s.thr[d.n]? = some (some t)) {x y e : Int} {fin : Bool} (hr : d.s.recs.length ≤ 100000000) : Fn Tryz.prog W 88 [ptr bd, .int .u64 x, .int .u64 y, .int .i64 e, .bool fin] [dngX bd b p ps d] Unit (fun _ => .tuple #[]) (fun _ => True) (fun _ => [dngX bd b p ps (d.tell x y e fin)]) := by
  refine Fn.intro (N := 42) func88 rfl ntmps88 rfl fun F => ?_
  show GoC _ _ _ _ _ _ [dngX bd b p ps d, F]
  refine .o2 (C := dngX bd b p ps d) .auto rfl ?_
  rintro vw ve -
  refine .o10 (C := spcX b ps d.s) .auto rfl ?_
  rintro fv sv pv bt vm bg vt bk bw vr -
  refine .fr .auto (thrs_out hp ht) ?_
  refine .draw [arr bd 0 (dngC b p d vw ve), arr b 0 (spcC fv sv pv d.s.prg bt ps vm bg vt bk bw vr), arr p 0 (thrC t)] [0, 0, 0, 0, 0, 0, 0, 0, 0, 0, 0, 1, 1, 1, 1, 1, 1, 1, 1, 1, 1, 1, 1, 1, 1, 1, 1, 1, 2, 2, 1, 1, 3] rfl (by kernel_rfl) ?_
  refine .q (.m rfl) (.q (.n rfl) (.q (.z rfl) (.q (.l rfl) (.q (.m rfl) ?_))))
  refine .q (.n rfl) (.q (.z rfl) (.q (.l rfl) ?_))
  refine .q (.n rfl) (.q (.f rfl) (.q (.l rfl) (.p (.m rfl) ?_)))
  refine .p (.n rfl) (.p (.f rfl) (.p (.l rfl) ?_))
  refine .p (.n rfl) (.p (.f rfl) (.p (.l rfl) (.p (.m rfl) ?_)))
  refine .p (.n rfl) (.p (.f rfl) (.p (.z rfl) (.p (.l rfl) (.p (.m rfl) (.p (.m rfl) (.p (.m rfl) (.p (.m rfl) ?_)))))))
  refine .p (.bld6 (fun v1 v2 v3 v4 v5 v6 => [v1, v2, v3, v4, v5, v6]) rfl rfl rfl rfl rfl rfl (by kernel_rfl)) ?_
  refine .d2 rfl Kept.auto (Does.bsl 183 rfl rfl (by kernel_rfl)) (by rintro _ _ ⟨b38, rfl, rfl⟩; exact Kept.auto) ?_
  rintro _ _ ⟨b38, rfl, rfl⟩
  refine .d2 rfl Kept.auto (Does.app1 (enc := recE) (k := 6) (⟨t.handle, d.i.op, x, y, e, fin⟩ : Rec) rfl underlying72 underlying72 typeInfo183 rfl rfl rfl (by decide) rfl rfl rfl .auto rfl .auto (by omega) rfl) (by rintro _ _ ⟨v39, rfl, rfl⟩; exact Kept.auto) ?_
  rintro _ _ ⟨v39, rfl, rfl⟩
  refine .p (.n rfl) (.p (.f rfl) ?_)
  refine .d3 rfl (Does.stS sizeOf72 rfl rfl rfl) ?_
  rintro _ _ ⟨rfl, rfl⟩
  rw [spc_recs]
  refine .n ?_
  refine .to (A := thrsH ps d.s.thr) (Bs := [arr p 0 (thrC t), thrsH (ps.set d.n none) (d.s.thr.set d.n none)]) .auto (thrs_keep hp ht) ?_
  rw [show d.tell x y e fin = { d with s := d.s.tell ⟨t.handle, d.i.op, x, y, e, fin⟩ } from by unfold Dng.tell; rw [dng_t ht]]
  refine .end0 rfl fun w s => ⟨(), ?_, trivial, finE .auto s⟩
  rfl

theorem dng_pass {W : World} {bd b p : Nat} {ps : List (Option Nat)} {d : Dng} {t : Thr} (hp : ps[d.n]? = some (some p)) (ht : d.s.thr[d.n]? = some (some t)) {x y e : Int} (hr : d.s.recs.length ≤ 100000000) (he : 0 ≤ e ∧ e ≤ 11) (hl : t.regs.length = 8) : Fn Tryz.prog W 99 [ptr bd, .int .u64 x, .int .u64 y, .int .i64 e] [dngX bd b p ps d] Unit (fun _ => .tuple #[]) (fun _ => True) (fun _ => [dngX bd b p ps (d.pass x y e)]) := by
  refine Fn.intro (N := 23) func99 rfl ntmps99 rfl fun F => ?_
  show GoC _ _ _ _ _ _ [dngX bd b p ps d, F]
  refine .s (.r (.p (.m rfl) (.p (.m rfl) (.p (.m rfl) (.p (.m rfl) ?_)))))
  refine .does rfl (Does.callE rfl call88 rfl (dng_tell hp ht hr) .auto) ?_
  rintro _ _ ⟨⟨⟩, -, rfl, rfl⟩
  refine .n (.t (.r ?_))
  have ht2 : (d.tell x y e true).s.thr[d.n]? = some (some t) := ht
  refine .o2 (C := dngX bd b p ps (d.tell x y e true)) .auto rfl ?_
  rintro vw ve -
  refine .o10 (C := spcX b ps (d.tell x y e true).s) .auto rfl ?_
  rintro fv sv pv bt vm bg vt bk bw vr -
  refine .fr .auto (thrs_out hp ht2) ?_
  refine .p (.m rfl) (.p (.n rfl) (.p (.f rfl) ?_))
  refine .p (.ld rfl (Cell.a (cs := dngC b p (d.tell x y e true) vw ve) rfl)) ?_
  refine .p (.m rfl) ?_
  refine .p (.convU underlying28 underlying78 rfl (by omega)) ?_
  refine .p (.n rfl) (.p (.z rfl) (.p (.f rfl) ?_))
  refine .p (.ixArr 7 underlying126 sizeOf78 rfl rfl (by omega) (by omega)) ?_
  refine .does rfl (Does.st sizeOf78 rfl rfl rfl rfl) ?_
  rintro _ _ ⟨rfl, rfl⟩
  rw [thr_set (n := 7) e (by decide) hl]
  refine .n ?_
  refine .to (A := thrsH ps (d.s.thr.set d.n (some (t.put 7 e)))) (Bs := [arr p 0 (thrC (t.put 7 e)), thrsH (ps.set d.n none) ((d.tell x y e true).s.thr.set d.n none)]) .auto (thrs_shut (List.getElem?_eq_some_iff.1 ht).1 hp) ?_
  rw [show d.pass x y e = (d.tell x y e true).setT (t.put 7 e) from by unfold Dng.pass; rw [dng_t ht]]
  refine .end0 rfl fun w s => ⟨(), ?_, trivial, finE .auto s⟩
  rfl

theorem dng_block {W : World} {bd b p : Nat} {ps : List (Option Nat)} {d : Dng} {t : Thr} (hp : ps[d.n]? = some (some p)) (ht : d.s.thr[d.n]? = some (some t)) {why into x y : Int} (hr : d.s.recs.length ≤ 100000000) : Fn Tryz.prog W 115 [ptr bd, .int .i64 why, .int .i64 into, .int .u64 x, .int .u64 y] [dngX bd b p ps d] Unit (fun _ => .tuple #[]) (fun _ => True) (fun _ => [dngX bd b p ps (d.block why into x y)]) := by
  refine Fn.intro (N := 43) func115 rfl ntmps115 rfl fun F => ?_
  show GoC _ _ _ _ _ _ [dngX bd b p ps d, F]
  refine .s (.r (.p (.m rfl) (.p (.m rfl) (.p (.m rfl) ?_))))
  refine .does rfl (Does.callE rfl call88 rfl (dng_tell hp ht hr) .auto) ?_
  rintro _ _ ⟨⟨⟩, -, rfl, rfl⟩
  refine .n (.t (.s ?_))
  have ht2 : (d.tell x y 0 false).s.thr[d.n]? = some (some t) := ht
  refine .o2 (C := dngX bd b p ps (d.tell x y 0 false)) .auto rfl ?_
  rintro vw ve -
  refine .o10 (C := spcX b ps (d.tell x y 0 false).s) .auto rfl ?_
  rintro fv sv pv bt vm bg vt bk bw vr -
  refine .fr .auto (thrs_out hp ht2) ?_
  refine .draw [arr bd 0 (dngC b p (d.tell x y 0 false) vw ve)] [1, 1, 1, 1, 1, 1, 1, 1, 1, 1, 1, 1, 1, 1, 1, 1, 1, 1, 0, 1, 1, 2, 1, 1, 2, 1, 1, 3] rfl (by kernel_rfl) ?_
  have ht2 : (d.tell x y 0 false).s.thr[d.n]? = some (some t) := ht
  refine .p (.m rfl) (.p (.n rfl) (.p (.f rfl) (.p (.l rfl) (.p (.m rfl) ?_))))
  refine .p (.n rfl) (.p (.f rfl) (.p (.l rfl) (.p (.m rfl) ?_)))
  refine .p (.n rfl) (.p (.f rfl) (.p (.l rfl) (.p (.m rfl) (.p (.m rfl) ?_))))
  refine .p (.n rfl) (.p (.f rfl) (.p (.z rfl) (.p (.l rfl) (.q (.m rfl) ?_))))
  refine .p (.n rfl) (.p (.f rfl) ?_)
  refine .d2 rfl Kept.auto (Does.st sizeOf3 rfl rfl rfl rfl) (by rintro _ _ ⟨rfl, rfl⟩; exact Kept.auto) ?_
  rintro _ _ ⟨rfl, rfl⟩
  rw [thr_why]
  refine .p (.n rfl) (.p (.f rfl) ?_)
  refine .d2 rfl Kept.auto (Does.st sizeOf3 rfl rfl rfl rfl) (by rintro _ _ ⟨rfl, rfl⟩; exact Kept.auto) ?_
  rintro _ _ ⟨rfl, rfl⟩
  rw [thr_op]
  refine .p (.n rfl) (.p (.f rfl) ?_)
  refine .d3 rfl (Does.st sizeOf3 rfl rfl rfl rfl) ?_
  rintro _ _ ⟨rfl, rfl⟩
  rw [thr_into]
  refine .n (.t (.r (.p (.m rfl) (.p (.n rfl) (.p (.f rfl) (.p (.o rfl) ?_))))))
  refine .does rfl (Does.st sizeOf4 rfl rfl rfl rfl) ?_
  rintro _ _ ⟨rfl, rfl⟩
  refine .n ?_
  refine .to (A := thrsH ps (d.s.thr.set d.n (some { t with why := why, op := d.i.op, into := into }))) (Bs := [arr p 0 (thrC { t with why := why, op := d.i.op, into := into }), thrsH (ps.set d.n none) ((d.tell x y 0 false).s.thr.set d.n none)]) .auto (thrs_shut (List.getElem?_eq_some_iff.1 ht).1 hp) ?_
  rw [show d.block why into x y = { (d.tell x y 0 false).setT { t with why := why, op := d.i.op, into := into } with out := { d.out with stopped := true } } from by unfold Dng.block; rw [dng_t ht]]
  refine .end0 rfl fun w s => ⟨(), ?_, trivial, finE .auto s⟩
  rfl

theorem spc_wake {W : World} {b p : Nat} {ps : List (Option Nat)} {s : Spc} {n : Nat} {t : Thr} (hp : ps[n]? = some (some p)) (ht : s.thr[n]? = some (some t)) (hn16 : n < 16) (hR : ThrR t) {y : Int} : Fn Tryz.prog W 110 [ptr b, .int .i64 (n : Int), .int .u64 y] [spcX b ps s] Unit (fun _ => .agg (recE (t.woke y)).toArray) (fun _ => True) (fun _ => [spcX b ps (s.wake n y)]) := by
  refine Fn.intro (N := 50) func110 rfl ntmps110 rfl fun F => ?_
  show GoC _ _ _ _ _ _ [spcX b ps s, F]
  refine .o10 (C := spcX b ps s) .auto rfl ?_
  rintro fv sv pv bt vm bg vt bk bw vr -
  refine .fr .auto (thrs_out hp ht) ?_
  have hRl := hR.l
  have hRi := hR.i
  refine .s (.r ?_)
  refine .does rfl (Does.alloc rfl zeroValue183 rfl) ?_
  rintro _ _ ⟨b6, rfl, rfl⟩
  refine .n (.t (.s (.r (.p (.m rfl) (.p (.m rfl) (.p (.n rfl) (.p (.f rfl) ?_)))))))
  refine .p (.ixArr n underlying70 sizeOf69 rfl rfl rfl hn16) ?_
  refine .p (.ld rfl (Cell.a (by rw [Nat.mul_one, spcC_get hn16, getD_of hp]))) ?_
  refine .p (.a rfl) (.n (.t ?_))
  refine .cutK (X := Unit) [2, 14, 15, 16, 17, 18, 19, 20, 21, 22, 23, 24, 25, 26, 27, 28] (fun _ => True) (fun _ => [(2, some (.int .u64 (if t.into = -1 then 0 else y)))]) (fun _ => [arr p 0 (thrC (if t.into = -1 then t else t.put t.into y)), thrsH (ps.set n none) (s.thr.set n none), arr b6 0 [.int .u64 0, .int .i64 0, .int .u64 0, .int .u64 0, .int .i64 0, .bool false], arr b 0 (spcC fv sv pv s.prg bt ps vm bg vt bk bw vr), codeH fv s.prg.funcs, tblH bt s.table, sl wrdE 1 vm s.mem, gatesH bg s.gates, tubsH vt s.tubes, dskH bk s.disk, whlH bw s.wheel, sl recE 6 vr s.recs, F]) ?_ ?_
  · refine .s (.r (.p (.m rfl) (.p (.n rfl) (.p (.f rfl) (.p (.l rfl) (.p (.neq rfl rfl) (.n (.t (.condD rfl (fun h18 => ?_) (fun h18 => ?_))))))))))
    · refine .draw [arr p 0 (thrC t)] [1, 1, 1, 1, 1, 1, 1, 1, 1, 1, 3] rfl (by kernel_rfl) ?_
      refine .p (.m rfl) (.p (.m rfl) (.p (.n rfl) (.p (.f rfl) (.p (.l rfl) (.p (.m rfl) ?_)))))
      refine .p (.n rfl) (.p (.z rfl) (.p (.f rfl) ?_))
      refine .p (.ixArr t.into.toNat underlying126 sizeOf78 rfl rfl (by omega) (by omega)) ?_
      refine .d3 rfl (Does.st sizeOf78 rfl rfl rfl (Nat.blt_eq.mpr (by show 2 + t.into.toNat * 1 < 18; omega))) ?_
      rintro _ _ ⟨rfl, rfl⟩
      rw [thr_setI y (by omega) (by omega) hRl]
      refine .n ?_
      refine .midK () .auto ?_ ?_ ?_
      · trivial
      · rw [if_neg (by omega)]; exact ⟨rfl, trivial⟩
      · rw [if_neg (by omega)]; exact fun w s => Ent.kept .auto w s
    · refine .r (.p (.a rfl) (.n ?_))
      refine .midK () .auto ?_ ?_ ?_
      · trivial
      · rw [if_pos (by omega)]; exact ⟨rfl, trivial⟩
      · rw [if_pos (by omega)]; exact fun w s => Ent.kept .auto w s
  · rintro ⟨⟩ -
    obtain ⟨y1, hy1⟩ : ∃ y1, y1 = (if t.into = -1 then 0 else y) := ⟨_, rfl⟩
    obtain ⟨t1, h1⟩ : ∃ t1, t1 = (if t.into = -1 then t else t.put t.into y) := ⟨_, rfl⟩
    have h1l : t1.regs.length = 8 := by
      rw [h1]
      split
      · exact hRl
      · rw [put_len]; exact hRl
    have h1h : t1.handle = t.handle ∧ t1.op = t.op := by
      rw [h1]
      split <;> exact ⟨rfl, rfl⟩
    rw [← hy1, ← h1]
    refine .s (.r (.p (.m rfl) (.p (.n rfl) (.p (.z rfl) (.p (.f rfl) ?_)))))
    refine .p (.ixArr 7 underlying126 sizeOf78 rfl rfl (by omega) (by omega)) ?_
    refine .does rfl (Does.st sizeOf78 rfl rfl rfl rfl) ?_
    rintro _ _ ⟨rfl, rfl⟩
    rw [thr_set (n := 7) 0 (by decide) h1l]
    refine .n (.t (.s (.r (.p (.m rfl) (.p (.m rfl) (.p (.n rfl) (.p (.f rfl) ?_)))))))
    refine .does rfl (Does.st sizeOf3 rfl rfl rfl rfl) ?_
    rintro _ _ ⟨rfl, rfl⟩
    rw [thr_why]
    refine .p (.n rfl) (.p (.f rfl) ?_)
    refine .does rfl (Does.st sizeOf3 rfl rfl rfl rfl) ?_
    rintro _ _ ⟨rfl, rfl⟩
    rw [thr_into]
    refine .n (.t (.s ?_))
    refine .draw [arr p 0 (thrC { t1.put 7 0 with why := 0, into := -1 })] [1, 1, 1, 1, 1, 1, 1, 1, 1, 1, 3] rfl (by kernel_rfl) ?_
    refine .p (.m rfl) (.p (.n rfl) (.p (.f rfl) (.p (.l rfl) (.p (.m rfl) ?_))))
    refine .p (.n rfl) (.p (.f rfl) (.p (.l rfl) (.p (.m rfl) ?_)))
    refine .p (.bld4 (fun v1 v2 v3 v4 => [v1, v2, (.int .u64 0), v3, (.int .i64 0), v4]) rfl rfl rfl rfl (by kernel_rfl)) ?_
    refine .d3 rfl (Does.sta (by exact sizeOf183) rfl rfl rfl (by rfl)) ?_
    rintro _ _ ⟨rfl, rfl⟩
    refine .n (.t (.e ?_))
    refine .to (A := thrsH ps (s.thr.set n (some ({ t1.put 7 0 with why := 0, into := -1 })))) (Bs := [arr p 0 (thrC ({ t1.put 7 0 with why := 0, into := -1 })), thrsH (ps.set n none) (s.thr.set n none)]) .auto (thrs_shut (List.getElem?_eq_some_iff.1 ht).1 hp) ?_
    rw [show s.wake n y = s.setT n { t1.put 7 0 with why := 0, into := -1 } from by unfold Spc.wake; rw [spc_t ht, wake_eq t1 h1]]
    refine .retC rfl rfl isAgg183 (by exact sizeOf183) Cells.a fun w s => ⟨(), ?_, trivial, finE .auto s⟩
    show Ending.returned (Value.agg #[.int .u64 t1.handle, .int .i64 t1.op, .int .u64 0, .int .u64 y1, .int .i64 0, .bool true]) = _; rw [h1h.1, h1h.2, hy1]; rfl

theorem dng_goes {W : World} {bd b p q : Nat} {ps : List (Option Nat)} {d : Dng} {t : Thr} {n : Nat} (hp : ps[n]? = some (some q)) (ht : d.s.thr[n]? = some (some t)) (hn16 : n < 16) (hR : ThrR t) (he : d.ends.length ≤ 1000000) (hw : d.out.woken.length ≤ 1000000) {y : Int} : Fn Tryz.prog W 96 [ptr bd, .int .i64 (n : Int), .int .u64 y] [dngX bd b p ps d] Unit (fun _ => .tuple #[]) (fun _ => True) (fun _ => [dngX bd b p ps (d.goes n y)]) := by
  refine Fn.intro (N := 34) func96 rfl ntmps96 rfl fun F => ?_
  show GoC _ _ _ _ _ _ [dngX bd b p ps d, F]
  refine .o2 (C := dngX bd b p ps d) .auto rfl ?_
  rintro vw ve -
  refine .s ?_
  refine .draw [arr bd 0 (dngC b p d vw ve)] [0, 0, 0, 0, 0, 1, 1, 1, 1, 1, 1, 2, 2, 2, 1, 1, 3] rfl (by kernel_rfl) ?_
  refine .q (.m rfl) (.q (.m rfl) (.q (.n rfl) (.q (.f rfl) (.q (.l rfl) (.p (.m rfl) ?_)))))
  refine .p (.n rfl) (.p (.z rfl) (.p (.l rfl) (.p (.m rfl) (.p (.m rfl) ?_))))
  refine .d2 rfl Kept.auto (Does.callE rfl call110 rfl (spc_wake hp ht hn16 hR) .auto) (by rintro _ _ ⟨⟨⟩, -, rfl, rfl⟩; exact Kept.auto) ?_
  rintro _ _ ⟨⟨⟩, -, rfl, rfl⟩
  refine .d2 rfl Kept.auto (Does.bsl 183 rfl rfl (by kernel_rfl)) (by rintro _ _ ⟨b18, rfl, rfl⟩; exact Kept.auto) ?_
  rintro _ _ ⟨b18, rfl, rfl⟩
  refine .d2 rfl Kept.auto (Does.app1 (enc := recE) (k := 6) (t.woke y) rfl underlying72 underlying72 typeInfo183 rfl rfl rfl (by decide) rfl rfl rfl .auto rfl .auto (by omega) rfl) (by rintro _ _ ⟨v19, rfl, rfl⟩; exact Kept.auto) ?_
  rintro _ _ ⟨v19, rfl, rfl⟩
  refine .p (.n rfl) (.p (.f rfl) ?_)
  refine .d3 rfl (Does.stS sizeOf72 rfl rfl rfl) ?_
  rintro _ _ ⟨rfl, rfl⟩
  refine .n (.t (.r (.p (.m rfl) (.p (.m rfl) (.p (.n rfl) (.p (.f rfl) (.p (.z rfl) (.p (.l rfl) (.p (.m rfl) ?_)))))))))
  refine .does rfl (Does.bsl 3 rfl rfl (by kernel_rfl)) ?_
  rintro _ _ ⟨b29, rfl, rfl⟩
  refine .does rfl (Does.app1 (enc := intE) (k := 1) (n : Int) rfl underlying23 underlying23 typeInfo3 rfl rfl rfl (by decide) rfl rfl rfl .auto rfl .auto (by omega) rfl) ?_
  rintro _ _ ⟨v30, rfl, rfl⟩
  refine .p (.n rfl) (.p (.f rfl) (.p (.z rfl) ?_))
  refine .does rfl (Does.stS sizeOf23 rfl rfl rfl) ?_
  rintro _ _ ⟨rfl, rfl⟩
  refine .n ?_
  rw [show d.goes n y = { d with s := d.s.wake n y, ends := d.ends ++ [t.woke y], out := { d.out with woken := d.out.woken ++ [(n : Int)] } } from by unfold Dng.goes; rw [spc_t ht]]
  refine .end0 rfl fun w s => ⟨(), ?_, trivial, finE .auto s⟩
  rfl

theorem dng_a {W : World} {bd b p : Nat} {ps : List (Option Nat)} {d : Dng} {t : Thr} (hp : ps[d.n]? = some (some p)) (ht : d.s.thr[d.n]? = some (some t)) (hI : 0 ≤ d.i.a ∧ d.i.a < 8) : Fn Tryz.prog W 102 [ptr bd] [dngX bd b p ps d] Unit (fun _ => .int .u64 d.a) (fun _ => True) (fun _ => [dngX bd b p ps d]) := by
  refine Fn.intro (N := 17) func102 rfl ntmps102 rfl fun F => ?_
  show GoC _ _ _ _ _ _ [dngX bd b p ps d, F]
  refine .o2 (C := dngX bd b p ps d) .auto rfl ?_
  rintro vw ve -
  refine .o10 (C := spcX b ps d.s) .auto rfl ?_
  rintro fv sv pv bt vm bg vt bk bw vr -
  refine .fr .auto (thrs_out hp ht) ?_
  refine .s (.r (.p (.a rfl) (.n (.t (.s ?_)))))
  refine .draw [] [1, 1, 1, 1, 1, 1, 1, 1, 1, 1, 1, 1, 1, 1, 1] rfl (by kernel_rfl) ?_
  refine .p (.m rfl) (.p (.n rfl) (.p (.f rfl) (.p (.l rfl) (.p (.m rfl) ?_))))
  refine .p (.n rfl) (.p (.f rfl) (.p (.o rfl) (.p (.l rfl) ?_)))
  refine .p (.n rfl) (.p (.z rfl) (.p (.f rfl) ?_))
  refine .p (.ixArr d.i.a.toNat underlying126 sizeOf78 rfl rfl (by omega) (by omega)) ?_
  refine .p (.ld rfl (Cell.a (thr_get (by omega)))) ?_
  refine .p (.a rfl) (.n (.t (.e ?_)))
  refine .to (A := thrsH ps d.s.thr) (Bs := [arr p 0 (thrC t), thrsH (ps.set d.n none) (d.s.thr.set d.n none)]) .auto (thrs_keep hp ht) ?_
  refine .ret1 rfl rfl fun w s => ⟨(), ?_, trivial, finE .auto s⟩
  rw [show d.a = t.regs.getD d.i.a.toNat 0 from by unfold Dng.a; rw [dng_t ht]; rfl]

theorem dng_b {W : World} {bd b p : Nat} {ps : List (Option Nat)} {d : Dng} {t : Thr} (hp : ps[d.n]? = some (some p)) (ht : d.s.thr[d.n]? = some (some t)) (hI : 0 ≤ d.i.b ∧ d.i.b < 8) : Fn Tryz.prog W 113 [ptr bd] [dngX bd b p ps d] Unit (fun _ => .int .u64 d.b) (fun _ => True) (fun _ => [dngX bd b p ps d]) := by
  refine Fn.intro (N := 17) func113 rfl ntmps113 rfl fun F => ?_
  show GoC _ _ _ _ _ _ [dngX bd b p ps d, F]
  refine .o2 (C := dngX bd b p ps d) .auto rfl ?_
  rintro vw ve -
  refine .o10 (C := spcX b ps d.s) .auto rfl ?_
  rintro fv sv pv bt vm bg vt bk bw vr -
  refine .fr .auto (thrs_out hp ht) ?_
  refine .s (.r (.p (.a rfl) (.n (.t (.s ?_)))))
  refine .draw [] [1, 1, 1, 1, 1, 1, 1, 1, 1, 1, 1, 1, 1, 1, 1] rfl (by kernel_rfl) ?_
  refine .p (.m rfl) (.p (.n rfl) (.p (.f rfl) (.p (.l rfl) (.p (.m rfl) ?_))))
  refine .p (.n rfl) (.p (.f rfl) (.p (.o rfl) (.p (.l rfl) ?_)))
  refine .p (.n rfl) (.p (.z rfl) (.p (.f rfl) ?_))
  refine .p (.ixArr d.i.b.toNat underlying126 sizeOf78 rfl rfl (by omega) (by omega)) ?_
  refine .p (.ld rfl (Cell.a (thr_get (by omega)))) ?_
  refine .p (.a rfl) (.n (.t (.e ?_)))
  refine .to (A := thrsH ps d.s.thr) (Bs := [arr p 0 (thrC t), thrsH (ps.set d.n none) (d.s.thr.set d.n none)]) .auto (thrs_keep hp ht) ?_
  refine .ret1 rfl rfl fun w s => ⟨(), ?_, trivial, finE .auto s⟩
  rw [show d.b = t.regs.getD d.i.b.toNat 0 from by unfold Dng.b; rw [dng_t ht]; rfl]

theorem dng_finish {W : World} {bd b p : Nat} {ps : List (Option Nat)} {d : Dng} (hr : d.s.recs.length ≤ 100000000) (he : d.ends.length ≤ 1000000) : Fn Tryz.prog W 92 [ptr bd] [dngX bd b p ps d] Value (fun u => .agg (effE u d.finish.1).toArray) (fun _ => True) (fun u => [sl intE 1 u d.finish.1.woken, spcX b ps d.finish.2]) := by
  refine Fn.intro (N := 25) func92 rfl ntmps92 rfl fun F => ?_
  show GoC _ _ _ _ _ _ [dngX bd b p ps d, F]
  refine .o2 (C := dngX bd b p ps d) .auto rfl ?_
  rintro vw ve -
  refine .o10 (C := spcX b ps d.s) .auto rfl ?_
  rintro fv sv pv bt vm bg vt bk bw vr -
  refine .s (.r ?_)
  refine .does rfl (Does.alloc rfl zeroValue38 rfl) ?_
  rintro _ _ ⟨b2, rfl, rfl⟩
  refine .n (.t (.s ?_))
  refine .draw [arr bd 0 (dngC b p d vw ve), arr b 0 (spcC fv sv pv d.s.prg bt ps vm bg vt bk bw vr)] [0, 0, 0, 0, 1, 1, 1, 1, 1, 1, 1, 1, 1, 1, 1, 2, 1, 1, 3] rfl (by kernel_rfl) ?_
  refine .q (.m rfl) (.q (.n rfl) (.q (.z rfl) (.q (.l rfl) (.p (.m rfl) ?_))))
  refine .p (.n rfl) (.p (.z rfl) (.p (.l rfl) ?_))
  refine .p (.n rfl) (.p (.f rfl) (.p (.l rfl) (.p (.m rfl) ?_)))
  refine .p (.n rfl) (.p (.f rfl) (.p (.l rfl) ?_))
  refine .d2 rfl Kept.auto (Does.append rfl underlying72 underlying72 typeInfo183 rfl rfl rfl (by decide) rfl rfl .auto Rd.s (by omega) (recE_one _)) (by rintro _ _ ⟨v18, rfl, rfl⟩; exact Kept.auto) ?_
  rintro _ _ ⟨v18, rfl, rfl⟩
  refine .p (.n rfl) (.p (.f rfl) ?_)
  refine .d3 rfl (Does.stS sizeOf72 rfl rfl rfl) ?_
  rintro _ _ ⟨rfl, rfl⟩
  rw [spc_recs]
  refine .n (.t (.s (.r (.p (.m rfl) (.p (.n rfl) (.p (.f rfl) ?_))))))
  refine .p (.la rfl (Cells.part0 (ds := effE vw d.out) Cells.a rfl)) ?_
  refine .does rfl (Does.staS (vs := [.bool d.out.stopped, .bool d.out.ended, .bool d.out.yielded]) (by exact sizeOf38) rfl rfl rfl rfl) ?_
  rintro _ _ ⟨rfl, rfl⟩
  refine .n (.t (.e ?_))
  refine .retC rfl rfl isAgg38 (by exact sizeOf38) Cells.a fun w s => ⟨vw, ?_, trivial, finE .auto s⟩
  rfl

end Go.SLYtnceicnimongcaaGreat
