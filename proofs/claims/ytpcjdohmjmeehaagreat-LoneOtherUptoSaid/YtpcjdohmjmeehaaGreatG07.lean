/- Walks of functions, and what they compute. Conditions: none, this text proves no statement. -/
import Derived.Test.YtpcjdohmjmeehaaGreatG05
import Derived.Test.YtpcjdohmjmeehaaGreatProg
import Derived.Test.YtpcjdohmjmeehaaGreatG06
import Derived.Test.YtpcjdohmjmeehaaGreatG03
import Derived.KernelRfl
namespace Go.SLYtpcjdohmjmeehaaGreat
open Go Go.RowKit Go.Proofs Go.Proofs.Tryz

set_option maxRecDepth 20000 in
theorem slot_Find {W : World} {b : Nat} {l : List (Bool × Int)} {h : Int} (hl : TakeOk l) (h0 : 0 ≤ h) : Fn Tryz.prog W 148 [ptr b, .int .u64 h] [tblH b l] Unit (fun _ => findV (slotFind l h)) (fun _ => True) (fun _ => [tblH b l]) := by
  refine Fn.intro (N := 50) func148 rfl ntmps148 rfl fun F => ?_
  show GoC _ _ _ _ _ _ [tblH b l, F]
  refine .s (.r (.p (.a rfl) (.p (.a rfl) (.n (.t (.s (.s (.r (.p (.m rfl) (.p (.eqp rfl rfl) (.p (.m rfl) (.g (.m rfl) ?_))))))))))))
  refine .g (.valW (Y.rem rfl rfl (by omega)) (tmod_pos h0)) ?_
  refine .g (.eql rfl rfl) (.p (.u rfl rfl) (.n (.t (.condD rfl (fun h13 => ?_) (fun h13 => ?_)))))
  · refine .s (.r (.p (.a rfl) (.p (.a rfl) (.n (.t (.e (.tr (.ret2 rfl rfl rfl fun w s => ⟨(), ?_, trivial, finE .auto s⟩))))))))
    rw [find_zero h13]; rfl
  · refine .v (.t (.s (.r ?_)))
    refine .o1 (C := tblH b l) .auto rfl ?_
    rintro v -
    obtain ⟨hl1, hl2⟩ := hl
    have hm : h % 65536 < 65536 := by omega
    have ho : (hh : hN h < l.length) → l[hN h]? = some (slotAt l (hN h)) := getD_some
    refine .p (.m rfl) ?_
    refine .p (.valW (Y.rem rfl rfl (by omega)) (tmod_pos h0)) ?_
    refine .p (.convI underlying43 underlying3 rfl (by omega)) ?_
    refine .p (.valW (Y.sub rfl rfl (by omega)) (hN_cast h13)) ?_
    refine .p (.a rfl) (.n (.t (.s (.s (.r (.p (.m rfl) (.p (.m rfl) (.p (.n rfl) (.p (.z rfl) (.p (.l rfl) (.p (.len rfl) (.p (.geq rfl rfl) (.p (.m rfl) ?_)))))))))))))
    apply GoL.segOD 10 35 25 [25, 26, 27, 28, 29, 30, 31, 32, 33, 34, 35] rfl
    · intro h25
      have hlt : hN h < l.length := by omega
      refine .g (.m rfl) (.g (.n rfl) (.g (.z rfl) (.g (.l rfl) (.g (.m rfl) ?_))))
      refine .g (.ixRd (hN h) underlying159 sizeOf209 rfl rfl Rd.s rfl hlt) ?_
      refine .g (.z rfl) ?_
      refine .g (.ld rfl (Cell.rd0 Rd.s (ho (by omega)) (by rfl))) ?_
      refine .g (.not rfl) (.p (.u rfl rfl) (.n ?_))
      refine .seg .auto rfl (by first | exact fun _ h => h | exact Ent.kept .auto)
    · intro h25
      refine .u (.u (.u (.u (.u (.u (.u (.u (.u (.p (.t rfl rfl) (.n ?_))))))))))
      refine .seg .auto rfl (by first | exact fun _ h => h | exact Ent.kept .auto)
    refine .p (.m rfl) ?_
    apply GoL.segO 12 48 36 [36, 37, 38, 39, 40, 41, 42, 43, 44, 45, 46, 47, 48] rfl
    · intro h36
      simp only [Bool.or_eq_false_iff, decide_eq_false_iff_not] at h36
      have hlt : hN h < l.length := by omega
      have hob := hl2 _ (List.mem_of_getElem? (ho hlt))
      refine .g (.m rfl) (.g (.n rfl) (.g (.z rfl) (.g (.l rfl) (.g (.m rfl) ?_))))
      refine .g (.ixRd (hN h) underlying159 sizeOf209 rfl rfl Rd.s rfl hlt) ?_
      refine .g (.la rfl (Cells.rd Rd.s (ho (by omega)))) ?_
      refine .g (.m rfl) ?_
      refine .dg rfl rfl rfl (Does.callE rfl call115 rfl (slot_handle (o := slotAt l (hN h)) (n := hN h) (by omega) (by omega)) .auto) ?_
      rintro _ _ ⟨⟨⟩, -, rfl, rfl⟩
      refine .g (.m rfl) (.g (.neq rfl rfl) (.p (.u rfl rfl) (.n ?_)))
      refine .seg .auto rfl (by first | exact fun _ h => h | exact Ent.kept .auto)
    · intro h36
      refine .u (.u (.u (.u (.u (.u (.u (.u (.u (.u (.u (.p (.t rfl rfl) (.n ?_))))))))))))
      refine .seg .auto rfl (by first | exact fun _ h => h | exact Ent.kept .auto)
    refine .n (.t (.cond rfl (fun h48 => ?_) (fun h48 => ?_)))
    · refine .s (.r (.p (.a rfl) (.p (.a rfl) (.n (.t (.e (.tr (.ret2 rfl rfl rfl fun w s => ⟨(), ?_, trivial, finE .auto s⟩))))))))
      rw [find_eq h13, if_pos (by simpa using h48)]; rfl
    · refine .v (.t (.s (.r (.p (.m rfl) (.p (.a rfl) (.p (.a rfl) (.n (.t (.e (.ret2 rfl rfl rfl fun w s => ⟨(), ?_, trivial, finE .auto s⟩))))))))))
      rw [find_eq h13, if_neg (by simpa using h48)]; rfl

set_option maxRecDepth 20000 in
theorem slot_Free {W : World} {b : Nat} {l : List (Bool × Int)} {h : Int} (hl : TakeOk l) (h0 : 0 ≤ h) : Fn Tryz.prog W 116 [ptr b, .int .u64 h] [tblH b l] Int (fun e => .int .i64 e) (fun _ => True) (fun _ => [tblH b (slotFreed l h)]) := by
  refine Fn.intro (N := 22) func116 rfl ntmps116 rfl fun F => ?_
  show GoC _ _ _ _ _ _ [tblH b l, F]
  refine .s (.r (.p (.a rfl) (.n (.t (.s (.r (.p (.m rfl) (.p (.m rfl) ?_))))))))
  refine .does rfl (Does.callE rfl call148 rfl (slot_Find hl h0) .auto) ?_
  rintro _ _ ⟨⟨⟩, -, rfl, rfl⟩
  refine .p (.m rfl) (.p (.extract rfl rfl) (.p (.extract rfl rfl) (.p (.a rfl) (.p (.a rfl) (.n (.t (.s (.s (.r (.p (.m rfl) (.p (.not rfl) (.n (.t (.cond rfl (fun h14 => ?_) (fun h14 => ?_)))))))))))))))
  · refine .s (.r (.p (.a rfl) (.n (.t (.e (.tr ?_))))))
    rw [freed_none (show slotFind l h = none from by cases e : slotFind l h with
      | none => rfl
      | some n => rw [e] at h14; cases h14)]
    refine .ret1 rfl rfl fun w s => ⟨3, ?_, trivial, finE .auto s⟩
    rfl
  · refine .v (.t (.s (.r ?_)))
    refine .o1 (C := tblH b l) .auto rfl ?_
    rintro v -
    obtain ⟨n, hn⟩ : ∃ n, slotFind l h = some n := by cases e : slotFind l h with
      | none => rw [e] at h14; cases h14
      | some n => exact ⟨n, rfl⟩
    obtain ⟨hlt, -⟩ := find_lt hn
    have ho : l[n]? = some (slotAt l n) := getD_some hlt
    obtain ⟨u, tk, hut⟩ : ∃ u tk, slotAt l n = (u, tk) := ⟨_, _, rfl⟩
    rw [hut] at ho
    refine .p (.m rfl) (.p (.n rfl) (.p (.z rfl) (.p (.l rfl) (.p (.m rfl) ?_))))
    refine .p (.ixRd n underlying159 sizeOf209 rfl (by rw [hn]; rfl) Rd.s rfl hlt) ?_
    refine .p (.z rfl) ?_
    refine .does rfl (Does.storeSl0 (x' := (false, tk)) rfl rfl sizeOf4 rfl ho (by decide) rfl .auto) ?_
    rintro _ _ ⟨rfl, rfl⟩
    refine .n (.t (.s (.r (.p (.a rfl) (.n (.t (.e ?_)))))))
    rw [freed_some hn, hut]
    refine .ret1 rfl rfl fun w s => ⟨0, ?_, trivial, finE .auto s⟩
    rfl

set_option maxRecDepth 20000 in
theorem has_f {W : World} {A : HProp} {x : Wtr} {c : Nat} {who : Int} : Fn Tryz.prog W 229 [.agg (wtrE x).toArray, ptr c] [seps [arr c 0 [.int .i64 who], A]] Unit (fun _ => .bool (decide (x.who = who))) (fun _ => True) (fun _ => [seps [arr c 0 [.int .i64 who], A]]) := by
  refine Fn.intro (N := 8) func229 rfl ntmps229 rfl fun F => ?_
  show GoC _ _ _ _ _ _ [seps [arr c 0 [.int .i64 who], A], F]
  refine .ungrp .auto ?_
  refine .s (.r ?_)
  refine .does rfl (Does.box rfl rfl rfl) ?_
  rintro _ _ ⟨b2, rfl, rfl⟩
  refine .p (.a rfl) (.n (.t (.s (.r (.p (.z rfl) (.p (.l rfl) (.p (.l rfl) (.p (.eql rfl rfl) (.p (.a rfl) (.n (.t (.e (.ret1 rfl rfl fun w s => ⟨(), ?_, trivial, finE .auto s⟩)))))))))))))
  rfl

set_option maxRecDepth 20000 in
theorem row_has {W : World} {A : HProp} {b : Nat} {u : Value} {cs : List Value} {l : List Wtr} {who : Int} (hr : Rd W [A] wtrE 2 u l) (hl : l.length ≤ 1000000) : Fn Tryz.prog W 199 [ptr b, .int .i64 who] [arr b 0 (u :: cs), A] Unit (fun _ => .bool (hasW l who)) (fun _ => True) (fun _ => [arr b 0 (u :: cs), A]) := by
  refine Fn.intro (N := 11) func199 rfl ntmps199 rfl fun F => ?_
  show GoC _ _ _ _ _ _ [arr b 0 (u :: cs), A, F]
  refine .s (.r ?_)
  refine .does rfl (Does.box rfl rfl rfl) ?_
  rintro _ _ ⟨b3, rfl, rfl⟩
  refine .p (.a rfl) (.n (.t (.s (.r (.p (.m rfl) (.p (.n rfl) (.p (.z rfl) (.p (.l rfl) (.p (.makeFunc rfl rfl) ?_)))))))))
  refine .does rfl (Does.callE rfl call228 rfl (ContainsFuncG (A := seps [arr b3 0 [.int .i64 who], A]) (p := fun w => decide (w.who = who)) (Rd.grp (Rd.at hr (.there .here))) (by omega) call229 (fun x _ => has_f)) .auto) ?_
  rintro _ _ ⟨⟨⟩, -, rfl, rfl⟩
  refine .ungrp .auto ?_
  refine .p (.a rfl) (.n (.t (.e (.ret1 rfl rfl fun w s => ⟨(), ?_, trivial, finE .auto s⟩))))
  rfl

set_option maxRecDepth 20000 in
theorem waits_f1 {W : World} {A : HProp} {x : Value × Mtx} {c : Nat} {who : Int} (hr : Rd W [A] wtrE 2 x.1 x.2.wait) (hl : x.2.wait.length ≤ 1000000) : Fn Tryz.prog W 198 [.agg (mtxE x).toArray, ptr c] [seps [arr c 0 [.int .i64 who], A]] Unit (fun _ => .bool (hasW x.2.wait who)) (fun _ => True) (fun _ => [seps [arr c 0 [.int .i64 who], A]]) := by
  refine Fn.intro (N := 7) func198 rfl ntmps198 rfl fun F => ?_
  show GoC _ _ _ _ _ _ [seps [arr c 0 [.int .i64 who], A], F]
  refine .ungrp .auto ?_
  refine .s (.r ?_)
  refine .does rfl (Does.box rfl rfl rfl) ?_
  rintro _ _ ⟨b2, rfl, rfl⟩
  refine .mem (H' := [arr b2 0 (mtxE x), arr c 0 [.int .i64 who], A, F]) (fun w s => s) ?_
  refine .p (.a rfl) (.n (.t (.s (.r (.p (.z rfl) (.p (.l rfl) ?_))))))
  refine .does rfl (Does.callE rfl call199 rfl (row_has hr hl) .auto) ?_
  rintro _ _ ⟨⟨⟩, -, rfl, rfl⟩
  refine .p (.a rfl) (.n (.t (.e (.ret1 rfl rfl fun w s => ⟨(), ?_, trivial, finE .auto s⟩))))
  rfl

set_option maxRecDepth 20000 in
theorem waits_f2 {W : World} {A : HProp} {x : Value × List Wtr} {c : Nat} {who : Int} (hr : Rd W [A] wtrE 2 x.1 x.2) (hl : x.2.length ≤ 1000000) : Fn Tryz.prog W 201 [.agg (fstE x).toArray, ptr c] [seps [arr c 0 [.int .i64 who], A]] Unit (fun _ => .bool (hasW x.2 who)) (fun _ => True) (fun _ => [seps [arr c 0 [.int .i64 who], A]]) := by
  refine Fn.intro (N := 6) func201 rfl ntmps201 rfl fun F => ?_
  show GoC _ _ _ _ _ _ [seps [arr c 0 [.int .i64 who], A], F]
  refine .ungrp .auto ?_
  refine .s (.r ?_)
  refine .does rfl (Does.box rfl rfl rfl) ?_
  rintro _ _ ⟨b2, rfl, rfl⟩
  refine .mem (H' := [arr b2 0 (fstE x), arr c 0 [.int .i64 who], A, F]) (fun w s => s) ?_
  refine .p (.a rfl) (.n (.t (.s (.r (.p (.l rfl) ?_)))))
  refine .does rfl (Does.callE rfl call199 rfl (row_has hr hl) .auto) ?_
  rintro _ _ ⟨⟨⟩, -, rfl, rfl⟩
  refine .p (.a rfl) (.n (.t (.e (.ret1 rfl rfl fun w s => ⟨(), ?_, trivial, finE .auto s⟩))))
  rfl

set_option maxRecDepth 20000 in
theorem waits_f3 {W : World} {A : HProp} {x : Value × Smp} {c : Nat} {who : Int} (hr : Rd W [A] wtrE 2 x.1 x.2.wait) (hl : x.2.wait.length ≤ 1000000) : Fn Tryz.prog W 203 [.agg (smpE x).toArray, ptr c] [seps [arr c 0 [.int .i64 who], A]] Unit (fun _ => .bool (hasW x.2.wait who)) (fun _ => True) (fun _ => [seps [arr c 0 [.int .i64 who], A]]) := by
  refine Fn.intro (N := 7) func203 rfl ntmps203 rfl fun F => ?_
  show GoC _ _ _ _ _ _ [seps [arr c 0 [.int .i64 who], A], F]
  refine .ungrp .auto ?_
  refine .s (.r ?_)
  refine .does rfl (Does.box rfl rfl rfl) ?_
  rintro _ _ ⟨b2, rfl, rfl⟩
  refine .mem (H' := [arr b2 0 (smpE x), arr c 0 [.int .i64 who], A, F]) (fun w s => s) ?_
  refine .p (.a rfl) (.n (.t (.s (.r (.p (.z rfl) (.p (.l rfl) ?_))))))
  refine .does rfl (Does.callE rfl call199 rfl (row_has hr hl) .auto) ?_
  rintro _ _ ⟨⟨⟩, -, rfl, rfl⟩
  refine .p (.a rfl) (.n (.t (.e (.ret1 rfl rfl fun w s => ⟨(), ?_, trivial, finE .auto s⟩))))
  rfl

set_option maxRecDepth 20000 in
theorem gate_waits {W : World} {b : Nat} {g : Gates} {who : Int} {vm vc vs : Value} (hg : GatesLen g) : Fn Tryz.prog W 154 [ptr b, .int .i64 who] [arr b 0 [vm, vc, vs], mtxsH vm g.mtx, cndsH vc g.cnd, smpsH vs g.sem] Unit (fun _ => .bool (g.waits who)) (fun _ => True) (fun _ => [arr b 0 [vm, vc, vs], mtxsH vm g.mtx, cndsH vc g.cnd, smpsH vs g.sem]) := by
  refine Fn.intro (N := 27) func154 rfl ntmps154 rfl fun F => ?_
  show GoC _ _ _ _ _ _ [arr b 0 [vm, vc, vs], mtxsH vm g.mtx, cndsH vc g.cnd, smpsH vs g.sem, F]
  refine .o1 (C := mtxsH vm g.mtx) .auto rfl ?_
  rintro xm hxm
  refine .o1 (C := cndsH vc g.cnd) .auto rfl ?_
  rintro xc hxc
  refine .o1 (C := smpsH vs g.sem) .auto rfl ?_
  rintro xs hxs
  have hlm := map_len hxm
  have hlc := map_len hxc
  have hls := map_len hxs
  have hm2 : ∀ x ∈ xm, x.2.wait.length ≤ 1000000 := fun x hx => hg.mw _ (hxm ▸ List.mem_map_of_mem hx)
  have hc2 : ∀ x ∈ xc, x.2.length ≤ 1000000 := fun x hx => hg.cw _ (hxc ▸ List.mem_map_of_mem hx)
  have hs2 : ∀ x ∈ xs, x.2.wait.length ≤ 1000000 := fun x hx => hg.sw _ (hxs ▸ List.mem_map_of_mem hx)
  obtain ⟨hg1, hg2, hg3, -, -, -⟩ := hg
  refine .s (.r ?_)
  refine .does rfl (Does.box rfl rfl rfl) ?_
  rintro _ _ ⟨b3, rfl, rfl⟩
  refine .p (.a rfl) (.n (.t (.s (.r (.p (.m rfl) (.p (.n rfl) (.p (.z rfl) (.p (.l rfl) (.p (.makeFunc rfl rfl) ?_)))))))))
  refine .does rfl (Does.callE rfl call197 rfl (ContainsFuncM (A := seps [arr b3 0 [.int .i64 who], seps [sl mtxE 3 vm xm, allH (fun x => sl wtrE 2 x.1 x.2.wait) xm]]) (p := fun x => hasW x.2.wait who) (Rd.grp (Rd.at (Rd.grp (Rd.sl .here)) (.there .here))) (by omega) call198 (fun x hx => waits_f1 (Rd.grp (rd_one (f := fun x : Value × Mtx => x.1) (g := fun x => x.2.wait) hx (.there .here))) (hm2 x hx))) .auto) ?_
  rintro _ _ ⟨⟨⟩, -, rfl, rfl⟩
  refine .ungrp .auto ?_
  refine .ungrp .auto ?_
  refine .p (.m rfl) ?_
  apply GoL.segO 7 18 11 [11, 12, 13, 14, 15, 16, 17, 18] rfl
  · intro h11
    refine .g (.m rfl) (.g (.n rfl) (.g (.f rfl) (.g (.l rfl) (.g (.makeFunc rfl rfl) ?_))))
    refine .dg rfl rfl rfl (Does.callE rfl call200 rfl (ContainsFuncR (A := seps [arr b3 0 [.int .i64 who], seps [sl fstE 1 vc xc, allH (fun x => sl wtrE 2 x.1 x.2) xc]]) (p := fun x => hasW x.2 who) (Rd.grp (Rd.at (Rd.grp (Rd.sl .here)) (.there .here))) (by omega) call201 (fun x hx => waits_f2 (Rd.grp (rd_one (f := fun x : Value × List Wtr => x.1) (g := fun x => x.2) hx (.there .here))) (hc2 x hx))) .auto) ?_
    rintro _ _ ⟨⟨⟩, -, rfl, rfl⟩
    refine .ungrp .auto ?_
    refine .ungrp .auto ?_
    refine .p (.u rfl rfl) (.n ?_)
    refine .seg .auto rfl (by first | exact fun _ h => h | exact Ent.kept .auto)
  · intro h11
    refine .u (.u (.u (.u (.u (.u (.p (.t rfl rfl) (.n ?_)))))))
    refine .seg .auto rfl (by first | exact fun _ h => h | exact Ent.kept .auto)
  refine .p (.m rfl) ?_
  apply GoL.segO 7 26 19 [19, 20, 21, 22, 23, 24, 25, 26] rfl
  · intro h19
    refine .g (.m rfl) (.g (.n rfl) (.g (.f rfl) (.g (.l rfl) (.g (.makeFunc rfl rfl) ?_))))
    refine .dg rfl rfl rfl (Does.callE rfl call202 rfl (ContainsFuncS (A := seps [arr b3 0 [.int .i64 who], seps [sl smpE 2 vs xs, allH (fun x => sl wtrE 2 x.1 x.2.wait) xs]]) (p := fun x => hasW x.2.wait who) (Rd.grp (Rd.at (Rd.grp (Rd.sl .here)) (.there .here))) (by omega) call203 (fun x hx => waits_f3 (Rd.grp (rd_one (f := fun x : Value × Smp => x.1) (g := fun x => x.2.wait) hx (.there .here))) (hs2 x hx))) .auto) ?_
    rintro _ _ ⟨⟨⟩, -, rfl, rfl⟩
    refine .ungrp .auto ?_
    refine .ungrp .auto ?_
    refine .p (.u rfl rfl) (.n ?_)
    refine .seg .auto rfl (by first | exact fun _ h => h | exact Ent.kept .auto)
  · intro h19
    refine .u (.u (.u (.u (.u (.u (.p (.t rfl rfl) (.n ?_)))))))
    refine .seg .auto rfl (by first | exact fun _ h => h | exact Ent.kept .auto)
  refine .p (.a rfl) (.n (.t (.e (.ret1 rfl rfl fun w s => ⟨(), ?_, trivial, finE .auto s⟩))))
  exact retB (waits_eq hxm hxc hxs)

set_option maxRecDepth 20000 in
theorem gate_mutex {W : World} {b : Nat} {l : List (Mtx)} {m : Int} {vm vc vs : Value} : Fn Tryz.prog W 153 [ptr b, .int .i64 m] [arr b 0 [vm, vc, vs], mtxsH vm l] Unit (fun _ => elP vm l.length 3 m) (fun _ => True) (fun _ => [arr b 0 [vm, vc, vs], mtxsH vm l]) := by
  refine Fn.intro (N := 26) func153 rfl ntmps153 rfl fun F => ?_
  show GoC _ _ _ _ _ _ [arr b 0 [vm, vc, vs], mtxsH vm l, F]
  refine .o1 (C := mtxsH vm l) .auto rfl ?_
  rintro xs hxs
  have hl := map_len hxs
  refine .s (.r (.p (.a rfl) (.n (.t (.s (.s (.r (.p (.m rfl) (.p (.eqp rfl rfl) (.p (.m rfl) (.g (.m rfl) (.g (.lss rfl rfl) (.p (.u rfl rfl) (.p (.m rfl) ?_))))))))))))))
  apply GoL.segOD 8 19 11 [11, 12, 13, 14, 15, 16, 17, 18, 19] rfl
  · intro h11
    refine .g (.m rfl) (.g (.m rfl) (.g (.n rfl) (.g (.z rfl) (.g (.l rfl) (.g (.len rfl) (.g (.geq rfl rfl) (.p (.u rfl rfl) (.n ?_))))))))
    refine .seg .auto rfl (by first | exact fun _ h => h | exact Ent.kept .auto)
  · intro h11
    refine .u (.u (.u (.u (.u (.u (.u (.p (.t rfl rfl) (.n ?_))))))))
    refine .seg .auto rfl (by first | exact fun _ h => h | exact Ent.kept .auto)
  refine .n (.t (.cond rfl (fun h19 => ?_) (fun h19 => ?_)))
  · simp only [Bool.or_eq_true, decide_eq_true_eq] at h19
    refine .s (.r (.p (.a rfl) (.n (.t (.e (.tr (.ret1 rfl rfl fun w s => ⟨(), ?_, trivial, finE .auto s⟩)))))))
    rw [elP_nil (by omega)]
  · simp only [Bool.or_eq_false_iff, decide_eq_false_iff_not] at h19
    refine .v (.t (.s (.r (.p (.m rfl) (.p (.n rfl) (.p (.z rfl) (.p (.l rfl) (.p (.m rfl) ?_))))))))
    refine .p (.ix m.toNat rfl rfl (by omega) (by omega)) ?_
    refine .p (.a rfl) (.n (.t (.e (.ret1 rfl rfl fun w s => ⟨(), ?_, trivial, finE .auto s⟩))))
    rw [elP_some (by omega)]

set_option maxRecDepth 20000 in
theorem gate_cond {W : World} {b : Nat} {l : List (List Wtr)} {m : Int} {vm vc vs : Value} : Fn Tryz.prog W 126 [ptr b, .int .i64 m] [arr b 0 [vm, vc, vs], cndsH vc l] Unit (fun _ => elP vc l.length 1 m) (fun _ => True) (fun _ => [arr b 0 [vm, vc, vs], cndsH vc l]) := by
  refine Fn.intro (N := 26) func126 rfl ntmps126 rfl fun F => ?_
  show GoC _ _ _ _ _ _ [arr b 0 [vm, vc, vs], cndsH vc l, F]
  refine .o1 (C := cndsH vc l) .auto rfl ?_
  rintro xs hxs
  have hl := map_len hxs
  refine .s (.r (.p (.a rfl) (.n (.t (.s (.s (.r (.p (.m rfl) (.p (.eqp rfl rfl) (.p (.m rfl) (.g (.m rfl) (.g (.lss rfl rfl) (.p (.u rfl rfl) (.p (.m rfl) ?_))))))))))))))
  apply GoL.segOD 8 19 11 [11, 12, 13, 14, 15, 16, 17, 18, 19] rfl
  · intro h11
    refine .g (.m rfl) (.g (.m rfl) (.g (.n rfl) (.g (.f rfl) (.g (.l rfl) (.g (.len rfl) (.g (.geq rfl rfl) (.p (.u rfl rfl) (.n ?_))))))))
    refine .seg .auto rfl (by first | exact fun _ h => h | exact Ent.kept .auto)
  · intro h11
    refine .u (.u (.u (.u (.u (.u (.u (.p (.t rfl rfl) (.n ?_))))))))
    refine .seg .auto rfl (by first | exact fun _ h => h | exact Ent.kept .auto)
  refine .n (.t (.cond rfl (fun h19 => ?_) (fun h19 => ?_)))
  · simp only [Bool.or_eq_true, decide_eq_true_eq] at h19
    refine .s (.r (.p (.a rfl) (.n (.t (.e (.tr (.ret1 rfl rfl fun w s => ⟨(), ?_, trivial, finE .auto s⟩)))))))
    rw [elP_nil (by omega)]
  · simp only [Bool.or_eq_false_iff, decide_eq_false_iff_not] at h19
    refine .v (.t (.s (.r (.p (.m rfl) (.p (.n rfl) (.p (.f rfl) (.p (.l rfl) (.p (.m rfl) ?_))))))))
    refine .p (.ix m.toNat rfl rfl (by omega) (by omega)) ?_
    refine .p (.a rfl) (.n (.t (.e (.ret1 rfl rfl fun w s => ⟨(), ?_, trivial, finE .auto s⟩))))
    rw [elP_some (by omega)]

set_option maxRecDepth 20000 in
theorem gate_sem {W : World} {b : Nat} {l : List (Smp)} {m : Int} {vm vc vs : Value} : Fn Tryz.prog W 160 [ptr b, .int .i64 m] [arr b 0 [vm, vc, vs], smpsH vs l] Unit (fun _ => elP vs l.length 2 m) (fun _ => True) (fun _ => [arr b 0 [vm, vc, vs], smpsH vs l]) := by
  refine Fn.intro (N := 26) func160 rfl ntmps160 rfl fun F => ?_
  show GoC _ _ _ _ _ _ [arr b 0 [vm, vc, vs], smpsH vs l, F]
  refine .o1 (C := smpsH vs l) .auto rfl ?_
  rintro xs hxs
  have hl := map_len hxs
  refine .s (.r (.p (.a rfl) (.n (.t (.s (.s (.r (.p (.m rfl) (.p (.eqp rfl rfl) (.p (.m rfl) (.g (.m rfl) (.g (.lss rfl rfl) (.p (.u rfl rfl) (.p (.m rfl) ?_))))))))))))))
  apply GoL.segOD 8 19 11 [11, 12, 13, 14, 15, 16, 17, 18, 19] rfl
  · intro h11
    refine .g (.m rfl) (.g (.m rfl) (.g (.n rfl) (.g (.f rfl) (.g (.l rfl) (.g (.len rfl) (.g (.geq rfl rfl) (.p (.u rfl rfl) (.n ?_))))))))
    refine .seg .auto rfl (by first | exact fun _ h => h | exact Ent.kept .auto)
  · intro h11
    refine .u (.u (.u (.u (.u (.u (.u (.p (.t rfl rfl) (.n ?_))))))))
    refine .seg .auto rfl (by first | exact fun _ h => h | exact Ent.kept .auto)
  refine .n (.t (.cond rfl (fun h19 => ?_) (fun h19 => ?_)))
  · simp only [Bool.or_eq_true, decide_eq_true_eq] at h19
    refine .s (.r (.p (.a rfl) (.n (.t (.e (.tr (.ret1 rfl rfl fun w s => ⟨(), ?_, trivial, finE .auto s⟩)))))))
    rw [elP_nil (by omega)]
  · simp only [Bool.or_eq_false_iff, decide_eq_false_iff_not] at h19
    refine .v (.t (.s (.r (.p (.m rfl) (.p (.n rfl) (.p (.f rfl) (.p (.l rfl) (.p (.m rfl) ?_))))))))
    refine .p (.ix m.toNat rfl rfl (by omega) (by omega)) ?_
    refine .p (.a rfl) (.n (.t (.e (.ret1 rfl rfl fun w s => ⟨(), ?_, trivial, finE .auto s⟩))))
    rw [elP_some (by omega)]

set_option maxRecDepth 20000 in
theorem row_add {W : World} {b o : Nat} {l : List Wtr} {x : Wtr} (hl : l.length ≤ 100000000) : Fn Tryz.prog W 157 [.pointer (some ⟨b, o, none⟩), .agg (wtrE x).toArray] [rowH b o l] Unit (fun _ => .tuple #[]) (fun _ => True) (fun _ => [rowH b o (l ++ [x])]) := by
  refine Fn.intro (N := 14) func157 rfl ntmps157 rfl fun F => ?_
  show GoC _ _ _ _ _ _ [rowH b o l, F]
  refine .o1 (C := rowH b o l) .auto rfl ?_
  rintro v -
  refine .s (.r ?_)
  refine .does rfl (Does.box rfl rfl rfl) ?_
  rintro _ _ ⟨b3, rfl, rfl⟩
  refine .mem (H' := [arr b3 0 (wtrE x), arr b o [v], sl wtrE 2 v l, F]) (fun w s => s) ?_
  refine .n (.t ?_)
  refine .draw [arr b o [v]] [0, 0, 0, 0, 0, 1, 2, 2, 1, 1, 3] rfl (by kernel_rfl) ?_
  refine .q (.m rfl) (.q (.m rfl) (.q (.n rfl) (.q (.z rfl) (.q (.lz rfl) (.p (.lA rfl) ?_)))))
  refine .d2 rfl Kept.auto (Does.bsl 229 rfl rfl (by kernel_rfl)) (by rintro _ _ ⟨b10, rfl, rfl⟩; exact Kept.auto) ?_
  rintro _ _ ⟨b10, rfl, rfl⟩
  refine .mem (H' := [arr b10 0 (wtrE x), arr b3 0 (wtrE x), arr b o [v], sl wtrE 2 v l, F]) (fun w s => s) ?_
  refine .d2 rfl Kept.auto (Does.app1 (enc := wtrE) (k := 2) x rfl underlying168 underlying168 typeInfo229 rfl rfl rfl (by decide) rfl rfl rfl .auto rfl .auto (by omega) rfl) (by rintro _ _ ⟨v11, rfl, rfl⟩; exact Kept.auto) ?_
  rintro _ _ ⟨v11, rfl, rfl⟩
  refine .p (.n rfl) (.p (.z rfl) ?_)
  refine .d3 rfl (Does.stzS sizeOf168 rfl rfl rfl) ?_
  rintro _ _ ⟨rfl, rfl⟩
  refine .n (.end0 rfl fun w s => ⟨(), ?_, trivial, finE .auto s⟩)
  rfl

set_option maxRecDepth 20000 in
theorem row_take {W : World} {b o : Nat} {l : List Wtr} {c : Int} (hl : l.length ≤ 1000000) : Fn Tryz.prog W 127 [.pointer (some ⟨b, o, none⟩), .int .i64 c] [rowH b o l] Unit (fun _ => .tuple #[.agg (wtrE (takeW l c).1).toArray, .bool (takeW l c).2.1]) (fun _ => True) (fun _ => [rowH b o (takeW l c).2.2]) := by
  refine Fn.intro (N := 43) func127 rfl ntmps127 rfl fun F => ?_
  show GoC _ _ _ _ _ _ [rowH b o l, F]
  refine .o1 (C := rowH b o l) .auto rfl ?_
  rintro v -
  refine .s (.r ?_)
  refine .does rfl (Does.alloc rfl zeroValue229 rfl) ?_
  rintro _ _ ⟨b4, rfl, rfl⟩
  refine .p (.a rfl) (.n (.t (.s (.r (.p (.m rfl) (.p (.n rfl) (.p (.z rfl) (.p (.lz rfl) (.p (.len rfl) (.p (.a rfl) (.n (.t (.s (.s (.r (.p (.m rfl) (.p (.eql rfl rfl) (.n (.t (.condD rfl (fun h15 => ?_) (fun h15 => ?_)))))))))))))))))))))
  · refine .s (.r ?_)
    refine .p (.bld0 ([(.int .i64 0), (.int .i64 0)]) (by kernel_rfl)) ?_
    refine .does rfl (Does.sta (by exact sizeOf229) rfl rfl rfl (by rfl)) ?_
    rintro _ _ ⟨rfl, rfl⟩
    refine .p (.a rfl) (.n (.t (.e (.tr ?_))))
    rw [take_no (show l.length = 0 by omega)]
    refine .retCT rfl rfl isAgg229 (by exact sizeOf229) Cells.a rfl fun w s => ⟨(), ?_, trivial, finE .auto s⟩
    rfl
  · refine .v (.t (.s (.r ?_)))
    have hpk : pick c l.length < l.length := pick_lt (by omega)
    refine .p (.m rfl) (.p (.m rfl) ?_)
    refine .p (.rem rfl rfl (by omega)) ?_
    refine .p (.m rfl) ?_
    refine .p (.add rfl rfl (pick_bd (by omega) (by omega))) ?_
    refine .p (.m rfl) ?_
    refine .p (.valW (Y.rem rfl rfl (by omega)) (pick_int (by omega))) ?_
    refine .p (.a rfl) (.n (.t (.s (.r (.p (.m rfl) (.p (.n rfl) (.p (.z rfl) (.p (.lz rfl) (.p (.m rfl) ?_)))))))))
    refine .p (.ixRd (pick c l.length) underlying168 sizeOf229 rfl rfl Rd.s rfl hpk) ?_
    refine .p (.la rfl (Cells.rd Rd.s (getD_some (d := ⟨0, 0⟩) hpk))) ?_
    refine .does rfl (Does.alloc rfl zeroValue229 rfl) ?_
    rintro _ _ ⟨b8, rfl, rfl⟩
    refine .does rfl (Does.sta (by exact sizeOf229) rfl rfl rfl (by rfl)) ?_
    rintro _ _ ⟨rfl, rfl⟩
    refine .n (.t (.s (.r (.p (.m rfl) (.p (.m rfl) (.p (.n rfl) (.p (.z rfl) (.p (.lz rfl) (.p (.m rfl) (.p (.m rfl) ?_))))))))))
    refine .p (.inc rfl rfl (by omega)) ?_
    refine .does rfl (Does.callE rfl call158 rfl (DeleteG hpk (by omega)) .auto) ?_
    rintro _ _ ⟨u39, -, rfl, rfl⟩
    refine .p (.n rfl) (.p (.z rfl) ?_)
    refine .does rfl (Does.stzS sizeOf168 rfl rfl rfl) ?_
    rintro _ _ ⟨rfl, rfl⟩
    refine .n (.t (.s (.r (.p (.lA rfl) ?_))))
    refine .does rfl (Does.sta (by exact sizeOf229) rfl rfl rfl (by rfl)) ?_
    rintro _ _ ⟨rfl, rfl⟩
    refine .p (.a rfl) (.n (.t (.e ?_)))
    rw [take_ok (show ¬ l.length = 0 by omega)]
    refine .retCT rfl rfl isAgg229 (by exact sizeOf229) Cells.a rfl fun w s => ⟨(), ?_, trivial, finE .auto s⟩
    rfl

set_option maxRecDepth 20000 in
theorem mutex_is {W : World} {b o : Nat} {m : Mtx} {who : Int} : Fn Tryz.prog W 155 [.pointer (some ⟨b, o, none⟩), .int .i64 who] [mtxAt b o m] Unit (fun _ => .bool (m.is who)) (fun _ => True) (fun _ => [mtxAt b o m]) := by
  refine Fn.intro (N := 17) func155 rfl ntmps155 rfl fun F => ?_
  show GoC _ _ _ _ _ _ [mtxAt b o m, F]
  refine .o1 (C := mtxAt b o m) .auto rfl ?_
  rintro u -
  refine .s (.r (.p (.a rfl) (.n (.t (.s (.r (.p (.m rfl) (.p (.n rfl) (.p (.o rfl) (.p (.lo rfl) (.p (.m rfl) ?_)))))))))))
  apply GoL.segA 7 16 9 [9, 10, 11, 12, 13, 14, 15, 16] rfl
  · intro h9
    refine .g (.m rfl) (.g (.n rfl) (.g (.o rfl) (.g (.lo rfl) (.g (.m rfl) (.g (.eql rfl rfl) (.p (.t rfl rfl) (.n ?_)))))))
    refine .seg .auto rfl (by first | exact fun _ h => h | exact Ent.kept .auto)
  · intro h9
    refine .u (.u (.u (.u (.u (.u (.p (.u rfl rfl) (.n ?_)))))))
    refine .seg .auto rfl (by first | exact fun _ h => h | exact Ent.kept .auto)
  refine .p (.a rfl) (.n (.t (.e (.ret1 rfl rfl fun w s => ⟨(), ?_, trivial, finE .auto s⟩))))
  rfl

set_option maxRecDepth 20000 in
theorem mutex_lock {W : World} {b o : Nat} {m : Mtx} {who : Int} (hl : m.wait.length ≤ 100000000) : Fn Tryz.prog W 128 [.pointer (some ⟨b, o, none⟩), .int .i64 who] [mtxAt b o m] Unit (fun _ => .bool (m.lock who).1) (fun _ => True) (fun _ => [mtxAt b o (m.lock who).2]) := by
  refine Fn.intro (N := 22) func128 rfl ntmps128 rfl fun F => ?_
  show GoC _ _ _ _ _ _ [mtxAt b o m, F]
  refine .o1 (C := mtxAt b o m) .auto rfl ?_
  rintro u -
  refine .s (.r (.p (.a rfl) (.n (.t (.s (.s (.r (.p (.m rfl) (.p (.n rfl) (.p (.o rfl) (.p (.lo rfl) (.n (.t (.cond rfl (fun h8 => ?_) (fun h8 => ?_)))))))))))))))
  · refine .s (.r (.p (.m rfl) (.p (.n rfl) (.p (.z rfl) (.p (.m rfl) ?_)))))
    refine .p (.bld1 (fun v1 => [v1, (.int .i64 0)]) rfl (by kernel_rfl)) ?_
    refine .fr .auto (arr_cut1 (b := b) (o := o) (u := u)) ?_
    refine .does rfl (Does.callE rfl call157 rfl (row_add (x := ⟨who, 0⟩) hl) .auto) ?_
    rintro _ _ ⟨⟨⟩, -, rfl, rfl⟩
    refine .n (.t (.s (.r (.p (.a rfl) (.n (.t (.e (.tr ?_))))))))
    rw [lock_no h8]
    refine .to (A := mtxAt b o { m with wait := m.wait ++ [⟨who, 0⟩] }) (Bs := [rowH b o (m.wait ++ [⟨who, 0⟩]), arr b (o + 1) [.bool m.held, .int .i64 m.owner]]) .auto (row_mtx (m := { m with wait := m.wait ++ [⟨who, 0⟩] })) ?_
    refine .ret1 rfl rfl fun w s => ⟨(), ?_, trivial, finE .auto s⟩
    rfl
  · refine .v (.t (.s (.r (.p (.m rfl) (.p (.m rfl) (.p (.m rfl) (.p (.n rfl) (.p (.o rfl) ?_))))))))
    refine .does rfl (Does.sto sizeOf4 rfl rfl rfl rfl) ?_
    rintro _ _ ⟨rfl, rfl⟩
    refine .p (.n rfl) (.p (.o rfl) ?_)
    refine .does rfl (Does.sto sizeOf3 rfl rfl rfl rfl) ?_
    rintro _ _ ⟨rfl, rfl⟩
    refine .n (.t (.s (.r (.p (.a rfl) (.n (.t (.e ?_)))))))
    rw [lock_ok h8]
    refine .ret1 rfl rfl fun w s => ⟨(), ?_, trivial, finE .auto s⟩
    rfl

set_option maxRecDepth 20000 in
theorem mutex_unlock {W : World} {b o : Nat} {m : Mtx} {c : Int} (hl : m.wait.length ≤ 1000000) : Fn Tryz.prog W 156 [.pointer (some ⟨b, o, none⟩), .int .i64 c] [mtxAt b o m] Unit (fun _ => .tuple #[.int .i64 (m.unlock c).1, .bool (m.unlock c).2.1]) (fun _ => True) (fun _ => [mtxAt b o (m.unlock c).2.2]) := by
  refine Fn.intro (N := 28) func156 rfl ntmps156 rfl fun F => ?_
  show GoC _ _ _ _ _ _ [mtxAt b o m, F]
  refine .o1 (C := mtxAt b o m) .auto rfl ?_
  rintro u -
  refine .s (.r (.p (.a rfl) (.p (.a rfl) (.n (.t (.s (.r (.p (.m rfl) (.p (.n rfl) (.p (.z rfl) (.p (.m rfl) ?_)))))))))))
  refine .fr .auto (arr_cut1 (b := b) (o := o) (u := u)) ?_
  refine .does rfl (Does.callE rfl call127 rfl (row_take hl) .auto) ?_
  rintro _ _ ⟨⟨⟩, -, rfl, rfl⟩
  refine .p (.m rfl) (.p (.extract rfl rfl) (.p (.extract rfl rfl) ?_))
  refine .does rfl (Does.alloc rfl zeroValue229 rfl) ?_
  rintro _ _ ⟨b6, rfl, rfl⟩
  refine .does rfl (Does.sta (by exact sizeOf229) rfl rfl rfl (by rfl)) ?_
  rintro _ _ ⟨rfl, rfl⟩
  refine .p (.a rfl) (.n (.t (.s ?_)))
  refine .draw [arr b6 0 (wtrE (takeW m.wait c).1)] [1, 0, 1, 0, 0, 1, 1, 2, 1, 1, 3] rfl (by kernel_rfl) ?_
  refine .p (.m rfl) (.q (.m rfl) (.p (.m rfl) (.q (.z rfl) (.q (.l rfl) ?_))))
  refine .p (.n rfl) (.p (.o rfl) ?_)
  refine .d2 rfl Kept.auto (Does.stz sizeOf4 rfl rfl rfl rfl) (by rintro _ _ ⟨rfl, rfl⟩; exact Kept.auto) ?_
  rintro _ _ ⟨rfl, rfl⟩
  refine .p (.n rfl) (.p (.o rfl) ?_)
  refine .d3 rfl (Does.sto (i := 1) sizeOf3 rfl rfl rfl rfl) ?_
  rintro _ _ ⟨rfl, rfl⟩
  refine .n (.t (.s (.r (.p (.z rfl) (.p (.l rfl) (.p (.m rfl) (.p (.a rfl) (.p (.a rfl) (.n (.t (.e ?_)))))))))))
  refine .to (A := mtxAt b o (m.unlock c).2.2) (Bs := [rowH b o (takeW m.wait c).2.2, arr b (o + 1) [.bool (takeW m.wait c).2.1, .int .i64 (takeW m.wait c).1.who]]) .auto (row_mtx (m := (m.unlock c).2.2)) ?_
  refine .ret2 rfl rfl rfl fun w s => ⟨(), ?_, trivial, finE .auto s⟩
  rfl

end Go.SLYtpcjdohmjmeehaaGreat
namespace Go.SLYtpcjdohmjmeehaaGreat
open Go Go.RowKit Go.Proofs Go.Proofs.Tryz

set_option maxRecDepth 20000 in
theorem core_at {W : World} {b : Nat} {ps : List (Option Nat)} {s : Spc} {n : Int} : Fn Tryz.prog W 59 [ptr b, .int .i64 n] [spcX b ps s] Unit (fun _ => ptrO (atP ps n)) (fun _ => True) (fun _ => [spcX b ps s]) := by
  refine Fn.intro (N := 21) func59 rfl ntmps59 rfl fun F => ?_
  show GoC _ _ _ _ _ _ [spcX b ps s, F]
  refine .o10 (C := spcX b ps s) .auto rfl ?_
  rintro fv sv pv bt vm bg vt bk bw vr -
  refine .s (.r (.p (.a rfl) (.n (.t (.s (.s (.r (.p (.m rfl) (.p (.eqp rfl rfl) (.p (.m rfl) (.g (.m rfl) (.g (.lss rfl rfl) (.p (.u rfl rfl) (.p (.m rfl) ?_))))))))))))))
  apply GoL.segOD 3 14 11 [11, 12, 13, 14] rfl
  · intro h11
    refine .g (.m rfl) (.g (.geq rfl rfl) (.p (.u rfl rfl) (.n ?_)))
    refine .seg .auto rfl (by first | exact fun _ h => h | exact Ent.kept .auto)
  · intro h11
    refine .u (.u (.p (.t rfl rfl) (.n ?_)))
    refine .seg .auto rfl (by first | exact fun _ h => h | exact Ent.kept .auto)
  refine .n (.t (.cond rfl (fun h14 => ?_) (fun h14 => ?_)))
  · simp only [Bool.or_eq_true, decide_eq_true_eq] at h14
    refine .s (.r (.p (.a rfl) (.n (.t (.e (.tr (.ret1 rfl rfl fun w s => ⟨(), ?_, trivial, finE .auto s⟩)))))))
    rw [atP, if_neg (by omega)]; rfl
  · simp only [Bool.or_eq_false_iff, decide_eq_false_iff_not] at h14
    refine .v (.t (.s (.r (.p (.m rfl) (.p (.m rfl) (.p (.n rfl) (.p (.f rfl) ?_)))))))
    refine .p (.ixArr n.toNat underlying115 sizeOf114 rfl rfl (by omega) (by omega)) ?_
    refine .p (.ld rfl (Cell.a (by rw [Nat.mul_one]; exact spcC_get (by omega)))) ?_
    refine .p (.a rfl) (.n (.t (.e (.ret1 rfl rfl fun w s => ⟨(), ?_, trivial, finE .auto s⟩))))
    rw [atP, if_pos (by omega)]

set_option maxRecDepth 20000 in
theorem core_free {W : World} {b p : Nat} {ps : List (Option Nat)} {s : Spc} {n : Nat} {t : Thr} (hp : ps[n]? = some (some p)) (ht : s.thr[n]? = some (some t)) (hl : s.thr.length = 16) (hpl : ps.length = 16) (hT : TakeOk s.table) (hh : 0 ≤ t.handle) : Fn Tryz.prog W 85 [ptr b, .int .i64 (n : Int)] [spcX b ps s] Unit (fun _ => .tuple #[]) (fun _ => True) (fun _ => [spcX b (ps.set n none) (s.free n)]) := by
  refine Fn.intro (N := 23) func85 rfl ntmps85 rfl fun F => ?_
  show GoC _ _ _ _ _ _ [spcX b ps s, F]
  refine .o10 (C := spcX b ps s) .auto rfl ?_
  rintro fv sv pv bt vm bg vt bk bw vr -
  have hn16 : n < 16 := hl ▸ (List.getElem?_eq_some_iff.1 ht).1
  refine .fr .auto (thrs_out hp ht) ?_
  refine .s ?_
  refine .draw [arr b 0 (spcC fv sv pv s.prg bt ps vm bg vt bk bw vr), arr p 0 (thrC t)] [1, 1, 1, 1, 1, 1, 1, 1, 1, 1, 1, 1, 1, 3] rfl (by kernel_rfl) ?_
  refine .p (.m rfl) (.p (.n rfl) (.p (.f rfl) (.p (.l rfl) (.p (.m rfl) (.p (.m rfl) ?_)))))
  refine .p (.n rfl) (.p (.f rfl) ?_)
  refine .p (.ixArr n underlying115 sizeOf114 rfl rfl rfl hn16) ?_
  refine .p (.ld rfl (Cell.a (by rw [Nat.mul_one, spcC_get hn16, getD_of hp]))) ?_
  refine .p (.n rfl) (.p (.f rfl) (.p (.l rfl) ?_))
  refine .d3 rfl (Does.callE rfl call116 rfl (slot_Free hT hh) .auto) ?_
  rintro _ _ ⟨e, -, rfl, rfl⟩
  refine .n (.t (.r (.p (.m rfl) (.p (.m rfl) (.p (.n rfl) (.p (.f rfl) ?_))))))
  refine .p (.ixArr n underlying115 sizeOf114 rfl rfl rfl hn16) ?_
  refine .does rfl (Does.st sizeOf114 rfl rfl rfl (Nat.blt_eq.mpr (by show 9 + n * 1 < 31; omega))) ?_
  rintro _ _ ⟨rfl, rfl⟩
  rw [Nat.mul_one, show Value.pointer none = ptrO none from rfl, spcC_set hn16 hpl]
  refine .n ?_
  rw [show s.free n = { s with table := slotFreed s.table t.handle, thr := s.thr.set n none } from by unfold Spc.free; rw [spc_t ht]]
  refine .end0 rfl fun w s => ⟨(), ?_, trivial, finE .auto s⟩
  rfl

set_option maxRecDepth 20000 in
theorem dng_tell {W : World} {bd b p : Nat} {ps : List (Option Nat)} {d : Dng} {t : Thr} (hp : ps[d.n]? = some (some p)) (ht : d.s.thr[d.n]? = some (some t)) {x y e : Int} {fin : Bool} (hr : d.s.recs.length ≤ 100000000) : Fn Tryz.prog W 61 [ptr bd, .int .u64 x, .int .u64 y, .int .i64 e, .bool fin] [dngX bd b p ps d] Unit (fun _ => .tuple #[]) (fun _ => True) (fun _ => [dngX bd b p ps (d.tell x y e fin)]) := by
  refine Fn.intro (N := 42) func61 rfl ntmps61 rfl fun F => ?_
  show GoC _ _ _ _ _ _ [dngX bd b p ps d, F]
  refine .o2 (C := dngX bd b p ps d) .auto rfl ?_
  rintro vw ve -
  refine .o10 (C := spcX b ps d.s) .auto rfl ?_
  rintro fv sv pv bt vm bg vt bk bw vr -
  refine .fr .auto (thrs_out hp ht) ?_
  refine .draw [arr bd 0 (dngC b p d vw ve), arr b 0 (spcC fv sv pv d.s.prg bt ps vm bg vt bk bw vr), arr p 0 (thrC t)] [0, 0, 0, 0, 0, 0, 0, 0, 0, 0, 0, 1, 1, 1, 1, 1, 1, 1, 1, 1, 1, 1, 1, 1, 1, 1, 1, 1, 2, 2, 1, 1, 3] rfl (by kernel_rfl) ?_
  refine .q (.m rfl) (.q (.n rfl) (.q (.z rfl) (.q (.l rfl) (.q (.m rfl) ?_))))
  refine .q (.n rfl) (.q (.z rfl) (.q (.l rfl) ?_))
  refine .q (.n rfl) (.q (.f rfl) (.q (.l rfl) (.p (.m rfl) ?_)))
  refine .p (.n rfl) (.p (.f rfl) (.p (.l rfl) ?_))
  refine .p (.n rfl) (.p (.f rfl) (.p (.l rfl) (.p (.m rfl) ?_)))
  refine .p (.n rfl) (.p (.f rfl) (.p (.z rfl) (.p (.l rfl) (.p (.m rfl) (.p (.m rfl) (.p (.m rfl) (.p (.m rfl) ?_)))))))
  refine .p (.bld6 (fun v1 v2 v3 v4 v5 v6 => [v1, v2, v3, v4, v5, v6]) rfl rfl rfl rfl rfl rfl (by kernel_rfl)) ?_
  refine .d2 rfl Kept.auto (Does.bsl 45 rfl rfl (by kernel_rfl)) (by rintro _ _ ⟨b38, rfl, rfl⟩; exact Kept.auto) ?_
  rintro _ _ ⟨b38, rfl, rfl⟩
  refine .d2 rfl Kept.auto (Does.app1 (enc := recE) (k := 6) (⟨t.handle, d.i.op, x, y, e, fin⟩ : Rec) rfl underlying32 underlying32 typeInfo45 rfl rfl rfl (by decide) rfl rfl rfl .auto rfl .auto (by omega) rfl) (by rintro _ _ ⟨v39, rfl, rfl⟩; exact Kept.auto) ?_
  rintro _ _ ⟨v39, rfl, rfl⟩
  refine .p (.n rfl) (.p (.f rfl) ?_)
  refine .d3 rfl (Does.stS sizeOf32 rfl rfl rfl) ?_
  rintro _ _ ⟨rfl, rfl⟩
  rw [spc_recs]
  refine .n ?_
  refine .to (A := thrsH ps d.s.thr) (Bs := [arr p 0 (thrC t), thrsH (ps.set d.n none) (d.s.thr.set d.n none)]) .auto (thrs_keep hp ht) ?_
  rw [show d.tell x y e fin = { d with s := d.s.tell ⟨t.handle, d.i.op, x, y, e, fin⟩ } from by unfold Dng.tell; rw [dng_t ht]]
  refine .end0 rfl fun w s => ⟨(), ?_, trivial, finE .auto s⟩
  rfl

set_option maxRecDepth 20000 in
theorem dng_pass {W : World} {bd b p : Nat} {ps : List (Option Nat)} {d : Dng} {t : Thr} (hp : ps[d.n]? = some (some p)) (ht : d.s.thr[d.n]? = some (some t)) {x y e : Int} (hr : d.s.recs.length ≤ 100000000) (he : 0 ≤ e ∧ e ≤ 11) (hl : t.regs.length = 8) : Fn Tryz.prog W 89 [ptr bd, .int .u64 x, .int .u64 y, .int .i64 e] [dngX bd b p ps d] Unit (fun _ => .tuple #[]) (fun _ => True) (fun _ => [dngX bd b p ps (d.pass x y e)]) := by
  refine Fn.intro (N := 23) func89 rfl ntmps89 rfl fun F => ?_
  show GoC _ _ _ _ _ _ [dngX bd b p ps d, F]
  refine .s (.r (.p (.m rfl) (.p (.m rfl) (.p (.m rfl) (.p (.m rfl) ?_)))))
  refine .does rfl (Does.callE rfl call61 rfl (dng_tell hp ht hr) .auto) ?_
  rintro _ _ ⟨⟨⟩, -, rfl, rfl⟩
  refine .n (.t (.r ?_))
  have ht2 : (d.tell x y e true).s.thr[d.n]? = some (some t) := ht
  refine .o2 (C := dngX bd b p ps (d.tell x y e true)) .auto rfl ?_
  rintro vw ve -
  refine .o10 (C := spcX b ps (d.tell x y e true).s) .auto rfl ?_
  rintro fv sv pv bt vm bg vt bk bw vr -
  refine .fr .auto (thrs_out hp ht2) ?_
  refine .p (.m rfl) (.p (.n rfl) (.p (.f rfl) ?_))
  refine .p (.ld rfl (Cell.a (cs := dngC b p (d.tell x y e true) vw ve) rfl)) ?_
  refine .p (.m rfl) ?_
  refine .p (.convU underlying28 underlying43 rfl (by omega)) ?_
  refine .p (.n rfl) (.p (.z rfl) (.p (.f rfl) ?_))
  refine .p (.ixArr 7 underlying57 sizeOf43 rfl rfl (by omega) (by omega)) ?_
  refine .does rfl (Does.st sizeOf43 rfl rfl rfl rfl) ?_
  rintro _ _ ⟨rfl, rfl⟩
  rw [thr_set (n := 7) e (by decide) hl]
  refine .n ?_
  refine .to (A := thrsH ps (d.s.thr.set d.n (some (t.put 7 e)))) (Bs := [arr p 0 (thrC (t.put 7 e)), thrsH (ps.set d.n none) ((d.tell x y e true).s.thr.set d.n none)]) .auto (thrs_shut (List.getElem?_eq_some_iff.1 ht).1 hp) ?_
  rw [show d.pass x y e = (d.tell x y e true).setT (t.put 7 e) from by unfold Dng.pass; rw [dng_t ht]]
  refine .end0 rfl fun w s => ⟨(), ?_, trivial, finE .auto s⟩
  rfl

set_option maxRecDepth 20000 in
theorem dng_block {W : World} {bd b p : Nat} {ps : List (Option Nat)} {d : Dng} {t : Thr} (hp : ps[d.n]? = some (some p)) (ht : d.s.thr[d.n]? = some (some t)) {why into x y : Int} (hr : d.s.recs.length ≤ 100000000) : Fn Tryz.prog W 121 [ptr bd, .int .i64 why, .int .i64 into, .int .u64 x, .int .u64 y] [dngX bd b p ps d] Unit (fun _ => .tuple #[]) (fun _ => True) (fun _ => [dngX bd b p ps (d.block why into x y)]) := by
  refine Fn.intro (N := 43) func121 rfl ntmps121 rfl fun F => ?_
  show GoC _ _ _ _ _ _ [dngX bd b p ps d, F]
  refine .s (.r (.p (.m rfl) (.p (.m rfl) (.p (.m rfl) ?_))))
  refine .does rfl (Does.callE rfl call61 rfl (dng_tell hp ht hr) .auto) ?_
  rintro _ _ ⟨⟨⟩, -, rfl, rfl⟩
  refine .n (.t (.s ?_))
  have ht2 : (d.tell x y 0 false).s.thr[d.n]? = some (some t) := ht
  refine .o2 (C := dngX bd b p ps (d.tell x y 0 false)) .auto rfl ?_
  rintro vw ve -
  refine .o10 (C := spcX b ps (d.tell x y 0 false).s) .auto rfl ?_
  rintro fv sv pv bt vm bg vt bk bw vr -
  refine .fr .auto (thrs_out hp ht2) ?_
  refine .draw [arr bd 0 (dngC b p (d.tell x y 0 false) vw ve)] [1, 1, 1, 1, 1, 1, 1, 1, 1, 1, 1, 1, 1, 1, 1, 1, 1, 1, 0, 1, 1, 2, 1, 1, 2, 1, 1, 3] rfl (by kernel_rfl) ?_
  have ht2 : (d.tell x y 0 false).s.thr[d.n]? = some (some t) := ht
  refine .p (.m rfl) (.p (.n rfl) (.p (.f rfl) (.p (.l rfl) (.p (.m rfl) ?_))))
  refine .p (.n rfl) (.p (.f rfl) (.p (.l rfl) (.p (.m rfl) ?_)))
  refine .p (.n rfl) (.p (.f rfl) (.p (.l rfl) (.p (.m rfl) (.p (.m rfl) ?_))))
  refine .p (.n rfl) (.p (.f rfl) (.p (.z rfl) (.p (.l rfl) (.q (.m rfl) ?_))))
  refine .p (.n rfl) (.p (.f rfl) ?_)
  refine .d2 rfl Kept.auto (Does.st sizeOf3 rfl rfl rfl rfl) (by rintro _ _ ⟨rfl, rfl⟩; exact Kept.auto) ?_
  rintro _ _ ⟨rfl, rfl⟩
  rw [thr_why]
  refine .p (.n rfl) (.p (.f rfl) ?_)
  refine .d2 rfl Kept.auto (Does.st sizeOf3 rfl rfl rfl rfl) (by rintro _ _ ⟨rfl, rfl⟩; exact Kept.auto) ?_
  rintro _ _ ⟨rfl, rfl⟩
  rw [thr_op]
  refine .p (.n rfl) (.p (.f rfl) ?_)
  refine .d3 rfl (Does.st sizeOf3 rfl rfl rfl rfl) ?_
  rintro _ _ ⟨rfl, rfl⟩
  rw [thr_into]
  refine .n (.t (.r (.p (.m rfl) (.p (.n rfl) (.p (.f rfl) (.p (.o rfl) ?_))))))
  refine .does rfl (Does.st sizeOf4 rfl rfl rfl rfl) ?_
  rintro _ _ ⟨rfl, rfl⟩
  refine .n ?_
  refine .to (A := thrsH ps (d.s.thr.set d.n (some { t with why := why, op := d.i.op, into := into }))) (Bs := [arr p 0 (thrC { t with why := why, op := d.i.op, into := into }), thrsH (ps.set d.n none) ((d.tell x y 0 false).s.thr.set d.n none)]) .auto (thrs_shut (List.getElem?_eq_some_iff.1 ht).1 hp) ?_
  rw [show d.block why into x y = { (d.tell x y 0 false).setT { t with why := why, op := d.i.op, into := into } with out := { d.out with stopped := true } } from by unfold Dng.block; rw [dng_t ht]]
  refine .end0 rfl fun w s => ⟨(), ?_, trivial, finE .auto s⟩
  rfl

set_option maxRecDepth 20000 in
theorem spc_wake {W : World} {b p : Nat} {ps : List (Option Nat)} {s : Spc} {n : Nat} {t : Thr} (hp : ps[n]? = some (some p)) (ht : s.thr[n]? = some (some t)) (hn16 : n < 16) (hR : ThrR t) {y : Int} : Fn Tryz.prog W 68 [ptr b, .int .i64 (n : Int), .int .u64 y] [spcX b ps s] Unit (fun _ => .agg (recE (t.woke y)).toArray) (fun _ => True) (fun _ => [spcX b ps (s.wake n y)]) := by
  refine Fn.intro (N := 50) func68 rfl ntmps68 rfl fun F => ?_
  show GoC _ _ _ _ _ _ [spcX b ps s, F]
  refine .o10 (C := spcX b ps s) .auto rfl ?_
  rintro fv sv pv bt vm bg vt bk bw vr -
  refine .fr .auto (thrs_out hp ht) ?_
  have hRl := hR.l
  have hRi := hR.i
  refine .s (.r ?_)
  refine .does rfl (Does.alloc rfl zeroValue45 rfl) ?_
  rintro _ _ ⟨b6, rfl, rfl⟩
  refine .n (.t (.s (.r (.p (.m rfl) (.p (.m rfl) (.p (.n rfl) (.p (.f rfl) ?_)))))))
  refine .p (.ixArr n underlying115 sizeOf114 rfl rfl rfl hn16) ?_
  refine .p (.ld rfl (Cell.a (by rw [Nat.mul_one, spcC_get hn16, getD_of hp]))) ?_
  refine .p (.a rfl) (.n (.t ?_))
  refine .cutK (X := Unit) [2, 14, 15, 16, 17, 18, 19, 20, 21, 22, 23, 24, 25, 26, 27, 28] (fun _ => True) (fun _ => [(2, some (.int .u64 (if t.into = -1 then 0 else y)))]) (fun _ => [arr p 0 (thrC (if t.into = -1 then t else t.put t.into y)), thrsH (ps.set n none) (s.thr.set n none), arr b6 0 [.int .u64 0, .int .i64 0, .int .u64 0, .int .u64 0, .int .i64 0, .bool false], arr b 0 (spcC fv sv pv s.prg bt ps vm bg vt bk bw vr), codeH fv s.prg.funcs, tblH bt s.table, sl wrdE 1 vm s.mem, gatesH bg s.gates, tubsH vt s.tubes, dskH bk s.disk, whlH bw s.wheel, sl recE 6 vr s.recs, F]) ?_ ?_
  · refine .s (.r (.p (.m rfl) (.p (.n rfl) (.p (.f rfl) (.p (.l rfl) (.p (.neq rfl rfl) (.n (.t (.condD rfl (fun h18 => ?_) (fun h18 => ?_))))))))))
    · refine .draw [arr p 0 (thrC t)] [1, 1, 1, 1, 1, 1, 1, 1, 1, 1, 3] rfl (by kernel_rfl) ?_
      refine .p (.m rfl) (.p (.m rfl) (.p (.n rfl) (.p (.f rfl) (.p (.l rfl) (.p (.m rfl) ?_)))))
      refine .p (.n rfl) (.p (.z rfl) (.p (.f rfl) ?_))
      refine .p (.ixArr t.into.toNat underlying57 sizeOf43 rfl rfl (by omega) (by omega)) ?_
      refine .d3 rfl (Does.st sizeOf43 rfl rfl rfl (Nat.blt_eq.mpr (by show 2 + t.into.toNat * 1 < 18; omega))) ?_
      rintro _ _ ⟨rfl, rfl⟩
      rw [thr_setI y (by omega) (by omega) hRl]
      refine .n ?_
      refine .midK () .auto ?_ ?_ ?_
      · trivial
      · rw [if_neg (by omega)]; exact ⟨rfl, trivial⟩
      · rw [if_neg (by omega)]; exact fun w s => Ent.kept .auto w s
    · refine .r (.p (.a rfl) (.n ?_))
      refine .midK () .auto ?_ ?_ ?_
      · trivial
      · rw [if_pos (by omega)]; exact ⟨rfl, trivial⟩
      · rw [if_pos (by omega)]; exact fun w s => Ent.kept .auto w s
  · rintro ⟨⟩ -
    obtain ⟨y1, hy1⟩ : ∃ y1, y1 = (if t.into = -1 then 0 else y) := ⟨_, rfl⟩
    obtain ⟨t1, h1⟩ : ∃ t1, t1 = (if t.into = -1 then t else t.put t.into y) := ⟨_, rfl⟩
    have h1l : t1.regs.length = 8 := by
      rw [h1]
      split
      · exact hRl
      · rw [put_len]; exact hRl
    have h1h : t1.handle = t.handle ∧ t1.op = t.op := by
      rw [h1]
      split <;> exact ⟨rfl, rfl⟩
    rw [← hy1, ← h1]
    refine .s (.r (.p (.m rfl) (.p (.n rfl) (.p (.z rfl) (.p (.f rfl) ?_)))))
    refine .p (.ixArr 7 underlying57 sizeOf43 rfl rfl (by omega) (by omega)) ?_
    refine .does rfl (Does.st sizeOf43 rfl rfl rfl rfl) ?_
    rintro _ _ ⟨rfl, rfl⟩
    rw [thr_set (n := 7) 0 (by decide) h1l]
    refine .n (.t (.s (.r (.p (.m rfl) (.p (.m rfl) (.p (.n rfl) (.p (.f rfl) ?_)))))))
    refine .does rfl (Does.st sizeOf3 rfl rfl rfl rfl) ?_
    rintro _ _ ⟨rfl, rfl⟩
    rw [thr_why]
    refine .p (.n rfl) (.p (.f rfl) ?_)
    refine .does rfl (Does.st sizeOf3 rfl rfl rfl rfl) ?_
    rintro _ _ ⟨rfl, rfl⟩
    rw [thr_into]
    refine .n (.t (.s ?_))
    refine .draw [arr p 0 (thrC { t1.put 7 0 with why := 0, into := -1 })] [1, 1, 1, 1, 1, 1, 1, 1, 1, 1, 3] rfl (by kernel_rfl) ?_
    refine .p (.m rfl) (.p (.n rfl) (.p (.f rfl) (.p (.l rfl) (.p (.m rfl) ?_))))
    refine .p (.n rfl) (.p (.f rfl) (.p (.l rfl) (.p (.m rfl) ?_)))
    refine .p (.bld4 (fun v1 v2 v3 v4 => [v1, v2, (.int .u64 0), v3, (.int .i64 0), v4]) rfl rfl rfl rfl (by kernel_rfl)) ?_
    refine .d3 rfl (Does.sta (by exact sizeOf45) rfl rfl rfl (by rfl)) ?_
    rintro _ _ ⟨rfl, rfl⟩
    refine .n (.t (.e ?_))
    refine .to (A := thrsH ps (s.thr.set n (some ({ t1.put 7 0 with why := 0, into := -1 })))) (Bs := [arr p 0 (thrC ({ t1.put 7 0 with why := 0, into := -1 })), thrsH (ps.set n none) (s.thr.set n none)]) .auto (thrs_shut (List.getElem?_eq_some_iff.1 ht).1 hp) ?_
    rw [show s.wake n y = s.setT n { t1.put 7 0 with why := 0, into := -1 } from by unfold Spc.wake; rw [spc_t ht, wake_eq t1 h1]]
    refine .retC rfl rfl isAgg45 (by exact sizeOf45) Cells.a fun w s => ⟨(), ?_, trivial, finE .auto s⟩
    show Ending.returned (Value.agg #[.int .u64 t1.handle, .int .i64 t1.op, .int .u64 0, .int .u64 y1, .int .i64 0, .bool true]) = _; rw [h1h.1, h1h.2, hy1]; rfl

set_option maxRecDepth 20000 in
theorem dng_goes {W : World} {bd b p q : Nat} {ps : List (Option Nat)} {d : Dng} {t : Thr} {n : Nat} (hp : ps[n]? = some (some q)) (ht : d.s.thr[n]? = some (some t)) (hn16 : n < 16) (hR : ThrR t) (he : d.ends.length ≤ 1000000) (hw : d.out.woken.length ≤ 1000000) {y : Int} : Fn Tryz.prog W 86 [ptr bd, .int .i64 (n : Int), .int .u64 y] [dngX bd b p ps d] Unit (fun _ => .tuple #[]) (fun _ => True) (fun _ => [dngX bd b p ps (d.goes n y)]) := by
  refine Fn.intro (N := 34) func86 rfl ntmps86 rfl fun F => ?_
  show GoC _ _ _ _ _ _ [dngX bd b p ps d, F]
  refine .o2 (C := dngX bd b p ps d) .auto rfl ?_
  rintro vw ve -
  refine .s ?_
  refine .draw [arr bd 0 (dngC b p d vw ve)] [0, 0, 0, 0, 0, 1, 1, 1, 1, 1, 1, 2, 2, 2, 1, 1, 3] rfl (by kernel_rfl) ?_
  refine .q (.m rfl) (.q (.m rfl) (.q (.n rfl) (.q (.f rfl) (.q (.l rfl) (.p (.m rfl) ?_)))))
  refine .p (.n rfl) (.p (.z rfl) (.p (.l rfl) (.p (.m rfl) (.p (.m rfl) ?_))))
  refine .d2 rfl Kept.auto (Does.callE rfl call68 rfl (spc_wake hp ht hn16 hR) .auto) (by rintro _ _ ⟨⟨⟩, -, rfl, rfl⟩; exact Kept.auto) ?_
  rintro _ _ ⟨⟨⟩, -, rfl, rfl⟩
  refine .d2 rfl Kept.auto (Does.bsl 45 rfl rfl (by kernel_rfl)) (by rintro _ _ ⟨b18, rfl, rfl⟩; exact Kept.auto) ?_
  rintro _ _ ⟨b18, rfl, rfl⟩
  refine .d2 rfl Kept.auto (Does.app1 (enc := recE) (k := 6) (t.woke y) rfl underlying32 underlying32 typeInfo45 rfl rfl rfl (by decide) rfl rfl rfl .auto rfl .auto (by omega) rfl) (by rintro _ _ ⟨v19, rfl, rfl⟩; exact Kept.auto) ?_
  rintro _ _ ⟨v19, rfl, rfl⟩
  refine .p (.n rfl) (.p (.f rfl) ?_)
  refine .d3 rfl (Does.stS sizeOf32 rfl rfl rfl) ?_
  rintro _ _ ⟨rfl, rfl⟩
  refine .n (.t (.r (.p (.m rfl) (.p (.m rfl) (.p (.n rfl) (.p (.f rfl) (.p (.z rfl) (.p (.l rfl) (.p (.m rfl) ?_)))))))))
  refine .does rfl (Does.bsl 3 rfl rfl (by kernel_rfl)) ?_
  rintro _ _ ⟨b29, rfl, rfl⟩
  refine .does rfl (Does.app1 (enc := intE) (k := 1) (n : Int) rfl underlying23 underlying23 typeInfo3 rfl rfl rfl (by decide) rfl rfl rfl .auto rfl .auto (by omega) rfl) ?_
  rintro _ _ ⟨v30, rfl, rfl⟩
  refine .p (.n rfl) (.p (.f rfl) (.p (.z rfl) ?_))
  refine .does rfl (Does.stS sizeOf23 rfl rfl rfl) ?_
  rintro _ _ ⟨rfl, rfl⟩
  refine .n ?_
  rw [show d.goes n y = { d with s := d.s.wake n y, ends := d.ends ++ [t.woke y], out := { d.out with woken := d.out.woken ++ [(n : Int)] } } from by unfold Dng.goes; rw [spc_t ht]]
  refine .end0 rfl fun w s => ⟨(), ?_, trivial, finE .auto s⟩
  rfl

set_option maxRecDepth 20000 in
theorem dng_a {W : World} {bd b p : Nat} {ps : List (Option Nat)} {d : Dng} {t : Thr} (hp : ps[d.n]? = some (some p)) (ht : d.s.thr[d.n]? = some (some t)) (hI : 0 ≤ d.i.a ∧ d.i.a < 8) : Fn Tryz.prog W 92 [ptr bd] [dngX bd b p ps d] Unit (fun _ => .int .u64 d.a) (fun _ => True) (fun _ => [dngX bd b p ps d]) := by
  refine Fn.intro (N := 17) func92 rfl ntmps92 rfl fun F => ?_
  show GoC _ _ _ _ _ _ [dngX bd b p ps d, F]
  refine .o2 (C := dngX bd b p ps d) .auto rfl ?_
  rintro vw ve -
  refine .o10 (C := spcX b ps d.s) .auto rfl ?_
  rintro fv sv pv bt vm bg vt bk bw vr -
  refine .fr .auto (thrs_out hp ht) ?_
  refine .s (.r (.p (.a rfl) (.n (.t (.s ?_)))))
  refine .draw [] [1, 1, 1, 1, 1, 1, 1, 1, 1, 1, 1, 1, 1, 1, 1] rfl (by kernel_rfl) ?_
  refine .p (.m rfl) (.p (.n rfl) (.p (.f rfl) (.p (.l rfl) (.p (.m rfl) ?_))))
  refine .p (.n rfl) (.p (.f rfl) (.p (.o rfl) (.p (.l rfl) ?_)))
  refine .p (.n rfl) (.p (.z rfl) (.p (.f rfl) ?_))
  refine .p (.ixArr d.i.a.toNat underlying57 sizeOf43 rfl rfl (by omega) (by omega)) ?_
  refine .p (.ld rfl (Cell.a (thr_get (by omega)))) ?_
  refine .p (.a rfl) (.n (.t (.e ?_)))
  refine .to (A := thrsH ps d.s.thr) (Bs := [arr p 0 (thrC t), thrsH (ps.set d.n none) (d.s.thr.set d.n none)]) .auto (thrs_keep hp ht) ?_
  refine .ret1 rfl rfl fun w s => ⟨(), ?_, trivial, finE .auto s⟩
  rw [show d.a = t.regs.getD d.i.a.toNat 0 from by unfold Dng.a; rw [dng_t ht]; rfl]

set_option maxRecDepth 20000 in
theorem dng_b {W : World} {bd b p : Nat} {ps : List (Option Nat)} {d : Dng} {t : Thr} (hp : ps[d.n]? = some (some p)) (ht : d.s.thr[d.n]? = some (some t)) (hI : 0 ≤ d.i.b ∧ d.i.b < 8) : Fn Tryz.prog W 119 [ptr bd] [dngX bd b p ps d] Unit (fun _ => .int .u64 d.b) (fun _ => True) (fun _ => [dngX bd b p ps d]) := by
  refine Fn.intro (N := 17) func119 rfl ntmps119 rfl fun F => ?_
  show GoC _ _ _ _ _ _ [dngX bd b p ps d, F]
  refine .o2 (C := dngX bd b p ps d) .auto rfl ?_
  rintro vw ve -
  refine .o10 (C := spcX b ps d.s) .auto rfl ?_
  rintro fv sv pv bt vm bg vt bk bw vr -
  refine .fr .auto (thrs_out hp ht) ?_
  refine .s (.r (.p (.a rfl) (.n (.t (.s ?_)))))
  refine .draw [] [1, 1, 1, 1, 1, 1, 1, 1, 1, 1, 1, 1, 1, 1, 1] rfl (by kernel_rfl) ?_
  refine .p (.m rfl) (.p (.n rfl) (.p (.f rfl) (.p (.l rfl) (.p (.m rfl) ?_))))
  refine .p (.n rfl) (.p (.f rfl) (.p (.o rfl) (.p (.l rfl) ?_)))
  refine .p (.n rfl) (.p (.z rfl) (.p (.f rfl) ?_))
  refine .p (.ixArr d.i.b.toNat underlying57 sizeOf43 rfl rfl (by omega) (by omega)) ?_
  refine .p (.ld rfl (Cell.a (thr_get (by omega)))) ?_
  refine .p (.a rfl) (.n (.t (.e ?_)))
  refine .to (A := thrsH ps d.s.thr) (Bs := [arr p 0 (thrC t), thrsH (ps.set d.n none) (d.s.thr.set d.n none)]) .auto (thrs_keep hp ht) ?_
  refine .ret1 rfl rfl fun w s => ⟨(), ?_, trivial, finE .auto s⟩
  rw [show d.b = t.regs.getD d.i.b.toNat 0 from by unfold Dng.b; rw [dng_t ht]; rfl]

set_option maxRecDepth 20000 in
theorem dng_finish {W : World} {bd b p : Nat} {ps : List (Option Nat)} {d : Dng} (hr : d.s.recs.length ≤ 100000000) (he : d.ends.length ≤ 1000000) : Fn Tryz.prog W 66 [ptr bd] [dngX bd b p ps d] Value (fun u => .agg (effE u d.finish.1).toArray) (fun _ => True) (fun u => [sl intE 1 u d.finish.1.woken, spcX b ps d.finish.2]) := by
  refine Fn.intro (N := 25) func66 rfl ntmps66 rfl fun F => ?_
  show GoC _ _ _ _ _ _ [dngX bd b p ps d, F]
  refine .o2 (C := dngX bd b p ps d) .auto rfl ?_
  rintro vw ve -
  refine .o10 (C := spcX b ps d.s) .auto rfl ?_
  rintro fv sv pv bt vm bg vt bk bw vr -
  refine .s (.r ?_)
  refine .does rfl (Does.alloc rfl zeroValue36 rfl) ?_
  rintro _ _ ⟨b2, rfl, rfl⟩
  refine .n (.t (.s ?_))
  refine .draw [arr bd 0 (dngC b p d vw ve), arr b 0 (spcC fv sv pv d.s.prg bt ps vm bg vt bk bw vr)] [0, 0, 0, 0, 1, 1, 1, 1, 1, 1, 1, 1, 1, 1, 1, 2, 1, 1, 3] rfl (by kernel_rfl) ?_
  refine .q (.m rfl) (.q (.n rfl) (.q (.z rfl) (.q (.l rfl) (.p (.m rfl) ?_))))
  refine .p (.n rfl) (.p (.z rfl) (.p (.l rfl) ?_))
  refine .p (.n rfl) (.p (.f rfl) (.p (.l rfl) (.p (.m rfl) ?_)))
  refine .p (.n rfl) (.p (.f rfl) (.p (.l rfl) ?_))
  refine .d2 rfl Kept.auto (Does.append rfl underlying32 underlying32 typeInfo45 rfl rfl rfl (by decide) rfl rfl .auto Rd.s (by omega) (recE_one _)) (by rintro _ _ ⟨v18, rfl, rfl⟩; exact Kept.auto) ?_
  rintro _ _ ⟨v18, rfl, rfl⟩
  refine .p (.n rfl) (.p (.f rfl) ?_)
  refine .d3 rfl (Does.stS sizeOf32 rfl rfl rfl) ?_
  rintro _ _ ⟨rfl, rfl⟩
  rw [spc_recs]
  refine .n (.t (.s (.r (.p (.m rfl) (.p (.n rfl) (.p (.f rfl) ?_))))))
  refine .p (.la rfl (Cells.part0 (ds := effE vw d.out) Cells.a rfl)) ?_
  refine .does rfl (Does.staS (vs := [.bool d.out.stopped, .bool d.out.ended, .bool d.out.yielded]) (by exact sizeOf36) rfl rfl rfl rfl) ?_
  rintro _ _ ⟨rfl, rfl⟩
  refine .n (.t (.e ?_))
  refine .retC rfl rfl isAgg36 (by exact sizeOf36) Cells.a fun w s => ⟨vw, ?_, trivial, finE .auto s⟩
  rfl

end Go.SLYtpcjdohmjmeehaaGreat
namespace Go.SLYtpcjdohmjmeehaaGreat
open Go Go.RowKit Go.Proofs Go.Proofs.Tryz

set_option maxRecDepth 20000 in
theorem num_of {W : World} {a : Int} : Fn Tryz.prog W 221 [.int .u64 a] [] Unit (fun _ => .float .f64 a.toNat) (fun _ => True) (fun _ => []) := by
  refine Fn.intro (N := 5) func221 rfl ntmps221 rfl fun F => ?_
  show GoC _ _ _ _ _ _ [F]
  refine .s (.r (.p (.a rfl) (.n (.t (.s (.r (.p (.m rfl) ?_)))))))
  refine .p (.ext (e := Extern.MathFloatBits.float64frombits) func216 rfl rfl rfl (by kernel_rfl) rfl (fun w => rfl)) ?_
  refine .p (.a rfl) (.n (.t (.e (.ret1 rfl rfl fun w s => ⟨(), ?_, trivial, finE .auto s⟩))))
  rfl

set_option maxRecDepth 20000 in
theorem math_IsNaN {W : World} {n : Nat} : Fn Tryz.prog W 244 [.float .f64 n] [] Unit (fun _ => .bool (fOrd n n != some .eq)) (fun _ => True) (fun _ => []) := by
  refine Fn.intro (N := 6) func244 rfl ntmps244 rfl fun F => ?_
  show GoC _ _ _ _ _ _ [F]
  refine .s (.r (.p (.a rfl) (.n (.t (.s (.r (.p (.m rfl) (.p (.m rfl) ?_))))))))
  refine .p (.fNeq rfl rfl (fun w => rfl)) ?_
  refine .p (.a rfl) (.n (.t (.e (.ret1 rfl rfl fun w s => ⟨(), ?_, trivial, finE .auto s⟩))))
  rfl

set_option maxRecDepth 20000 in
theorem num_isNone {W : World} {n : Nat} : Fn Tryz.prog W 226 [.float .f64 n] [] Unit (fun _ => .bool (fOrd n n != some .eq)) (fun _ => True) (fun _ => []) := by
  refine Fn.intro (N := 5) func226 rfl ntmps226 rfl fun F => ?_
  show GoC _ _ _ _ _ _ [F]
  refine .s (.r (.p (.a rfl) (.n (.t (.s (.r (.p (.m rfl) ?_)))))))
  refine .does rfl (Does.callE rfl call244 rfl math_IsNaN .auto) ?_
  rintro _ _ ⟨⟨⟩, -, rfl, rfl⟩
  refine .p (.a rfl) (.n (.t (.e (.ret1 rfl rfl fun w s => ⟨(), ?_, trivial, finE .auto s⟩))))
  rfl

set_option maxRecDepth 20000 in
theorem num_word {W : World} {n : Nat} : Fn Tryz.prog W 222 [.float .f64 n] [] Unit (fun _ => .int .u64 (fClean (n : Int))) (fun _ => True) (fun _ => []) := by
  refine Fn.intro (N := 7) func222 rfl ntmps222 rfl fun F => ?_
  show GoC _ _ _ _ _ _ [F]
  refine .s (.r (.p (.a rfl) (.n (.t (.s (.s (.r (.p (.m rfl) ?_))))))))
  refine .does rfl (Does.callE rfl call226 rfl num_isNone .auto) ?_
  rintro _ _ ⟨⟨⟩, -, rfl, rfl⟩
  refine .n (.t (.cond rfl (fun h4 => ?_) (fun h4 => ?_)))
  · refine .s (.r (.p (.a rfl) (.n (.t (.e (.tr (.ret1 rfl rfl fun w s => ⟨(), ?_, trivial, finE .auto s⟩)))))))
    rw [clean_nat, if_pos h4]; rfl
  · refine .v (.t (.s (.r (.p (.m rfl) ?_))))
    refine .p (.ext (e := Extern.MathFloatBits.float64bits) func218 rfl rfl rfl (by kernel_rfl) rfl (fun w => rfl)) ?_
    refine .p (.a rfl) (.n (.t (.e (.ret1 rfl rfl fun w s => ⟨(), ?_, trivial, finE .auto s⟩))))
    rw [clean_nat, if_neg (by rw [h4]; simp)]

set_option maxRecDepth 20000 in
theorem num_Add {W : World} {a b : Int} : Fn Tryz.prog W 188 [.int .u64 a, .int .u64 b] [] Unit (fun _ => .int .u64 (fAdd a b)) (fun _ => True) (fun _ => []) := by
  refine Fn.intro (N := 11) func188 rfl ntmps188 rfl fun F => ?_
  show GoC _ _ _ _ _ _ [F]
  refine .s (.r (.p (.a rfl) (.n (.t (.s (.r (.p (.m rfl) ?_)))))))
  refine .does rfl (Does.callE rfl call221 rfl num_of .auto) ?_
  rintro _ _ ⟨⟨⟩, -, rfl, rfl⟩
  refine .p (.m rfl) ?_
  refine .does rfl (Does.callE rfl call221 rfl num_of .auto) ?_
  rintro _ _ ⟨⟨⟩, -, rfl, rfl⟩
  refine .does rfl (Does.fBin (Ieee.double.add _ _) rfl rfl rfl (fun w => rfl)) ?_
  rintro _ _ ⟨r9, hr9, rfl, rfl⟩
  refine .does rfl (Does.callE rfl call222 rfl num_word .auto) ?_
  rintro _ _ ⟨⟨⟩, -, rfl, rfl⟩
  refine .p (.a rfl) (.n (.t (.e (.ret1 rfl rfl fun w s => ⟨(), ?_, trivial, finE .auto s⟩))))
  rw [out_res hr9]; rfl

set_option maxRecDepth 20000 in
theorem num_Sub {W : World} {a b : Int} : Fn Tryz.prog W 189 [.int .u64 a, .int .u64 b] [] Unit (fun _ => .int .u64 (fSub a b)) (fun _ => True) (fun _ => []) := by
  refine Fn.intro (N := 11) func189 rfl ntmps189 rfl fun F => ?_
  show GoC _ _ _ _ _ _ [F]
  refine .s (.r (.p (.a rfl) (.n (.t (.s (.r (.p (.m rfl) ?_)))))))
  refine .does rfl (Does.callE rfl call221 rfl num_of .auto) ?_
  rintro _ _ ⟨⟨⟩, -, rfl, rfl⟩
  refine .p (.m rfl) ?_
  refine .does rfl (Does.callE rfl call221 rfl num_of .auto) ?_
  rintro _ _ ⟨⟨⟩, -, rfl, rfl⟩
  refine .does rfl (Does.fBin (Ieee.double.sub _ _) rfl rfl rfl (fun w => rfl)) ?_
  rintro _ _ ⟨r9, hr9, rfl, rfl⟩
  refine .does rfl (Does.callE rfl call222 rfl num_word .auto) ?_
  rintro _ _ ⟨⟨⟩, -, rfl, rfl⟩
  refine .p (.a rfl) (.n (.t (.e (.ret1 rfl rfl fun w s => ⟨(), ?_, trivial, finE .auto s⟩))))
  rw [out_res hr9]; rfl

set_option maxRecDepth 20000 in
theorem num_Mul {W : World} {a b : Int} : Fn Tryz.prog W 190 [.int .u64 a, .int .u64 b] [] Unit (fun _ => .int .u64 (fMul a b)) (fun _ => True) (fun _ => []) := by
  refine Fn.intro (N := 11) func190 rfl ntmps190 rfl fun F => ?_
  show GoC _ _ _ _ _ _ [F]
  refine .s (.r (.p (.a rfl) (.n (.t (.s (.r (.p (.m rfl) ?_)))))))
  refine .does rfl (Does.callE rfl call221 rfl num_of .auto) ?_
  rintro _ _ ⟨⟨⟩, -, rfl, rfl⟩
  refine .p (.m rfl) ?_
  refine .does rfl (Does.callE rfl call221 rfl num_of .auto) ?_
  rintro _ _ ⟨⟨⟩, -, rfl, rfl⟩
  refine .does rfl (Does.fBin (Ieee.double.mul _ _) rfl rfl rfl (fun w => rfl)) ?_
  rintro _ _ ⟨r9, hr9, rfl, rfl⟩
  refine .does rfl (Does.callE rfl call222 rfl num_word .auto) ?_
  rintro _ _ ⟨⟨⟩, -, rfl, rfl⟩
  refine .p (.a rfl) (.n (.t (.e (.ret1 rfl rfl fun w s => ⟨(), ?_, trivial, finE .auto s⟩))))
  rw [out_res hr9]; rfl

set_option maxRecDepth 20000 in
theorem num_Div {W : World} {a b : Int} : Fn Tryz.prog W 191 [.int .u64 a, .int .u64 b] [] Unit (fun _ => .int .u64 (fDiv a b)) (fun _ => True) (fun _ => []) := by
  refine Fn.intro (N := 11) func191 rfl ntmps191 rfl fun F => ?_
  show GoC _ _ _ _ _ _ [F]
  refine .s (.r (.p (.a rfl) (.n (.t (.s (.r (.p (.m rfl) ?_)))))))
  refine .does rfl (Does.callE rfl call221 rfl num_of .auto) ?_
  rintro _ _ ⟨⟨⟩, -, rfl, rfl⟩
  refine .p (.m rfl) ?_
  refine .does rfl (Does.callE rfl call221 rfl num_of .auto) ?_
  rintro _ _ ⟨⟨⟩, -, rfl, rfl⟩
  refine .does rfl (Does.fBin (Ieee.double.div _ _) rfl rfl rfl (fun w => rfl)) ?_
  rintro _ _ ⟨r9, hr9, rfl, rfl⟩
  refine .does rfl (Does.callE rfl call222 rfl num_word .auto) ?_
  rintro _ _ ⟨⟨⟩, -, rfl, rfl⟩
  refine .p (.a rfl) (.n (.t (.e (.ret1 rfl rfl fun w s => ⟨(), ?_, trivial, finE .auto s⟩))))
  rw [out_res hr9]; rfl

set_option maxRecDepth 20000 in
theorem math_Min {W : World} {m n : Nat} : Fn Tryz.prog W 223 [.float .f64 m, .float .f64 n] [] Unit (fun _ => .float .f64 (archPick true .lt m n)) (fun _ => True) (fun _ => []) := by
  refine Fn.intro (N := 11) func223 rfl ntmps223 rfl fun F => ?_
  show GoC _ _ _ _ _ _ [F]
  refine .s (.r (.p (.a rfl) (.n (.t (.s (.condT rfl ?_))))))
  refine .s (.r (.p (.m rfl) (.p (.m rfl) ?_)))
  refine .p (.ext (e := Extern.MathDim.pick "math.archMin" true .lt) func240 rfl rfl rfl (by kernel_rfl) rfl (fun w => rfl)) ?_
  refine .p (.a rfl) (.n (.t (.e (.tr (.ret1 rfl rfl fun w s => ⟨(), ?_, trivial, finE .auto s⟩)))))
  rfl

set_option maxRecDepth 20000 in
theorem math_Max {W : World} {m n : Nat} : Fn Tryz.prog W 225 [.float .f64 m, .float .f64 n] [] Unit (fun _ => .float .f64 (archPick false .gt m n)) (fun _ => True) (fun _ => []) := by
  refine Fn.intro (N := 11) func225 rfl ntmps225 rfl fun F => ?_
  show GoC _ _ _ _ _ _ [F]
  refine .s (.r (.p (.a rfl) (.n (.t (.s (.condT rfl ?_))))))
  refine .s (.r (.p (.m rfl) (.p (.m rfl) ?_)))
  refine .p (.ext (e := Extern.MathDim.pick "math.archMax" false .gt) func242 rfl rfl rfl (by kernel_rfl) rfl (fun w => rfl)) ?_
  refine .p (.a rfl) (.n (.t (.e (.tr (.ret1 rfl rfl fun w s => ⟨(), ?_, trivial, finE .auto s⟩)))))
  rfl

set_option maxRecDepth 20000 in
theorem num_nan {W : World} {n : Nat} {a b : Int} (ha : 0 ≤ a) (hb : 0 ≤ b) : Fn Tryz.prog W 224 [.float .f64 n, .int .u64 a, .int .u64 b] [] Unit (fun _ => .int .u64 (if (fNan a || fNan b) = true then fNone else fClean (n : Int))) (fun _ => True) (fun _ => []) := by
  refine Fn.intro (N := 17) func224 rfl ntmps224 rfl fun F => ?_
  show GoC _ _ _ _ _ _ [F]
  refine .s (.r (.p (.a rfl) (.n (.t (.s (.s (.r (.p (.m rfl) ?_))))))))
  refine .does rfl (Does.callE rfl call221 rfl num_of .auto) ?_
  rintro _ _ ⟨⟨⟩, -, rfl, rfl⟩
  refine .does rfl (Does.callE rfl call226 rfl num_isNone .auto) ?_
  rintro _ _ ⟨⟨⟩, -, rfl, rfl⟩
  refine .p (.m rfl) ?_
  apply GoL.segO 4 14 10 [10, 11, 12, 13, 14] rfl
  · intro h10
    refine .g (.m rfl) ?_
    refine .dg rfl rfl rfl (Does.callE rfl call221 rfl num_of .auto) ?_
    rintro _ _ ⟨⟨⟩, -, rfl, rfl⟩
    refine .dg rfl rfl rfl (Does.callE rfl call226 rfl num_isNone .auto) ?_
    rintro _ _ ⟨⟨⟩, -, rfl, rfl⟩
    refine .p (.u rfl rfl) (.n ?_)
    refine .seg .auto rfl (by first | exact fun _ h => h | exact Ent.kept .auto)
  · intro h10
    refine .u (.u (.u (.p (.t rfl rfl) (.n ?_))))
    refine .seg .auto rfl (by first | exact fun _ h => h | exact Ent.kept .auto)
  refine .n (.t (.cond rfl (fun h14 => ?_) (fun h14 => ?_)))
  · rw [nan_toNat ha, nan_toNat hb] at h14
    refine .s (.r (.p (.a rfl) (.n (.t (.e (.tr (.ret1 rfl rfl fun w s => ⟨(), ?_, trivial, finE .auto s⟩)))))))
    rw [if_pos h14]; rfl
  · rw [nan_toNat ha, nan_toNat hb] at h14
    refine .v (.t (.s (.r (.p (.m rfl) ?_))))
    refine .does rfl (Does.callE rfl call222 rfl num_word .auto) ?_
    rintro _ _ ⟨⟨⟩, -, rfl, rfl⟩
    refine .p (.a rfl) (.n (.t (.e (.ret1 rfl rfl fun w s => ⟨(), ?_, trivial, finE .auto s⟩))))
    rw [if_neg (by rw [h14]; simp)]

set_option maxRecDepth 20000 in
theorem num_Min {W : World} {a b : Int} (ha : 0 ≤ a) (hb : 0 ≤ b) : Fn Tryz.prog W 192 [.int .u64 a, .int .u64 b] [] Unit (fun _ => .int .u64 (fMinW a b)) (fun _ => True) (fun _ => []) := by
  refine Fn.intro (N := 13) func192 rfl ntmps192 rfl fun F => ?_
  show GoC _ _ _ _ _ _ [F]
  refine .s (.r (.p (.a rfl) (.n (.t (.s (.r (.p (.m rfl) ?_)))))))
  refine .does rfl (Does.callE rfl call221 rfl num_of .auto) ?_
  rintro _ _ ⟨⟨⟩, -, rfl, rfl⟩
  refine .p (.m rfl) ?_
  refine .does rfl (Does.callE rfl call221 rfl num_of .auto) ?_
  rintro _ _ ⟨⟨⟩, -, rfl, rfl⟩
  refine .does rfl (Does.callE rfl call223 rfl math_Min .auto) ?_
  rintro _ _ ⟨⟨⟩, -, rfl, rfl⟩
  refine .p (.m rfl) (.p (.m rfl) ?_)
  refine .does rfl (Does.callE rfl call224 rfl (num_nan ha hb) .auto) ?_
  rintro _ _ ⟨⟨⟩, -, rfl, rfl⟩
  refine .p (.a rfl) (.n (.t (.e (.ret1 rfl rfl fun w s => ⟨(), ?_, trivial, finE .auto s⟩))))
  rfl

set_option maxRecDepth 20000 in
theorem num_Max {W : World} {a b : Int} (ha : 0 ≤ a) (hb : 0 ≤ b) : Fn Tryz.prog W 193 [.int .u64 a, .int .u64 b] [] Unit (fun _ => .int .u64 (fMaxW a b)) (fun _ => True) (fun _ => []) := by
  refine Fn.intro (N := 13) func193 rfl ntmps193 rfl fun F => ?_
  show GoC _ _ _ _ _ _ [F]
  refine .s (.r (.p (.a rfl) (.n (.t (.s (.r (.p (.m rfl) ?_)))))))
  refine .does rfl (Does.callE rfl call221 rfl num_of .auto) ?_
  rintro _ _ ⟨⟨⟩, -, rfl, rfl⟩
  refine .p (.m rfl) ?_
  refine .does rfl (Does.callE rfl call221 rfl num_of .auto) ?_
  rintro _ _ ⟨⟨⟩, -, rfl, rfl⟩
  refine .does rfl (Does.callE rfl call225 rfl math_Max .auto) ?_
  rintro _ _ ⟨⟨⟩, -, rfl, rfl⟩
  refine .p (.m rfl) (.p (.m rfl) ?_)
  refine .does rfl (Does.callE rfl call224 rfl (num_nan ha hb) .auto) ?_
  rintro _ _ ⟨⟨⟩, -, rfl, rfl⟩
  refine .p (.a rfl) (.n (.t (.e (.ret1 rfl rfl fun w s => ⟨(), ?_, trivial, finE .auto s⟩))))
  rfl

set_option maxRecDepth 20000 in
theorem num_Less {W : World} {a b : Int} : Fn Tryz.prog W 194 [.int .u64 a, .int .u64 b] [] Unit (fun _ => .bool (fLt a b)) (fun _ => True) (fun _ => []) := by
  refine Fn.intro (N := 10) func194 rfl ntmps194 rfl fun F => ?_
  show GoC _ _ _ _ _ _ [F]
  refine .s (.r (.p (.a rfl) (.n (.t (.s (.r (.p (.m rfl) ?_)))))))
  refine .does rfl (Does.callE rfl call221 rfl num_of .auto) ?_
  rintro _ _ ⟨⟨⟩, -, rfl, rfl⟩
  refine .p (.m rfl) ?_
  refine .does rfl (Does.callE rfl call221 rfl num_of .auto) ?_
  rintro _ _ ⟨⟨⟩, -, rfl, rfl⟩
  refine .p (.fLss rfl rfl) (.p (.a rfl) (.n (.t (.e (.ret1 rfl rfl fun w s => ⟨(), ?_, trivial, finE .auto s⟩)))))
  rfl

set_option maxRecDepth 20000 in
theorem num_ToInt {W : World} {a : Int} (ha : 0 ≤ a) : Fn Tryz.prog W 195 [.int .u64 a] [] Unit (fun _ => .int .u64 (fToInt a)) (fun _ => True) (fun _ => []) := by
  refine Fn.intro (N := 18) func195 rfl ntmps195 rfl fun F => ?_
  show GoC _ _ _ _ _ _ [F]
  refine .s (.r (.p (.a rfl) (.n (.t (.s (.r (.p (.m rfl) ?_)))))))
  refine .does rfl (Does.callE rfl call221 rfl num_of .auto) ?_
  rintro _ _ ⟨⟨⟩, -, rfl, rfl⟩
  refine .p (.a rfl) (.n (.t (.b (.s (.r (.p (.m rfl) ?_))))))
  refine .does rfl (Does.callE rfl call226 rfl num_isNone .auto) ?_
  rintro _ _ ⟨⟨⟩, -, rfl, rfl⟩
  refine .p (.a rfl) (.n (.t (.cond rfl (fun h9 => ?_) (fun h9 => ?_))))
  · refine .s (.r (.p (.a rfl) (.n (.t (.e (.br (.ret1 rfl rfl fun w s => ⟨(), ?_, trivial, finE .auto s⟩)))))))
    rw [fToInt, if_pos (by rw [← nan_toNat ha]; exact h9)]
  · refine .s (.r (.p (.m rfl) (.p (.fGeq rfl rfl) (.p (.a rfl) (.n (.t (.cond rfl (fun h12 => ?_) (fun h12 => ?_))))))))
    · have g12 : (Ieee.double.order a.toNat fFar == some .gt || Ieee.double.order a.toNat fFar == some .eq) = true := h12
      refine .s (.r (.p (.a rfl) (.n (.t (.e (.br (.ret1 rfl rfl fun w s => ⟨(), ?_, trivial, finE .auto s⟩)))))))
      rw [fToInt, if_neg (by rw [← nan_toNat ha, h9]; simp), if_pos g12]
    · have g12 : (Ieee.double.order a.toNat fFar == some .gt || Ieee.double.order a.toNat fFar == some .eq) = false := h12
      refine .s (.r (.p (.m rfl) (.p (.fLss rfl rfl) (.p (.a rfl) (.n (.t (.cond rfl (fun h15 => ?_) (fun h15 => ?_))))))))
      · have g15 : (Ieee.double.order a.toNat fMFar == some .lt) = true := h15
        refine .s (.r (.p (.a rfl) (.n (.t (.e (.br (.ret1 rfl rfl fun w s => ⟨(), ?_, trivial, finE .auto s⟩)))))))
        rw [fToInt, if_neg (by rw [← nan_toNat ha, h9]; simp), if_neg (by rw [g12]; simp), if_pos g15]
      · have g15 : (Ieee.double.order a.toNat fMFar == some .lt) = false := h15
        refine .s (.r (.p (.m rfl) ?_))
        obtain ⟨k, hk, hk1, hk2⟩ := toInt_ok2 h9 g12 g15
        refine .p (.toIntF (fun w => run_toInt hk hk1 hk2) rfl) ?_
        refine .p (.conv underlying2 underlying43 rfl) ?_
        refine .p (.a rfl) (.n (.t (.e (.br (.ret1 rfl rfl fun w s => ⟨(), ?_, trivial, finE .auto s⟩)))))
        rw [fToInt, if_neg (by rw [← nan_toNat ha, h9]; simp), if_neg (by rw [g12]; simp), if_neg (by rw [g15]; simp), hk]; exact retI (wrap_w64 k)

set_option maxRecDepth 20000 in
theorem num_ToFloat {W : World} {a : Int} : Fn Tryz.prog W 196 [.int .u64 a] [] Unit (fun _ => .int .u64 (fToFloat a)) (fun _ => True) (fun _ => []) := by
  refine Fn.intro (N := 7) func196 rfl ntmps196 rfl fun F => ?_
  show GoC _ _ _ _ _ _ [F]
  refine .s (.r (.p (.a rfl) (.n (.t (.s (.r (.p (.m rfl) ?_)))))))
  refine .p (.conv underlying43 underlying2 rfl) ?_
  refine .p (.toFloat (fun w => rfl) rfl) ?_
  refine .does rfl (Does.callE rfl call222 rfl num_word .auto) ?_
  rintro _ _ ⟨⟨⟩, -, rfl, rfl⟩
  refine .p (.a rfl) (.n (.t (.e (.ret1 rfl rfl fun w s => ⟨(), ?_, trivial, finE .auto s⟩))))
  rfl

end Go.SLYtpcjdohmjmeehaaGreat
namespace Go.SLYtpcjdohmjmeehaaGreat
open Go Go.RowKit Go.Proofs Go.Proofs.Tryz

set_option maxRecDepth 20000 in
theorem frame_Next {W : World} {A : HProp} {fv c1 c2 c3 c4 c5 c6 c7 : Value} {fs : List (Value × List Ins)} {f : Frm} {p : Prg} (hr : Rd W [A] fstE 1 fv fs) (hi : ∀ x ∈ fs, Rd W [A] insE 5 x.1 x.2) (hp : fs.map (·.2) = p.funcs) (_hl : fs.length ≤ 1000000) (_hl2 : ∀ x ∈ fs, x.2.length ≤ 1000000) : Fn Tryz.prog W 60 [.agg #[fv, c1, c2, c3, c4, c5, c6, c7], .agg (frmE f).toArray] [A] Unit (fun _ => nextR (nextI p f)) (fun _ => True) (fun _ => [A]) := by
  refine Fn.intro (N := 45) func60 rfl ntmps60 rfl fun F => ?_
  haveI hRI : ∀ (H : List HProp) [HasH H A], ReadsC W H fv fstE 1 fs := fun H h => ⟨hr.at h.has⟩
  show GoC _ _ _ _ _ _ [A, F]
  obtain ⟨x, hxd⟩ : ∃ x : Value × List Ins, fs.getD f.fn.toNat (.slice none 0 0, []) = x := ⟨_, rfl⟩
  have hx : f.fn.toNat < fs.length → fs[f.fn.toNat]? = some x := fun h => hxd ▸ getD_some h
  refine .s (.r ?_)
  refine .does rfl (Does.box rfl rfl rfl) ?_
  rintro _ _ ⟨b2, rfl, rfl⟩
  refine .mem (H' := [arr b2 0 [fv, c1, c2, c3, c4, c5, c6, c7], A, F]) (fun w s => s) ?_
  refine .does rfl (Does.box rfl rfl rfl) ?_
  rintro _ _ ⟨b3, rfl, rfl⟩
  refine .mem (H' := [arr b3 0 (frmE f), arr b2 0 [fv, c1, c2, c3, c4, c5, c6, c7], A, F]) (fun w s => s) ?_
  refine .does rfl (Does.alloc rfl zeroValue123 rfl) ?_
  rintro _ _ ⟨b4, rfl, rfl⟩
  refine .p (.a rfl) (.n (.t (.s (.s ?_))))
  refine .draw [] [1, 1, 1, 1, 1, 1, 1, 1, 1, 1, 1, 1, 1, 1, 1, 1, 1, 1, 1, 1, 1, 1, 1, 1, 1, 1, 1, 1] rfl (by kernel_rfl) ?_
  refine .p (.z rfl) (.p (.l rfl) (.p (.lss rfl rfl) (.p (.m rfl) ?_)))
  apply GoK.segOD 7 16 9 [9, 10, 11, 12, 13, 14, 15, 16] rfl
  · intro h9
    refine .g (.z rfl) (.g (.l rfl) (.g (.z rfl) (.g (.l rfl) (.g (.len rfl) (.g (.geq rfl rfl) (.p (.u rfl rfl) (.n ?_)))))))
    refine .seg .auto rfl (by first | exact fun _ h => h | exact Ent.kept .auto)
  · intro h9
    refine .w (.w (.w (.w (.w (.w (.p (.t rfl rfl) (.n ?_)))))))
    refine .seg .auto rfl (by first | exact fun _ h => h | exact Ent.kept .auto)
  refine .p (.m rfl) ?_
  apply GoK.segO 4 21 17 [17, 18, 19, 20, 21] rfl
  · intro h17
    refine .g (.f rfl) (.g (.l rfl) (.g (.lss rfl rfl) (.p (.u rfl rfl) (.n ?_))))
    refine .seg .auto rfl (by first | exact fun _ h => h | exact Ent.kept .auto)
  · intro h17
    refine .w (.w (.w (.p (.t rfl rfl) (.n ?_))))
    refine .seg .auto rfl (by first | exact fun _ h => h | exact Ent.kept .auto)
  refine .p (.m rfl) ?_
  apply GoK.segO 11 33 22 [22, 23, 24, 25, 26, 27, 28, 29, 30, 31, 32, 33] rfl
  · intro h22
    simp only [Bool.or_eq_false_iff, decide_eq_false_iff_not] at h22
    have hlt : f.fn.toNat < fs.length := by omega
    have hix := hi x (List.mem_of_getElem? (hx hlt))
    haveI hI4 : ∀ (H : List HProp) [HasH H A], ReadsC W H x.1 insE 5 x.2 := fun H h => ⟨hix.at h.has⟩
    refine .g (.f rfl) (.g (.l rfl) (.g (.z rfl) (.g (.l rfl) (.g (.z rfl) (.g (.l rfl) ?_)))))
    refine .g (.ix f.fn.toNat rfl rfl (by omega) hlt) ?_
    refine .g (.ld rfl (Cell.rd0 Rd.s (hx hlt) (by rfl))) ?_
    refine .g (.len rfl) (.g (.geq rfl rfl) (.p (.u rfl rfl) (.n ?_)))
    refine .seg .auto rfl (by first | exact fun _ h => h | exact Ent.kept .auto)
  · intro h22
    refine .w (.w (.w (.w (.w (.w (.w (.w (.w (.w (.p (.t rfl rfl) (.n ?_)))))))))))
    refine .seg .auto rfl (by first | exact fun _ h => h | exact Ent.kept .auto)
  refine .n (.t (.cond rfl (fun h33 => ?_) (fun h33 => ?_)))
  · refine .s (.r ?_)
    refine .p (.bld0 ([(.int .i64 0), (.int .i64 0), (.int .i64 0), (.int .i64 0), (.int .u64 0)]) (by kernel_rfl)) ?_
    refine .does rfl (Does.sta (by exact sizeOf123) rfl rfl rfl (by rfl)) ?_
    rintro _ _ ⟨rfl, rfl⟩
    refine .p (.a rfl) (.n (.t (.e (.tr ?_))))
    refine .retCT rfl rfl isAgg123 (by exact sizeOf123) Cells.a rfl fun w s => ⟨(), ?_, trivial, finE .auto s⟩
    rw [next_no (z := (.slice none 0 0, [])) hp (by rw [hxd]; exact h33) rfl]; rfl
  · refine .v (.t (.s ?_))
    refine .draw [] [1, 1, 1, 1, 1, 1, 1, 1, 1, 1, 3, 1] rfl (by kernel_rfl) ?_
    simp only [Bool.or_eq_false_iff, decide_eq_false_iff_not] at h33
    have hlt : f.fn.toNat < fs.length := by omega
    have hix := hi x (List.mem_of_getElem? (hx hlt))
    haveI hI4 : ∀ (H : List HProp) [HasH H A], ReadsC W H x.1 insE 5 x.2 := fun H h => ⟨hix.at h.has⟩
    obtain ⟨i, hin⟩ := at_some (show f.pc.toNat < x.2.length by omega)
    refine .p (.z rfl) (.p (.l rfl) (.p (.z rfl) (.p (.l rfl) ?_)))
    refine .p (.ix f.fn.toNat rfl rfl (by omega) hlt) ?_
    refine .p (.ld rfl (Cell.rd0 Rd.s (hx hlt) (by rfl))) ?_
    refine .p (.f rfl) (.p (.l rfl) ?_)
    refine .p (.ix f.pc.toNat rfl rfl (by omega) (by omega)) ?_
    refine .p (.la rfl (Cells.rd Rd.s hin)) ?_
    refine .d3 rfl (Does.sta (by exact sizeOf123) rfl rfl rfl (by rfl)) ?_
    rintro _ _ ⟨rfl, rfl⟩
    refine .p (.a rfl) (.n (.t (.e ?_)))
    refine .retCT rfl rfl isAgg123 (by exact sizeOf123) Cells.a rfl fun w s => ⟨(), ?_, trivial, finE .auto s⟩
    rw [next_yes hp (by omega) (by omega) (hx hlt) hin]; rfl

set_option maxRecDepth 20000 in
theorem frame_yes {W : World} {b : Bool} : Fn Tryz.prog W 187 [.bool b] [] Unit (fun _ => .int .u64 (yesI b)) (fun _ => True) (fun _ => []) := by
  refine Fn.intro (N := 4) func187 rfl ntmps187 rfl fun F => ?_
  show GoC _ _ _ _ _ _ [F]
  refine .s (.r (.p (.a rfl) (.n (.t (.s (.s (.r (.p (.m rfl) (.n (.t (.cond rfl (fun h => ?_) (fun h => ?_))))))))))))
  · refine .s (.r (.p (.a rfl) (.n (.t (.e (.tr (.ret1 rfl rfl fun w s => ⟨(), ?_, trivial, finE .auto s⟩)))))))
    subst h; rfl
  · refine .v (.t (.s (.r (.p (.a rfl) (.n (.t (.e (.ret1 rfl rfl fun w s => ⟨(), ?_, trivial, finE .auto s⟩))))))))
    subst h; rfl

set_option maxRecDepth 20000 in
theorem frame_short {W : World} {n : Int} : Fn Tryz.prog W 151 [.int .i64 n] [] Unit (fun _ => .bool (shortB n)) (fun _ => True) (fun _ => []) := by
  refine Fn.intro (N := 13) func151 rfl ntmps151 rfl fun F => ?_
  show GoC _ _ _ _ _ _ [F]
  refine .s (.r (.p (.a rfl) (.n (.t (.s (.r (.p (.m rfl) (.p (.eql rfl rfl) (.p (.m rfl) ?_)))))))))
  apply GoL.segOD 3 8 5 [5, 6, 7, 8] rfl
  · intro h5
    refine .g (.m rfl) (.g (.eql rfl rfl) (.p (.u rfl rfl) (.n ?_)))
    refine .seg .auto rfl (by first | exact fun _ h => h | exact Ent.kept .auto)
  · intro h5
    refine .u (.u (.p (.t rfl rfl) (.n ?_)))
    refine .seg .auto rfl (by first | exact fun _ h => h | exact Ent.kept .auto)
  refine .p (.m rfl) ?_
  apply GoL.segO 3 12 9 [9, 10, 11, 12] rfl
  · intro h9
    refine .g (.m rfl) (.g (.eql rfl rfl) (.p (.u rfl rfl) (.n ?_)))
    refine .seg .auto rfl (by first | exact fun _ h => h | exact Ent.kept .auto)
  · intro h9
    refine .u (.u (.p (.t rfl rfl) (.n ?_)))
    refine .seg .auto rfl (by first | exact fun _ h => h | exact Ent.kept .auto)
  refine .p (.a rfl) (.n (.t (.e (.ret1 rfl rfl fun w s => ⟨(), ?_, trivial, finE .auto s⟩))))
  rfl

set_option maxRecDepth 20000 in
theorem frame_Arith {W : World} {op a b : Int} (ha : 0 ≤ a) (hb : 0 ≤ b) : Fn Tryz.prog W 152 [.int .i64 op, .int .u64 a, .int .u64 b] [] Bool (fun t => .tuple #[.int .u64 (arithI op a b), .bool t]) (fun _ => True) (fun _ => []) := by
  refine Fn.intro (N := 77) func152 rfl ntmps152 rfl fun F => ?_
  show GoC _ _ _ _ _ _ [F]
  refine .s (.r (.p (.a rfl) (.p (.a rfl) (.n (.t (.s (.s (.r (.p (.m rfl) (.n (.t (.b (.s (.r (.p (.eql rfl rfl) (.p (.a rfl) (.n (.t (.condD rfl (fun h9 => ?_) (fun h9 => ?_))))))))))))))))))))
  · refine .s (.r (.p (.m rfl) (.p (.a rfl) (.p (.a rfl) (.n (.t (.e (.br (.tr (.ret2 rfl rfl rfl fun w s => ⟨true, ?_, trivial, finE .auto s⟩))))))))))
    rw [show arithI op a b = a from by unfold arithI; rw [if_pos h9]]
  · refine .s (.r (.p (.eql rfl rfl) (.p (.a rfl) (.n (.t (.condD rfl (fun h12 => ?_) (fun h12 => ?_)))))))
    · refine .s (.r (.p (.m rfl) (.p (.m rfl) (.p (.addW rfl rfl) (.p (.a rfl) (.p (.a rfl) (.n (.t (.e (.br (.tr (.ret2 rfl rfl rfl fun w s => ⟨true, ?_, trivial, finE .auto s⟩))))))))))))
      rw [show arithI op a b = w64 (a + b) from by unfold arithI; rw [if_neg h9, if_pos h12]]
      rfl
    · refine .s (.r (.p (.eql rfl rfl) (.p (.a rfl) (.n (.t (.condD rfl (fun h17 => ?_) (fun h17 => ?_)))))))
      · refine .s (.r (.p (.m rfl) (.p (.m rfl) (.p (.subW rfl rfl) (.p (.a rfl) (.p (.a rfl) (.n (.t (.e (.br (.tr (.ret2 rfl rfl rfl fun w s => ⟨true, ?_, trivial, finE .auto s⟩))))))))))))
        rw [show arithI op a b = w64 (a - b) from by unfold arithI; rw [if_neg h9, if_neg h12, if_pos h17]]
        rfl
      · refine .s (.r (.p (.eql rfl rfl) (.p (.a rfl) (.n (.t (.condD rfl (fun h22 => ?_) (fun h22 => ?_)))))))
        · refine .s (.r (.p (.m rfl) (.p (.m rfl) (.p (.mulW rfl rfl) (.p (.a rfl) (.p (.a rfl) (.n (.t (.e (.br (.tr (.ret2 rfl rfl rfl fun w s => ⟨true, ?_, trivial, finE .auto s⟩))))))))))))
          rw [show arithI op a b = w64 (a * b) from by unfold arithI; rw [if_neg h9, if_neg h12, if_neg h17, if_pos h22]]
          rfl
        · refine .s (.r (.p (.eql rfl rfl) (.p (.a rfl) (.n (.t (.condD rfl (fun h27 => ?_) (fun h27 => ?_)))))))
          · refine .s (.r (.p (.m rfl) (.p (.m rfl) (.p (.lss rfl rfl) ?_))))
            refine .does rfl (Does.callE rfl call187 rfl frame_yes .auto) ?_
            rintro _ _ ⟨⟨⟩, -, rfl, rfl⟩
            refine .p (.a rfl) (.p (.a rfl) (.n (.t (.e (.br (.tr (.ret2 rfl rfl rfl fun w s => ⟨true, ?_, trivial, finE .auto s⟩)))))))
            rw [show arithI op a b = yesI (decide (a < b)) from by unfold arithI; rw [if_neg h9, if_neg h12, if_neg h17, if_neg h22, if_pos h27]]
          · refine .s (.r (.p (.eql rfl rfl) (.p (.a rfl) (.n (.t (.condD rfl (fun h33 => ?_) (fun h33 => ?_)))))))
            · refine .s (.r (.p (.m rfl) (.p (.m rfl) ?_)))
              refine .does rfl (Does.callE rfl call188 rfl num_Add .auto) ?_
              rintro _ _ ⟨⟨⟩, -, rfl, rfl⟩
              refine .p (.a rfl) (.p (.a rfl) (.n (.t (.e (.br (.tr (.ret2 rfl rfl rfl fun w s => ⟨true, ?_, trivial, finE .auto s⟩)))))))
              rw [show arithI op a b = fAdd a b from by unfold arithI; rw [if_neg h9, if_neg h12, if_neg h17, if_neg h22, if_neg h27, if_pos h33]]
            · refine .s (.r (.p (.eql rfl rfl) (.p (.a rfl) (.n (.t (.condD rfl (fun h38 => ?_) (fun h38 => ?_)))))))
              · refine .s (.r (.p (.m rfl) (.p (.m rfl) ?_)))
                refine .does rfl (Does.callE rfl call189 rfl num_Sub .auto) ?_
                rintro _ _ ⟨⟨⟩, -, rfl, rfl⟩
                refine .p (.a rfl) (.p (.a rfl) (.n (.t (.e (.br (.tr (.ret2 rfl rfl rfl fun w s => ⟨true, ?_, trivial, finE .auto s⟩)))))))
                rw [show arithI op a b = fSub a b from by unfold arithI; rw [if_neg h9, if_neg h12, if_neg h17, if_neg h22, if_neg h27, if_neg h33, if_pos h38]]
              · refine .s (.r (.p (.eql rfl rfl) (.p (.a rfl) (.n (.t (.condD rfl (fun h43 => ?_) (fun h43 => ?_)))))))
                · refine .s (.r (.p (.m rfl) (.p (.m rfl) ?_)))
                  refine .does rfl (Does.callE rfl call190 rfl num_Mul .auto) ?_
                  rintro _ _ ⟨⟨⟩, -, rfl, rfl⟩
                  refine .p (.a rfl) (.p (.a rfl) (.n (.t (.e (.br (.tr (.ret2 rfl rfl rfl fun w s => ⟨true, ?_, trivial, finE .auto s⟩)))))))
                  rw [show arithI op a b = fMul a b from by unfold arithI; rw [if_neg h9, if_neg h12, if_neg h17, if_neg h22, if_neg h27, if_neg h33, if_neg h38, if_pos h43]]
                · refine .s (.r (.p (.eql rfl rfl) (.p (.a rfl) (.n (.t (.condD rfl (fun h48 => ?_) (fun h48 => ?_)))))))
                  · refine .s (.r (.p (.m rfl) (.p (.m rfl) ?_)))
                    refine .does rfl (Does.callE rfl call191 rfl num_Div .auto) ?_
                    rintro _ _ ⟨⟨⟩, -, rfl, rfl⟩
                    refine .p (.a rfl) (.p (.a rfl) (.n (.t (.e (.br (.tr (.ret2 rfl rfl rfl fun w s => ⟨true, ?_, trivial, finE .auto s⟩)))))))
                    rw [show arithI op a b = fDiv a b from by unfold arithI; rw [if_neg h9, if_neg h12, if_neg h17, if_neg h22, if_neg h27, if_neg h33, if_neg h38, if_neg h43, if_pos h48]]
                  · refine .s (.r (.p (.eql rfl rfl) (.p (.a rfl) (.n (.t (.condD rfl (fun h53 => ?_) (fun h53 => ?_)))))))
                    · refine .s (.r (.p (.m rfl) (.p (.m rfl) ?_)))
                      refine .does rfl (Does.callE rfl call192 rfl (num_Min ha hb) .auto) ?_
                      rintro _ _ ⟨⟨⟩, -, rfl, rfl⟩
                      refine .p (.a rfl) (.p (.a rfl) (.n (.t (.e (.br (.tr (.ret2 rfl rfl rfl fun w s => ⟨true, ?_, trivial, finE .auto s⟩)))))))
                      rw [show arithI op a b = fMinW a b from by unfold arithI; rw [if_neg h9, if_neg h12, if_neg h17, if_neg h22, if_neg h27, if_neg h33, if_neg h38, if_neg h43, if_neg h48, if_pos h53]]
                    · refine .s (.r (.p (.eql rfl rfl) (.p (.a rfl) (.n (.t (.condD rfl (fun h58 => ?_) (fun h58 => ?_)))))))
                      · refine .s (.r (.p (.m rfl) (.p (.m rfl) ?_)))
                        refine .does rfl (Does.callE rfl call193 rfl (num_Max ha hb) .auto) ?_
                        rintro _ _ ⟨⟨⟩, -, rfl, rfl⟩
                        refine .p (.a rfl) (.p (.a rfl) (.n (.t (.e (.br (.tr (.ret2 rfl rfl rfl fun w s => ⟨true, ?_, trivial, finE .auto s⟩)))))))
                        rw [show arithI op a b = fMaxW a b from by unfold arithI; rw [if_neg h9, if_neg h12, if_neg h17, if_neg h22, if_neg h27, if_neg h33, if_neg h38, if_neg h43, if_neg h48, if_neg h53, if_pos h58]]
                      · refine .s (.r (.p (.eql rfl rfl) (.p (.a rfl) (.n (.t (.condD rfl (fun h63 => ?_) (fun h63 => ?_)))))))
                        · refine .s (.r (.p (.m rfl) (.p (.m rfl) ?_)))
                          refine .does rfl (Does.callE rfl call194 rfl num_Less .auto) ?_
                          rintro _ _ ⟨⟨⟩, -, rfl, rfl⟩
                          refine .does rfl (Does.callE rfl call187 rfl frame_yes .auto) ?_
                          rintro _ _ ⟨⟨⟩, -, rfl, rfl⟩
                          refine .p (.a rfl) (.p (.a rfl) (.n (.t (.e (.br (.tr (.ret2 rfl rfl rfl fun w s => ⟨true, ?_, trivial, finE .auto s⟩)))))))
                          rw [show arithI op a b = yesI (fLt a b) from by unfold arithI; rw [if_neg h9, if_neg h12, if_neg h17, if_neg h22, if_neg h27, if_neg h33, if_neg h38, if_neg h43, if_neg h48, if_neg h53, if_neg h58, if_pos h63]]
                        · refine .s (.r (.p (.eql rfl rfl) (.p (.a rfl) (.n (.t (.condD rfl (fun h69 => ?_) (fun h69 => ?_)))))))
                          · refine .s (.r (.p (.m rfl) ?_))
                            refine .does rfl (Does.callE rfl call195 rfl (num_ToInt ha) .auto) ?_
                            rintro _ _ ⟨⟨⟩, -, rfl, rfl⟩
                            refine .p (.a rfl) (.p (.a rfl) (.n (.t (.e (.br (.tr (.ret2 rfl rfl rfl fun w s => ⟨true, ?_, trivial, finE .auto s⟩)))))))
                            rw [show arithI op a b = fToInt a from by unfold arithI; rw [if_neg h9, if_neg h12, if_neg h17, if_neg h22, if_neg h27, if_neg h33, if_neg h38, if_neg h43, if_neg h48, if_neg h53, if_neg h58, if_neg h63, if_pos h69]]
                          · refine .s (.r (.p (.eql rfl rfl) (.p (.a rfl) (.n (.t (.condD rfl (fun h73 => ?_) (fun h73 => ?_)))))))
                            · refine .s (.r (.p (.m rfl) ?_))
                              refine .does rfl (Does.callE rfl call196 rfl num_ToFloat .auto) ?_
                              rintro _ _ ⟨⟨⟩, -, rfl, rfl⟩
                              refine .p (.a rfl) (.p (.a rfl) (.n (.t (.e (.br (.tr (.ret2 rfl rfl rfl fun w s => ⟨true, ?_, trivial, finE .auto s⟩)))))))
                              rw [show arithI op a b = fToFloat a from by unfold arithI; rw [if_neg h9, if_neg h12, if_neg h17, if_neg h22, if_neg h27, if_neg h33, if_neg h38, if_neg h43, if_neg h48, if_neg h53, if_neg h58, if_neg h63, if_neg h69, if_pos h73]]
                            · refine .v (.b (.t (.s (.r (.p (.a rfl) (.p (.a rfl) (.n (.t (.e (.ret2 rfl rfl rfl fun w s => ⟨false, ?_, trivial, finE .auto s⟩))))))))))
                              rw [show arithI op a b = 0 from by unfold arithI; rw [if_neg h9, if_neg h12, if_neg h17, if_neg h22, if_neg h27, if_neg h33, if_neg h38, if_neg h43, if_neg h48, if_neg h53, if_neg h58, if_neg h63, if_neg h69, if_neg h73]]

set_option maxRecDepth 20000 in
theorem frame_reg {W : World} {b : Nat} {n : Int} (hn : 0 ≤ n ∧ n < 8) : Fn Tryz.prog W 149 [ptr b, .int .i64 n] [] Unit (fun _ => .pointer (some ⟨b, 2 + n.toNat, none⟩)) (fun _ => True) (fun _ => []) := by
  refine Fn.intro (N := 19) func149 rfl ntmps149 rfl fun F => ?_
  show GoC _ _ _ _ _ _ [F]
  refine .s (.r (.p (.a rfl) (.n (.t (.s (.s (.r (.p (.m rfl) (.p (.lss rfl rfl) (.p (.m rfl) ?_))))))))))
  apply GoL.segOD 3 10 7 [7, 8, 9, 10] rfl
  · intro h7
    refine .g (.m rfl) (.g (.geq rfl rfl) (.p (.u rfl rfl) (.n ?_)))
    refine .seg .auto rfl (by first | exact fun _ h => h | exact Ent.kept .auto)
  · intro h7
    refine .u (.u (.p (.t rfl rfl) (.n ?_)))
    refine .seg .auto rfl (by first | exact fun _ h => h | exact Ent.kept .auto)
  refine .n (.t (.cond rfl (fun h10 => ?_) (fun h10 => ?_)))
  · simp only [Bool.or_eq_true, decide_eq_true_eq] at h10
    exact absurd h10 (by omega)
  · simp only [Bool.or_eq_false_iff, decide_eq_false_iff_not] at h10
    refine .v (.t (.s (.r (.p (.m rfl) (.p (.m rfl) (.p (.n rfl) (.p (.z rfl) (.p (.f rfl) ?_))))))))
    refine .p (.ixArr n.toNat underlying57 sizeOf43 rfl rfl (by omega) (by omega)) ?_
    refine .p (.a rfl) (.n (.t (.e (.ret1 rfl rfl fun w s => ⟨(), ?_, trivial, finE .auto s⟩))))
    rw [Nat.mul_one]

set_option maxRecDepth 20000 in
theorem frame_cell {W : World} {b : Nat} {f : Frm} {v : Value} {m : List Int} {at_ : Int} (h0 : 0 ≤ at_) (hl : m.length ≤ 1000000) : FnB Tryz.prog W 150 [ptr b, .int .u64 at_] [arr b 0 (dwC f v), sl wrdE 1 v m] Unit (fun _ => if at_ < m.length then .returned (.pointer (some ⟨blk v, ofs v + at_.toNat * 1, none⟩)) else .panicked (stopC 213 6)) (fun _ => True) (fun _ => [arr b 0 (dwC f v), sl wrdE 1 v m]) := by
  refine FnB.intro (N := 21) func150 rfl ntmps150 rfl fun F => ?_
  show GoC _ _ _ _ _ _ [arr b 0 (dwC f v), sl wrdE 1 v m, F]
  refine .s (.r (.p (.a rfl) (.n (.t (.s (.s (.r (.p (.m rfl) (.p (.m rfl) (.p (.n rfl) (.p (.f rfl) (.p (.l rfl) (.p (.len rfl) ?_)))))))))))))
  refine .p (.convU underlying3 underlying43 rfl (by omega)) ?_
  refine .p (.geq rfl rfl) (.n (.t (.condD rfl (fun h12 => ?_) (fun h12 => ?_))))
  · refine .r ?_
    refine .p (.bld1 (fun v1 => [v1]) rfl (by kernel_rfl)) ?_
    refine .p (.mkIface underlying213 rfl rfl) ?_
    refine .panic rfl ?_
    refine fun a w ha s => And.intro ha.defers (Exists.intro () (And.intro ?_ (And.intro trivial (finE .auto s))))
    rw [if_neg (by omega)]; rfl
  · refine .v (.t (.s (.r (.p (.m rfl) (.p (.n rfl) (.p (.f rfl) (.p (.l rfl) (.p (.m rfl) ?_))))))))
    refine .p (.ix at_.toNat rfl rfl (by omega) (by omega)) ?_
    refine .p (.a rfl) (.n (.t (.e (.ret1 rfl rfl fun w s => ⟨(), ?_, trivial, finE .auto s⟩))))
    rw [if_pos (by omega)]

end Go.SLYtpcjdohmjmeehaaGreat
namespace Go.SLYtpcjdohmjmeehaaGreat
open Go Go.RowKit Go.Proofs Go.Proofs.Tryz

set_option maxRecDepth 20000 in
theorem frame_do {W : World} {b : Nat} {f : Frm} {v : Value} {m : List Int} {i : Ins} (hI : InsOk i) (hF : FrmOk f) (hl : m.length ≤ 1000000) : FnB Tryz.prog W 118 [ptr b, .agg (insE i).toArray] [arr b 0 (dwC f v), sl wrdE 1 v m] Unit (fun _ => doEnd 213 (doI f m i)) (fun _ => True) (fun _ => doH b v (doI f m i)) := by
  refine FnB.intro (N := 127) func118 rfl ntmps118 rfl fun F => ?_
  show GoC _ _ _ _ _ _ [arr b 0 (dwC f v), sl wrdE 1 v m, F]
  have hia := hI.a
  have hib := hI.b
  have hic := hI.c
  have hin := hI.n
  have hpc := hF.pc
  refine .s (.r ?_)
  refine .does rfl (Does.box rfl rfl rfl) ?_
  rintro _ _ ⟨b3, rfl, rfl⟩
  refine .mem (H' := [arr b3 0 (insE i), arr b 0 (dwC f v), sl wrdE 1 v m, F]) (fun w s => s) ?_
  refine .n (.t (.s (.r (.p (.m rfl) (.p (.n rfl) (.p (.z rfl) (.p (.f rfl) (.p (.l rfl) ?_))))))))
  refine .p (.add rfl rfl (by omega)) ?_
  refine .p (.a rfl) (.n (.t ?_))
  refine .cutK (X := List Int × Int × List Int) [4, 5, 6, 7, 8, 9, 10, 11, 18, 19, 20, 21, 22, 23, 24, 25, 26, 27, 28, 29, 30, 31, 32, 33, 34, 35, 36, 37, 38, 39, 40, 41, 42, 43, 44, 45, 46, 47, 48, 49, 50, 51, 52, 53, 54, 55, 56, 57, 58, 59, 60, 61, 62, 63, 64, 65, 66, 67, 68, 69, 70, 71, 72, 73, 74, 75, 76, 77, 78, 79, 80, 81, 82, 83, 84, 85, 86, 87, 88, 89, 90, 91, 92, 93, 94, 95, 96, 97, 98, 99, 100, 101, 102, 103, 104, 105, 106, 107, 108, 109, 110, 111, 112, 113, 114, 115, 116, 117, 118, 119, 120, 121] (fun z => doI f m i = some (⟨f.fn, z.2.1, z.1⟩, z.2.2)) (fun z => [(4, some (.int .i64 z.2.1))]) (fun z => [arr b 0 (dwC ⟨f.fn, f.pc, z.1⟩ v), sl wrdE 1 v z.2.2, F]) ?_ ?_
  · refine .b (.s (.r (.p (.z rfl) (.p (.l rfl) (.p (.eql rfl rfl) (.p (.a rfl) (.n (.t (.condD rfl (fun h48 => ?_) (fun h48 => ?_))))))))))
    · refine .r (.p (.f rfl) (.p (.l rfl) ?_))
      refine .p (.convI underlying43 underlying3 rfl (by have := hI.j (.inl h48); omega)) ?_
      refine .p (.a rfl) (.n (.b ?_))
      refine .midK (f.regs, i.n, m) .auto ?_ ?_ ?_
      · unfold doI; rw [if_pos h48]
      · exact ⟨rfl, trivial⟩
      · exact fun w s => Ent.kept .auto w s
    · refine .s (.r (.p (.z rfl) (.p (.l rfl) (.p (.eql rfl rfl) (.p (.a rfl) (.n (.t (.condD rfl (fun h55 => ?_) (fun h55 => ?_)))))))))
      · refine .s (.r (.p (.m rfl) (.p (.f rfl) (.p (.l rfl) ?_))))
        refine .does rfl (Does.callE rfl call149 rfl (frame_reg hI.a) .auto) ?_
        rintro _ _ ⟨⟨⟩, -, rfl, rfl⟩
        refine .p (.n rfl) ?_
        refine .p (.ld rfl (Cell.a (dw_get (by omega)))) ?_
        refine .p (.eql rfl rfl) (.n (.t (.condD rfl (fun h65 => ?_) (fun h65 => ?_))))
        · refine .r (.p (.f rfl) (.p (.l rfl) ?_))
          refine .p (.convI underlying43 underlying3 rfl (by have := hI.j (.inr h55); omega)) ?_
          refine .p (.a rfl) (.n (.b ?_))
          refine .midK (f.regs, i.n, m) .auto ?_ ?_ ?_
          · unfold doI; rw [if_neg h48, if_pos h55, if_pos (show f.reg i.a = 0 from h65)]
          · exact ⟨rfl, trivial⟩
          · exact fun w s => Ent.kept .auto w s
        · refine .v (.b ?_)
          refine .midK (f.regs, f.pc + 1, m) .auto ?_ ?_ ?_
          · unfold doI; rw [if_neg h48, if_pos h55, if_neg (show ¬ f.reg i.a = 0 from h65)]
          · exact ⟨rfl, trivial⟩
          · exact fun w s => Ent.kept .auto w s
      · refine .s (.r (.p (.z rfl) (.p (.l rfl) (.p (.eql rfl rfl) (.p (.a rfl) (.n (.t (.condD rfl (fun h69 => ?_) (fun h69 => ?_)))))))))
        · refine .draw [arr b3 0 (insE i)] [1, 1, 1, 2, 0, 0, 1, 3] rfl (by kernel_rfl) ?_
          refine .p (.m rfl) (.p (.f rfl) (.p (.l rfl) ?_))
          refine .d2 rfl Kept.auto (Does.callE rfl call149 rfl (frame_reg hI.a) .auto) (by rintro _ _ ⟨⟨⟩, -, rfl, rfl⟩; exact Kept.auto) ?_
          rintro _ _ ⟨⟨⟩, -, rfl, rfl⟩
          refine .q (.f rfl) (.q (.l rfl) ?_)
          refine .p (.n rfl) ?_
          refine .d3 rfl (Does.st sizeOf43 rfl rfl rfl (Nat.blt_eq.mpr (by show 2 + i.a.toNat < 11; omega))) ?_
          rintro _ _ ⟨rfl, rfl⟩
          rw [dw_set _ (show i.a.toNat < 8 by omega) hF.l]
          refine .n (.b ?_)
          refine .midK (f.regs.set i.a.toNat i.n, f.pc + 1, m) .auto ?_ ?_ ?_
          · unfold doI; rw [if_neg h48, if_neg h55, if_pos h69]; rfl
          · exact ⟨rfl, trivial⟩
          · exact fun w s => Ent.kept .auto w s
        · refine .s (.r (.p (.z rfl) (.p (.l rfl) (.p (.eql rfl rfl) (.p (.a rfl) (.n (.t (.condD rfl (fun h80 => ?_) (fun h80 => ?_)))))))))
          · refine .s ?_
            refine .draw [arr b3 0 (insE i)] [1, 1, 1, 2, 0, 0, 0, 3, 1, 1] rfl (by kernel_rfl) ?_
            refine .p (.m rfl) (.p (.f rfl) (.p (.l rfl) ?_))
            refine .d2 rfl Kept.auto (Does.callE rfl call149 rfl (frame_reg hI.a) .auto) (by rintro _ _ ⟨⟨⟩, -, rfl, rfl⟩; exact Kept.auto) ?_
            rintro _ _ ⟨⟨⟩, -, rfl, rfl⟩
            refine .q (.m rfl) (.q (.f rfl) (.q (.l rfl) ?_))
            refine .d3 rfl (Does.callE rfl call149 rfl (frame_reg hI.b) .auto) ?_
            rintro _ _ ⟨⟨⟩, -, rfl, rfl⟩
            refine .p (.a rfl) (.p (.a rfl) (.n (.t (.r (.p (.m rfl) (.p (.m rfl) (.p (.m rfl) (.p (.n rfl) ?_))))))))
            refine .p (.ld rfl (Cell.a (dw_get (by omega)))) ?_
            refine .callB rfl call150 rfl (frame_cell (f := f) (m := m) (at_ := f.regs.getD i.b.toNat 0) (hF.r _).1 hl) .auto (fun _ h => by split at h <;> cases h) ?_ ?_
            · rintro ⟨⟩ u e -
              have hlt : f.regs.getD i.b.toNat 0 < m.length := Decidable.byContradiction fun hn => by
                rw [if_neg hn] at e
                cases e
              rw [if_pos hlt] at e
              cases e
              have h0 := (hF.r i.b.toNat).1
              refine .p (.n rfl) ?_
              refine .p (.ld rfl (Cell.rd0 Rd.s (getD_some (d := (0 : Int)) (show (f.regs.getD i.b.toNat 0).toNat < m.length by omega)) (by rfl))) ?_
              refine .p (.n rfl) ?_
              refine .does rfl (Does.st sizeOf43 rfl rfl rfl (Nat.blt_eq.mpr (by show 2 + i.a.toNat < 11; omega))) ?_
              rintro _ _ ⟨rfl, rfl⟩
              rw [dw_set _ (show i.a.toNat < 8 by omega) hF.l]
              refine .n (.b ?_)
              refine .midK (f.regs.set i.a.toNat (m.getD (f.regs.getD i.b.toNat 0).toNat 0), f.pc + 1, m) .auto ?_ ?_ ?_
              · unfold doI; rw [if_neg h48, if_neg h55, if_neg h69, if_pos h80, if_pos (show f.reg i.b < m.length from hlt)]; rfl
              · exact ⟨rfl, trivial⟩
              · exact fun w s => Ent.kept .auto w s
            · rintro ⟨⟩ c e -
              have hge : ¬ f.regs.getD i.b.toNat 0 < m.length := fun h => by
                rw [if_pos h] at e
                cases e
              rw [if_neg hge] at e
              cases e
              have hz : doI f m i = none := by
                unfold doI; rw [if_neg h48, if_neg h55, if_neg h69, if_pos h80, if_neg (show ¬ f.reg i.b < m.length from hge)]
              rw [hz]
              refine fun a w ha s => And.intro ha.defers (Exists.intro () (And.intro ?_ (And.intro trivial (finE .auto s))))
              rfl
          · refine .s (.r (.p (.z rfl) (.p (.l rfl) (.p (.eql rfl rfl) (.p (.a rfl) (.n (.t (.condD rfl (fun h101 => ?_) (fun h101 => ?_)))))))))
            · refine .s ?_
              refine .draw [arr b3 0 (insE i)] [1, 1, 1, 2, 0, 0, 0, 3, 1, 1] rfl (by kernel_rfl) ?_
              refine .p (.m rfl) (.p (.f rfl) (.p (.l rfl) ?_))
              refine .d2 rfl Kept.auto (Does.callE rfl call149 rfl (frame_reg hI.a) .auto) (by rintro _ _ ⟨⟨⟩, -, rfl, rfl⟩; exact Kept.auto) ?_
              rintro _ _ ⟨⟨⟩, -, rfl, rfl⟩
              refine .q (.m rfl) (.q (.f rfl) (.q (.l rfl) ?_))
              refine .d3 rfl (Does.callE rfl call149 rfl (frame_reg hI.b) .auto) ?_
              rintro _ _ ⟨⟨⟩, -, rfl, rfl⟩
              refine .p (.a rfl) (.p (.a rfl) (.n (.t ?_)))
              rcases Nat.lt_or_ge (f.regs.getD i.a.toNat 0).toNat m.length with hlt | hge
              · have h0 := (hF.r i.a.toNat).1
                refine .draw [arr b 0 (dwC f v)] [1, 1, 1, 1, 2, 0, 0, 0, 1, 3] rfl (by kernel_rfl) ?_
                refine .p (.m rfl) (.p (.m rfl) (.p (.n rfl) ?_))
                refine .p (.ld rfl (Cell.a (dw_get (by omega)))) ?_
                refine .d2 rfl Kept.auto (Does.callE rfl call150 rfl (FnB.ok (fun _ => .pointer (some ⟨blk v, ofs v + (f.regs.getD i.a.toNat 0).toNat * 1, none⟩)) (frame_cell (f := f) (m := m) (at_ := f.regs.getD i.a.toNat 0) (hF.r _).1 hl) (fun _ => if_pos (by omega))) .auto) (by rintro _ _ ⟨⟨⟩, -, rfl, rfl⟩; exact Kept.auto) ?_
                rintro _ _ ⟨⟨⟩, -, rfl, rfl⟩
                refine .q (.m rfl) (.q (.n rfl) ?_)
                refine .q (.ld rfl (Cell.a (dw_get (by omega)))) ?_
                refine .p (.n rfl) ?_
                refine .d3 rfl (Does.storeSl0 (x' := f.regs.getD i.b.toNat 0) rfl rfl sizeOf43 rfl (getD_some (d := (0 : Int)) hlt) (by decide) rfl .auto) ?_
                rintro _ _ ⟨rfl, rfl⟩
                refine .n (.b ?_)
                refine .midK (f.regs, f.pc + 1, m.set (f.regs.getD i.a.toNat 0).toNat (f.regs.getD i.b.toNat 0)) .auto ?_ ?_ ?_
                · unfold doI; rw [if_neg h48, if_neg h55, if_neg h69, if_neg h80, if_pos h101, if_pos (show f.reg i.a < m.length by show f.regs.getD i.a.toNat 0 < _; omega)]; rfl
                · exact ⟨rfl, trivial⟩
                · exact fun w s => Ent.kept .auto w s
              · have h0 := (hF.r i.a.toNat).1
                refine .held [arr b 0 (dwC f v)] rfl ?_
                refine GoH.take 0 rfl (by kernel_rfl) (by kernel_rfl) (by kernel_rfl) (fun _ _ _ _ _ h => h) rfl Kept.auto (Y.m rfl) ?_
                refine GoH.take 1 rfl (by kernel_rfl) (by kernel_rfl) (by kernel_rfl) (fun _ _ _ _ _ h => h) rfl Kept.auto (Y.m rfl) ?_
                refine GoH.take 2 rfl (by kernel_rfl) (by kernel_rfl) (by kernel_rfl) (fun _ _ _ _ _ h => h) rfl Kept.auto (Y.n rfl) ?_
                refine GoH.take 3 rfl (by kernel_rfl) (by kernel_rfl) (by kernel_rfl) (fun _ _ _ _ _ h => h) rfl Kept.auto (Y.load isAgg43 rfl (Cell.a (dw_get (by omega)))) ?_
                refine GoH.take 5 rfl (by kernel_rfl) (by kernel_rfl) (by kernel_rfl) (fun _ _ _ _ _ h => h) rfl Kept.auto (Y.m rfl) ?_
                refine GoH.take 6 rfl (by kernel_rfl) (by kernel_rfl) (by kernel_rfl) (fun _ _ _ _ _ h => h) rfl Kept.auto (Y.n rfl) ?_
                refine GoH.take 7 rfl (by kernel_rfl) (by kernel_rfl) (by kernel_rfl) (fun _ _ _ _ _ h => h) rfl Kept.auto (Y.load isAgg43 rfl (Cell.a (dw_get (by omega)))) ?_
                refine GoH.callP 4 rfl (by kernel_rfl) call150 rfl (frame_cell (f := f) (m := m) (at_ := f.regs.getD i.a.toNat 0) (hF.r _).1 hl) .auto ?_ ?_
                · exact fun _ => ⟨_, if_neg (by omega)⟩
                rintro ⟨⟩ c e -
                rw [if_neg (by omega)] at e
                cases e
                have hz : doI f m i = none := by
                  unfold doI; rw [if_neg h48, if_neg h55, if_neg h69, if_neg h80, if_pos h101, if_neg (show ¬ f.reg i.a < m.length by show ¬ f.regs.getD i.a.toNat 0 < _; omega)]
                rw [hz]
                refine fun a w ha s => And.intro ha.defers (Exists.intro () (And.intro ?_ (And.intro trivial (finE .auto s))))
                rfl
            · refine .s ?_
              refine .draw [arr b3 0 (insE i), arr b 0 (dwC f v)] [1, 1, 1, 2, 0, 0, 0, 3, 1, 1, 1, 1, 1] rfl (by kernel_rfl) ?_
              refine .p (.m rfl) (.p (.f rfl) (.p (.l rfl) ?_))
              refine .d2 rfl Kept.auto (Does.callE rfl call149 rfl (frame_reg hI.a) .auto) (by rintro _ _ ⟨⟨⟩, -, rfl, rfl⟩; exact Kept.auto) ?_
              rintro _ _ ⟨⟨⟩, -, rfl, rfl⟩
              refine .q (.m rfl) (.q (.f rfl) (.q (.l rfl) ?_))
              refine .d3 rfl (Does.callE rfl call149 rfl (frame_reg hI.b) .auto) ?_
              rintro _ _ ⟨⟨⟩, -, rfl, rfl⟩
              refine .p (.n rfl) ?_
              refine .p (.ld rfl (Cell.a (dw_get (by omega)))) ?_
              refine .p (.a rfl) (.p (.a rfl) (.p (.a rfl) (.n (.t ?_))))
              refine .cutK (X := Unit) [11, 28, 29, 30, 31, 32, 33, 34, 35, 36, 37] (fun _ => True) (fun _ => [(11, some (.int .u64 (if shortB i.op = true then 0 else f.reg i.c)))]) (fun _ => [arr b3 0 (insE i), arr b 0 (dwC f v), sl wrdE 1 v m, F]) ?_ ?_
              · refine .s (.r (.p (.z rfl) (.p (.l rfl) ?_)))
                refine .does rfl (Does.callE rfl call151 rfl frame_short .auto) ?_
                rintro _ _ ⟨⟨⟩, -, rfl, rfl⟩
                refine .p (.not rfl) (.n (.t (.cond rfl (fun h31 => ?_) (fun h31 => ?_))))
                · refine .r (.p (.m rfl) (.p (.f rfl) (.p (.l rfl) ?_)))
                  refine .does rfl (Does.callE rfl call149 rfl (frame_reg hI.c) .auto) ?_
                  rintro _ _ ⟨⟨⟩, -, rfl, rfl⟩
                  refine .p (.n rfl) ?_
                  refine .p (.ld rfl (Cell.a (dw_get (by omega)))) ?_
                  refine .p (.a rfl) (.n ?_)
                  refine .midK () .auto ?_ ?_ ?_
                  · trivial
                  · rw [if_neg (show ¬ shortB i.op = true by rw [Bool.not_eq_true'] at h31; rw [h31]; simp)]; exact ⟨rfl, trivial⟩
                  · exact fun w s => Ent.kept .auto w s
                · refine .v ?_
                  refine .midK () .auto ?_ ?_ ?_
                  · trivial
                  · rw [if_pos (show shortB i.op = true by simpa using h31)]; exact ⟨rfl, trivial⟩
                  · exact fun w s => Ent.kept .auto w s
              · rintro ⟨⟩ -
                obtain ⟨y, hy⟩ : ∃ y, y = (if shortB i.op = true then 0 else f.reg i.c) := ⟨_, rfl⟩
                have hy0 : 0 ≤ y := by
                  subst hy
                  split
                  · exact Int.le_refl _
                  · exact (hF.r _).1
                rw [← hy]
                refine .r (.p (.m rfl) (.p (.z rfl) (.p (.l rfl) (.p (.m rfl) (.p (.m rfl) ?_)))))
                refine .does rfl (Does.callE rfl call152 rfl (frame_Arith (hF.r _).1 hy0) .auto) ?_
                rintro _ _ ⟨t38, -, rfl, rfl⟩
                refine .p (.m rfl) ?_
                refine .p (.extract (v := .int .u64 (arithI i.op (f.regs.getD i.b.toNat 0) y)) rfl rfl) ?_
                refine .p (.extract rfl rfl) (.p (.n rfl) ?_)
                refine .does rfl (Does.st sizeOf43 rfl rfl rfl (Nat.blt_eq.mpr (by show 2 + i.a.toNat < 11; omega))) ?_
                rintro _ _ ⟨rfl, rfl⟩
                rw [dw_set _ (show i.a.toNat < 8 by omega) hF.l]
                refine .n (.b ?_)
                refine .midK (f.regs.set i.a.toNat (arithI i.op (f.regs.getD i.b.toNat 0) y), f.pc + 1, m) .auto ?_ ?_ ?_
                · unfold doI; rw [if_neg h48, if_neg h55, if_neg h69, if_neg h80, if_neg h101]; subst hy; rfl
                · exact ⟨rfl, trivial⟩
                · exact fun w s => Ent.kept .auto w s
  · rintro ⟨rs, nx, m2⟩ hz
    simp only at hz
    refine .r (.p (.m rfl) (.p (.m rfl) (.p (.n rfl) (.p (.z rfl) (.p (.f rfl) ?_)))))
    refine .does rfl (Does.st sizeOf3 rfl rfl rfl rfl) ?_
    rintro _ _ ⟨rfl, rfl⟩
    refine .n ?_
    rw [hz]
    refine .end0 rfl fun w s => ⟨(), ?_, trivial, finE .auto s⟩
    rfl

set_option maxRecDepth 20000 in
theorem plain_ret {W : World} {p6 p7 p8 : Nat} {Hs : List HProp} {w : World} (hs : Sat W w (seps Hs)) : CallsD Tryz.prog 117 #[ptr p6, ptr p7, ptr p8] .returning w (fun e u2 w2 => u2 = .returning ∧ e = .returned (.tuple #[]) ∧ Sat W w2 (seps Hs)) := by
  refine callsD_recover (d := 6) (N := 15) (v := .nilIface) (u2 := .returning) (args := [ptr p6, ptr p7, ptr p8]) func117 rfl ntmps117 rfl rfl rfl (fun c cs hc => .inr ⟨by simp [recoverD, hc], rfl, rfl⟩) hs ?_
  refine .b (.s (.r ?_))
  refine .p (.eqIf0 underlying20 rfl) ?_
  refine .n (.t (.condT rfl ?_))
  refine .r (.p (.a rfl) (.n (.b (.endC fun w s => ⟨rfl, rfl, ?_⟩))))
  first | exact s | exact Ent.kept .auto _ s

set_option maxRecDepth 20000 in
theorem plain_pan {W : World} {p6 p7 p8 : Nat} {F : HProp} {w : World} (hs : Sat W w (seps [arr p6 0 (frmE Frm.z), arr p7 0 [.slice none 0 0], arr p8 0 [.int .i64 0], F])) : CallsD Tryz.prog 117 #[ptr p6, ptr p7, ptr p8] (.panicking (stopC 213 6)) w (fun e u2 w2 => u2 = .panicking [{ v := .iface 213 (.agg #[.int .i64 6]), recovered := true }] ∧ e = .returned (.tuple #[]) ∧ Sat W w2 (seps [arr p6 0 (frmE Frm.z), arr p7 0 [.slice none 0 0], arr p8 0 [.int .i64 6], F])) := by
  refine callsD_recover (d := 6) (N := 15) (v := .iface 213 (.agg #[.int .i64 6])) (u2 := .panicking [{ v := .iface 213 (.agg #[.int .i64 6]), recovered := true }]) (args := [ptr p6, ptr p7, ptr p8]) func117 rfl ntmps117 rfl rfl rfl (fun c cs hc => .inl (by simp [recoverD, hc, stopC])) hs ?_
  refine .b (.s (.r ?_))
  refine .p (.eqIf1 underlying20 rfl) ?_
  refine .n (.t (.condF rfl ?_))
  refine .s (.r ?_)
  refine .p (.tAssert (r := .tuple #[.agg #[.int .i64 6], .bool true]) rfl (fun w => by simp [Instr.typeAssert, run_underlying underlying213])) ?_
  refine .p (.extract (v := .bool true) rfl rfl) ?_
  refine .p (.extract (v := .agg #[.int .i64 6]) rfl rfl) ?_
  refine .n (.t (.condT rfl ?_))
  refine .s (.r ?_)
  refine .does rfl (Does.alloc rfl zeroValue213 rfl) ?_
  rintro _ _ ⟨b4, rfl, rfl⟩
  refine .does rfl (Does.sta (by exact sizeOf213) rfl rfl rfl (by rfl)) ?_
  rintro _ _ ⟨rfl, rfl⟩
  refine .n (.t ?_)
  refine .draw [arr b4 0 [.int .i64 6]] [1, 0, 0, 2, 2, 3] rfl (by kernel_rfl) ?_
  refine .p (.bld0 ([(.int .i64 0), (.int .i64 0), (.int .u64 0), (.int .u64 0), (.int .u64 0), (.int .u64 0), (.int .u64 0), (.int .u64 0), (.int .u64 0), (.int .u64 0)]) (by kernel_rfl)) ?_
  refine .q (.z rfl) (.q (.l rfl) ?_)
  refine .d2 rfl Kept.auto (Does.sta (by exact sizeOf131) rfl rfl rfl (by rfl)) (by rintro _ _ ⟨rfl, rfl⟩; exact Kept.auto) ?_
  rintro _ _ ⟨rfl, rfl⟩
  refine .d2 rfl Kept.auto (Does.st sizeOf51 rfl rfl rfl rfl) (by rintro _ _ ⟨rfl, rfl⟩; exact Kept.auto) ?_
  rintro _ _ ⟨rfl, rfl⟩
  refine .d3 rfl (Does.st sizeOf28 rfl rfl rfl rfl) ?_
  rintro _ _ ⟨rfl, rfl⟩
  refine .n (.b (.endC fun w s => ⟨rfl, rfl, ?_⟩))
  first | exact s | exact Ent.kept .auto _ s

theorem plain_panR {W : World} {p6 p7 p8 : Nat} {R : List HProp} {w : World} (hs : Sat W w (seps ([arr p6 0 (frmE Frm.z), arr p7 0 [.slice none 0 0], arr p8 0 [.int .i64 0]] ++ R))) : CallsD Tryz.prog 117 #[ptr p6, ptr p7, ptr p8] (.panicking (stopC 213 6)) w (fun e u2 w2 => u2 = .panicking [{ v := .iface 213 (.agg #[.int .i64 6]), recovered := true }] ∧ e = .returned (.tuple #[]) ∧ Sat W w2 (seps ([arr p6 0 (frmE Frm.z), arr p7 0 [.slice none 0 0], arr p8 0 [.int .i64 6]] ++ R))) :=
  (plain_pan (F := seps R) (hs.eq (by rw [seps_append]; simp only [seps, sep_emp, sep_assoc]))).mono fun _ _ _ ⟨a, b, c⟩ => ⟨a, b, c.eq (by rw [seps_append]; simp only [seps, sep_emp, sep_assoc])⟩

set_option maxRecDepth 20000 in
theorem frame_Plain {W : World} {A : HProp} {f : Frm} {i : Ins} {v : Value} {m : List Int} (hr : Rd W [A] wrdE 1 v m) (hl : m.length ≤ 1000000) (hI : InsOk i) (hF : FrmOk f) (hc : cls i.op = 1) : Fn Tryz.prog W 87 [.agg (frmE f).toArray, .agg (insE i).toArray, v] [A] Value (fun u => .tuple #[.agg (frmE (plainR f m i).1).toArray, u, .int .i64 (plainR f m i).2.2]) (fun _ => True) (fun u => [sl wrdE 1 u (plainR f m i).2.1, A]) := by
  refine Fn.introD (N := 39) func87 rfl ntmps87 rfl fun F => ?_
  haveI hRI : ∀ (H : List HProp) [HasH H A], ReadsC W H v wrdE 1 m := fun H h => ⟨hr.at h.has⟩
  show GoC _ _ _ _ _ _ [A, F]
  refine .s (.r ?_)
  refine .does rfl (Does.box rfl rfl rfl) ?_
  rintro _ _ ⟨b3, rfl, rfl⟩
  refine .mem (H' := [arr b3 0 (frmE f), A, F]) (fun w s => s) ?_
  refine .does rfl (Does.box rfl rfl rfl) ?_
  rintro _ _ ⟨b4, rfl, rfl⟩
  refine .mem (H' := [arr b4 0 (insE i), arr b3 0 (frmE f), A, F]) (fun w s => s) ?_
  refine .does rfl (Does.alloc rfl zeroValue131 rfl) ?_
  rintro _ _ ⟨b6, rfl, rfl⟩
  refine .does rfl (Does.alloc rfl zeroValue51 rfl) ?_
  rintro _ _ ⟨b7, rfl, rfl⟩
  refine .does rfl (Does.alloc rfl zeroValue28 rfl) ?_
  rintro _ _ ⟨b8, rfl, rfl⟩
  refine .n (.t (.s (.s (.r (.p (.z rfl) (.p (.l rfl) ?_))))))
  refine .does rfl (Does.callE rfl call63 rfl inst_Class .auto) ?_
  rintro _ _ ⟨⟨⟩, -, rfl, rfl⟩
  refine .p (.neq rfl rfl) (.n (.t (.condD rfl (fun h13 => ?_) (fun h13 => ?_))))
  · exact absurd hc h13
  · refine .v (.t (.s (.r (.p (.makeFunc rfl rfl) ?_))))
    refine .deferD rfl ?_
    refine GoLD.nil ?_
    refine GoED.then_normal ?_
    refine GoCD.seq ?_
    refine GoCD.draw [arr b3 0 (frmE f), A] [0, 1, 1, 2, 1, 3, 1] rfl (by kernel_rfl) ?_
    refine GoKD.k rfl Kept.auto (Y.lda isAgg131 rfl Cells.a (by exact sizeOf131)) ?_
    refine GoKD.s rfl (Y.m rfl) ?_
    refine GoKD.s rfl (Y.lenRd underlying51 rfl Rd.s) ?_
    refine GoKD.d2 rfl Kept.auto (Does.mkSl (enc := wrdE) (k := 1) 0 m.length rfl underlying51 typeInfo43 rfl rfl rfl rfl (by decide) (by decide) rfl rfl rfl rfl (by omega)) (by rintro _ _ ⟨b19, rfl, rfl⟩; exact Kept.auto) ?_
    rintro _ _ ⟨b19, rfl, rfl⟩
    refine GoKD.s rfl (Y.bld2 (fun _ v2 => dwC f v2) rfl rfl (by kernel_rfl)) ?_
    refine GoKD.d3 rfl (Does.box rfl rfl rfl) ?_
    rintro _ _ ⟨b21, rfl, rfl⟩
    refine GoKD.s rfl (Y.a rfl) ?_
    refine GoKD.nil ?_
    refine GoED.then_normal ?_
    refine GoCD.seq ?_
    refine GoCD.region ?_
    refine GoLD.y rfl (Y.m rfl) ?_
    refine GoLD.y rfl (Y.n rfl) ?_
    refine GoLD.y rfl (Y.fieldAddr0 10 51 underlying216 rfl sizeOf51 rfl) ?_
    refine GoLD.y rfl (Y.load isAgg51 rfl (Cell.a (by rfl))) ?_
    refine GoLD.y rfl (Y.m rfl) ?_
    refine GoLD.does rfl (Does.copyAll rfl underlying51 sizeOf43 rfl rfl Rd.s .auto (by simp) rfl (wrdE_one _)) ?_
    rintro _ _ ⟨rfl, rfl⟩
    refine GoLD.nil ?_
    refine GoED.then_normal ?_
    refine GoCD.seq ?_
    refine GoCD.region ?_
    refine GoLD.y rfl (Y.m rfl) ?_
    refine GoLD.y rfl (Y.lda isAgg123 rfl Cells.a (by exact sizeOf123)) ?_
    refine GoLD.callB_ (fun d h => by cases h; rfl) call118 rfl (frame_do (f := f) (v := .slice (some ⟨b19, 0, none⟩) m.length m.length) (m := m) (i := i) hI hF hl) .auto (fun _ h => by unfold doEnd at h; split at h <;> cases h) ?_ ?_
    · rintro ⟨⟩ u e -
      obtain ⟨z, hz⟩ : ∃ z, doI f m i = some z := by
        cases h : doI f m i with
        | none => rw [h] at e; cases e
        | some z => exact ⟨z, rfl⟩
      rw [hz] at e
      cases e
      rw [show doH b21 (.slice (some ⟨b19, 0, none⟩) m.length m.length) (doI f m i) = [arr b21 0 (dwC z.1 (.slice (some ⟨b19, 0, none⟩) m.length m.length)), sl wrdE 1 (.slice (some ⟨b19, 0, none⟩) m.length m.length) z.2] from by rw [hz]; rfl]
      refine GoLD.nil ?_
      refine GoED.then_normal ?_
      refine GoCD.seq ?_
      refine GoCD.draw [arr b21 0 (dwC z.1 (.slice (some ⟨b19, 0, none⟩) m.length m.length))] [1, 1, 1, 1, 0, 0, 0, 0, 2, 3, 3] rfl (by kernel_rfl) ?_
      refine GoKD.s rfl (Y.m rfl) ?_
      refine GoKD.s rfl (Y.n rfl) ?_
      refine GoKD.s rfl (Y.fieldAddrZ 131 underlying216 rfl sizeOf131 rfl) ?_
      refine GoKD.s rfl (Y.lda isAgg131 rfl (Cells.part0 (ds := frmE z.1) Cells.a rfl) (by exact sizeOf131)) ?_
      refine GoKD.k rfl Kept.auto (Y.m rfl) ?_
      refine GoKD.k rfl Kept.auto (Y.n rfl) ?_
      refine GoKD.k rfl Kept.auto (Y.fieldAddr0 10 51 underlying216 rfl sizeOf51 rfl) ?_
      refine GoKD.k rfl Kept.auto (Y.load isAgg51 rfl (Cell.a (by rfl))) ?_
      refine GoKD.d2 rfl Kept.auto (Does.sta (by exact sizeOf131) rfl rfl rfl (by rfl)) (by rintro _ _ ⟨rfl, rfl⟩; exact Kept.auto) ?_
      rintro _ _ ⟨rfl, rfl⟩
      refine GoKD.d3 rfl (Does.stS sizeOf51 rfl rfl rfl) ?_
      rintro _ _ ⟨rfl, rfl⟩
      refine GoKD.d3 rfl (Does.st sizeOf28 rfl rfl rfl rfl) ?_
      rintro _ _ ⟨rfl, rfl⟩
      refine GoKD.nil ?_
      refine GoED.then_normal ?_
      refine GoCD.ret ?_
      refine fun a w ha s => ?_
      show Leaves Tryz.prog Tryz.f87 a.tmps _ a.defers .returning w
      rw [ha.defers]
      refine leaves_cons (by intro h; cases h) (by simp [invoke, call117]) ((plain_ret (p6 := b6) (p7 := b7) (p8 := b8) s).mono ?_)
      rintro e2 u2 w2 ⟨rfl, rfl, s2⟩
      exact ⟨_, (results_3 ha s2 rfl rfl rfl rfl isAgg131 (by exact sizeOf131) isAgg51 isAgg28 Cells.a (Cell.a rfl) (Cell.a rfl)), .slice (some ⟨b19, 0, none⟩) m.length m.length, by rw [plainR, hz], trivial, by rw [plainR, hz]; exact finE .auto s2⟩
    · rintro ⟨⟩ c e -
      have hz : doI f m i = none := by
        cases h : doI f m i with
        | none => rfl
        | some z => rw [h] at e; cases e
      rw [hz] at e
      cases e
      rw [show doH b21 (.slice (some ⟨b19, 0, none⟩) m.length m.length) (doI f m i) = [] from by rw [hz]; rfl]
      refine fun a w ha s => ?_
      show Leaves Tryz.prog Tryz.f87 a.tmps _ a.defers (.panicking (stopC 213 6)) w
      rw [ha.defers]
      have s1 := Ent.sat (As := [arr b6 0 (frmE Frm.z), arr b7 0 [.slice none 0 0], arr b8 0 [.int .i64 0]]) .auto s
      refine leaves_cons (by intro h; cases h) (by simp [invoke, call117]) ((plain_panR (p6 := b6) (p7 := b7) (p8 := b8) s1).mono ?_)
      rintro e2 u2 w2 ⟨rfl, rfl, s2⟩
      exact ⟨_, (results_3 ha s2 rfl rfl rfl rfl isAgg131 (by exact sizeOf131) isAgg51 isAgg28 Cells.a (Cell.a rfl) (Cell.a rfl)), .slice none 0 0, by rw [plainR, hz], trivial, by rw [plainR, hz]; exact finE .auto s2⟩

end Go.SLYtpcjdohmjmeehaaGreat
namespace Go.SLYtpcjdohmjmeehaaGreat
open Go Go.RowKit Go.Proofs Go.Proofs.Tryz

theorem dng_goesI {W : World} {bd b p q : Nat} {ps : List (Option Nat)} {d : Dng} {t : Thr} {n : Int} (h0 : 0 ≤ n) (hp : ps[n.toNat]? = some (some q)) (ht : d.s.thr[n.toNat]? = some (some t)) (hn16 : n.toNat < 16) (hR : ThrR t) (he : d.ends.length ≤ 1000000) (hw : d.out.woken.length ≤ 1000000) {y : Int} : Fn Tryz.prog W 86 [ptr bd, .int .i64 n, .int .u64 y] [dngX bd b p ps d] Unit (fun _ => .tuple #[]) (fun _ => True) (fun _ => [dngX bd b p ps (d.goes n.toNat y)]) := by
  have := dng_goes (W := W) (bd := bd) (b := b) (p := p) hp ht hn16 hR he hw (y := y)
  rwa [show ((n.toNat : Nat) : Int) = n from by omega] at this

set_option maxRecDepth 20000 in
theorem dng_fin {W : World} {bd b p : Nat} {ps : List (Option Nat)} {d : Dng} {t : Thr} (hp : ps[d.n]? = some (some p)) (ht : d.s.thr[d.n]? = some (some t)) {v : Int} (hl : d.s.thr.length = 16) (hpl : ps.length = 16) (hT : TakeOk d.s.table) (hR : ThrR t) (he : d.ends.length ≤ 1000000) (hw : d.out.woken.length ≤ 1000000) (hj : ¬ t.joiner = -1 → 0 ≤ t.joiner ∧ t.joiner.toNat ≠ d.n ∧ LiveAt ps d.s t.joiner.toNat) : Fn Tryz.prog W 62 [ptr bd, .int .u64 v] [dngX bd b p ps d] (List (Option Nat)) (fun _ => .tuple #[]) (fun _ => True) (fun qs => [dngX bd b p qs (d.fin v)]) := by
  refine Fn.intro (N := 66) func62 rfl ntmps62 rfl fun F => ?_
  show GoC _ _ _ _ _ _ [dngX bd b p ps d, F]
  refine .o2 (C := dngX bd b p ps d) .auto rfl ?_
  rintro vw ve -
  refine .o10 (C := spcX b ps d.s) .auto rfl ?_
  rintro fv sv pv bt vm bg vt bk bw vr -
  refine .fr .auto (thrs_out hp ht) ?_
  refine .s (.r (.p (.m rfl) (.p (.n rfl) (.p (.f rfl) (.p (.o rfl) ?_)))))
  refine .does rfl (Does.st sizeOf4 rfl rfl rfl rfl) ?_
  rintro _ _ ⟨rfl, rfl⟩
  rw [dng_ended]
  refine .n (.t (.b (.s (.r (.p (.m rfl) (.p (.n rfl) (.p (.f rfl) (.p (.l rfl) ?_))))))))
  refine .p (.n rfl) (.p (.f rfl) (.p (.l rfl) (.p (.a rfl) (.n (.t (.cond rfl (fun h21 => ?_) (fun h21 => ?_)))))))
  · refine .to (A := thrsH ps d.s.thr) (Bs := [arr p 0 (thrC t), thrsH (ps.set d.n none) (d.s.thr.set d.n none)]) .auto (thrs_keep hp ht) ?_
    refine .draw [arr bd 0 (dngC b p (d.ended) vw ve)] [1, 1, 1, 1, 1, 1, 1, 1, 3] rfl (by kernel_rfl) ?_
    refine .p (.m rfl) (.p (.n rfl) (.p (.z rfl) (.p (.l rfl) (.p (.m rfl) ?_))))
    refine .p (.n rfl) (.p (.f rfl) (.p (.l rfl) ?_))
    refine .d3 rfl (Does.callE rfl call85 rfl (core_free hp ht hl hpl hT hR.h.1) .auto) ?_
    rintro _ _ ⟨⟨⟩, -, rfl, rfl⟩
    refine .n (.b ?_)
    rw [fin_det ht h21]
    refine .end0 rfl fun w s => ⟨ps.set d.n none, ?_, trivial, finE .auto s⟩
    rfl
  · refine .s (.r (.p (.m rfl) (.p (.n rfl) (.p (.f rfl) (.p (.l rfl) ?_)))))
    refine .p (.n rfl) (.p (.f rfl) (.p (.l rfl) (.p (.neq rfl rfl) (.p (.a rfl) (.n (.t (.condD rfl (fun h38 => ?_) (fun h38 => ?_))))))))
    · refine .s (.r (.p (.m rfl) (.p (.m rfl) (.p (.n rfl) (.p (.f rfl) (.p (.l rfl) ?_))))))
      refine .p (.n rfl) (.p (.f rfl) (.p (.l rfl) (.p (.m rfl) ?_)))
      obtain ⟨hj0, hjn, hj16, q, tj, hq, htj, hRj⟩ := hj h38
      refine .to (A := thrsH ps d.s.thr) (Bs := [arr p 0 (thrC t), thrsH (ps.set d.n none) (d.s.thr.set d.n none)]) .auto (thrs_keep hp ht) ?_
      refine .does rfl (Does.callE rfl call86 rfl (dng_goesI (d := d.ended) hj0 hq htj hj16 hRj he hw) .auto) ?_
      rintro _ _ ⟨⟨⟩, -, rfl, rfl⟩
      refine .o2 (C := dngX bd b p ps (d.ended.goes t.joiner.toNat v)) .auto rfl ?_
      rintro vw ve -
      have ht2 : (d.ended.goes t.joiner.toNat v).s.thr[d.n]? = some (some t) := goes_thr ht hjn
      refine .n (.t ?_)
      refine .draw [arr bd 0 (dngC b p (d.ended.goes t.joiner.toNat v) vw ve)] [1, 1, 1, 1, 1, 1, 1, 1, 3] rfl (by kernel_rfl) ?_
      refine .p (.m rfl) (.p (.n rfl) (.p (.z rfl) (.p (.l rfl) (.p (.m rfl) ?_))))
      refine .p (.n rfl) (.p (.f rfl) (.p (.l rfl) ?_))
      refine .d3 rfl (Does.callE rfl call85 rfl (core_free (s := (d.ended.goes t.joiner.toNat v).s) hp ht2 (by simp [Dng.goes, Spc.wake, Spc.setT, Dng.ended, hl]) hpl hT hR.h.1) .auto) ?_
      rintro _ _ ⟨⟨⟩, -, rfl, rfl⟩
      refine .n (.b ?_)
      rw [fin_join ht h21 h38]
      refine .end0 rfl fun w s => ⟨ps.set d.n none, ?_, trivial, finE .auto s⟩
      rfl
    · have h38 : t.joiner = -1 := Decidable.byContradiction h38
      refine .draw [arr bd 0 (dngC b p (d.ended) vw ve)] [1, 1, 1, 1, 1, 1, 1, 1, 0, 1, 1, 2, 1, 1, 3] rfl (by kernel_rfl) ?_
      refine .p (.m rfl) (.p (.n rfl) (.p (.f rfl) (.p (.l rfl) (.p (.m rfl) ?_))))
      refine .p (.n rfl) (.p (.f rfl) (.p (.l rfl) (.q (.m rfl) ?_)))
      refine .p (.n rfl) (.p (.f rfl) ?_)
      refine .d2 rfl Kept.auto (Does.st sizeOf3 rfl rfl rfl rfl) (by rintro _ _ ⟨rfl, rfl⟩; exact Kept.auto) ?_
      rintro _ _ ⟨rfl, rfl⟩
      rw [thr_why]
      refine .p (.n rfl) (.p (.f rfl) ?_)
      refine .d3 rfl (Does.st sizeOf43 rfl rfl rfl rfl) ?_
      rintro _ _ ⟨rfl, rfl⟩
      rw [thr_value]
      refine .n (.b ?_)
      rw [fin_none ht h21 h38]
      refine .to (A := thrsH ps (d.s.thr.set d.n (some ({ t with why := 9, value := v })))) (Bs := [arr p 0 (thrC ({ t with why := 9, value := v })), thrsH (ps.set d.n none) (d.s.thr.set d.n none)]) .auto (thrs_shut (List.getElem?_eq_some_iff.1 ht).1 hp) ?_
      refine .end0 rfl fun w s => ⟨ps, ?_, trivial, finE .auto s⟩
      rfl

set_option maxRecDepth 20000 in
theorem dng_given {W : World} {bd b p : Nat} {ps : List (Option Nat)} {d : Dng} {n : Int} {ok : Bool} (hg : ok = true → 0 ≤ n ∧ LiveAt ps d.s n.toNat) (he : d.ends.length ≤ 1000000) (hw : d.out.woken.length ≤ 1000000) : Fn Tryz.prog W 124 [ptr bd, .int .i64 n, .bool ok] [dngX bd b p ps d] Unit (fun _ => .tuple #[]) (fun _ => True) (fun _ => [dngX bd b p ps (d.given n ok)]) := by
  refine Fn.intro (N := 10) func124 rfl ntmps124 rfl fun F => ?_
  show GoC _ _ _ _ _ _ [dngX bd b p ps d, F]
  refine .s (.r (.p (.m rfl) (.n (.t (.cond rfl (fun h6 => ?_) (fun h6 => ?_))))))
  · refine .r ?_
    obtain ⟨h0, hn16, q, t, hq, ht, hR⟩ := hg h6
    refine .p (.m rfl) (.p (.m rfl) ?_)
    refine .does rfl (Does.callE rfl call86 rfl (dng_goesI h0 hq ht hn16 hR he hw) .auto) ?_
    rintro _ _ ⟨⟨⟩, -, rfl, rfl⟩
    refine .n ?_
    rw [show d.given n ok = d.goes n.toNat 0 from by unfold Dng.given; rw [if_pos h6]]
    refine .end0 rfl fun w s => ⟨(), ?_, trivial, finE .auto s⟩
    rfl
  · refine .v ?_
    rw [show d.given n ok = d from by unfold Dng.given; rw [if_neg (by rw [h6]; simp)]]
    refine .end0 rfl fun w s => ⟨(), ?_, trivial, finE .auto s⟩
    rfl

set_option maxRecDepth 20000 in
theorem dng_plain {W : World} {bd b p : Nat} {ps : List (Option Nat)} {d : Dng} {t : Thr} (hp : ps[d.n]? = some (some p)) (ht : d.s.thr[d.n]? = some (some t)) (hI : InsOk d.i) (hF : FrmOk t.frm) (hc : cls d.i.op = 1) (hm : d.s.mem.length ≤ 1000000) (hr : d.s.recs.length ≤ 100000000) (hl : d.s.thr.length = 16) (hpl : ps.length = 16) (hT : TakeOk d.s.table) (hR : ThrR t) (he : d.ends.length ≤ 1000000) (hw : d.out.woken.length ≤ 1000000) (hj : ¬ t.joiner = -1 → 0 ≤ t.joiner ∧ t.joiner.toNat ≠ d.n ∧ LiveAt ps d.s t.joiner.toNat) : Fn Tryz.prog W 64 [ptr bd] [dngX bd b p ps d] (List (Option Nat)) (fun _ => .tuple #[]) (fun _ => True) (fun qs => [dngX bd b p qs d.plain]) := by
  refine Fn.intro (N := 124) func64 rfl ntmps64 rfl fun F => ?_
  show GoC _ _ _ _ _ _ [dngX bd b p ps d, F]
  refine .o2 (C := dngX bd b p ps d) .auto rfl ?_
  rintro vw ve -
  refine .o10 (C := spcX b ps d.s) .auto rfl ?_
  rintro fv sv pv bt vm bg vt bk bw vr -
  refine .fr .auto (thrs_out hp ht) ?_
  have hIa := hI.a
  have hIb := hI.b
  have hb : d.b = t.regs.getD d.i.b.toNat 0 := by unfold Dng.b; rw [dng_t ht]; rfl
  have ha : d.a = t.regs.getD d.i.a.toNat 0 := by unfold Dng.a; rw [dng_t ht]; rfl
  have hbr := hR.r d.i.b.toNat
  refine .s ?_
  refine .draw [] [1, 1, 1, 1, 1, 1, 1, 1, 1, 1, 1, 1, 1, 1, 1, 1, 1, 1, 1, 1, 1, 1, 1, 1, 1, 1, 1, 1, 1, 1] rfl (by kernel_rfl) ?_
  refine .p (.m rfl) (.p (.n rfl) (.p (.f rfl) (.p (.l rfl) (.p (.m rfl) ?_))))
  refine .p (.n rfl) (.p (.f rfl) (.p (.o rfl) (.p (.l rfl) ?_)))
  refine .p (.n rfl) (.p (.z rfl) (.p (.f rfl) ?_))
  refine .p (.ixArr d.i.a.toNat underlying57 sizeOf43 rfl rfl (by omega) (by omega)) ?_
  refine .p (.ld rfl (Cell.a (thr_get (by omega)))) ?_
  refine .p (.m rfl) (.p (.n rfl) (.p (.f rfl) (.p (.l rfl) (.p (.m rfl) ?_))))
  refine .p (.n rfl) (.p (.f rfl) (.p (.o rfl) (.p (.l rfl) ?_)))
  refine .p (.n rfl) (.p (.z rfl) (.p (.f rfl) ?_))
  refine .p (.ixArr d.i.b.toNat underlying57 sizeOf43 rfl rfl (by omega) (by omega)) ?_
  refine .p (.ld rfl (Cell.a (thr_get (by omega)))) ?_
  refine .p (.a rfl) (.p (.a rfl) (.n (.t (.s ?_))))
  refine .drawF [arr bd 0 (dngC b p d vw ve), arr b 0 (spcC fv sv pv d.s.prg bt ps vm bg vt bk bw vr), arr p 0 (thrC t), sl wrdE 1 vm d.s.mem] [0, 0, 0, 0, 0, 0, 0, 0, 0, 0, 0, 0, 0, 0, 0, 0, 0, 0, 2, 0, 0, 0, 0, 4, 2, 0, 0] [0, 1, 2, 3, 4, 5, 6, 7, 8, 9, 10, 11, 12, 13, 14, 15, 16, 17, 18, 19, 20, 21, 22, 23, 24, 25, 26] rfl (by kernel_rfl) ?_
  refine GoF.q rfl rfl rfl Kept.auto (Y.m rfl) ?_
  refine GoF.q rfl rfl rfl Kept.auto (Y.n rfl) ?_
  refine GoF.q rfl rfl rfl Kept.auto (Y.fieldAddr0 2 114 underlying138 rfl sizeOf114 rfl) ?_
  refine GoF.q rfl rfl rfl Kept.auto (Y.load isAgg114 rfl (Cell.a (by rfl))) ?_
  refine GoF.q rfl rfl rfl Kept.auto (Y.n rfl) ?_
  refine GoF.q rfl rfl rfl Kept.auto (Y.fieldAddrZ 131 underlying133 rfl sizeOf131 rfl) ?_
  refine GoF.q rfl rfl rfl Kept.auto (Y.lda isAgg131 rfl (Cells.part0 (ds := frmE t.frm) (Cells.a (cs := thrC t)) rfl) (by exact sizeOf131)) ?_
  refine GoF.q rfl rfl rfl Kept.auto (Y.m rfl) ?_
  refine GoF.q rfl rfl rfl Kept.auto (Y.n rfl) ?_
  refine GoF.q rfl rfl rfl Kept.auto (Y.fieldAddr0 3 123 underlying138 rfl sizeOf123 rfl) ?_
  refine GoF.q rfl rfl rfl Kept.auto (Y.lda isAgg123 rfl (Cells.part0 (ds := insE d.i) (Cells.a (cs := dngC b p d vw ve)) rfl) (by exact sizeOf123)) ?_
  refine GoF.q rfl rfl rfl Kept.auto (Y.m rfl) ?_
  refine GoF.q rfl rfl rfl Kept.auto (Y.n rfl) ?_
  refine GoF.q rfl rfl rfl Kept.auto (Y.fieldAddrZ 27 underlying138 rfl sizeOf27 rfl) ?_
  refine GoF.q rfl rfl rfl Kept.auto (Y.load isAgg27 rfl (Cell.a (by rfl))) ?_
  refine GoF.q rfl rfl rfl Kept.auto (Y.n rfl) ?_
  refine GoF.q rfl rfl rfl Kept.auto (Y.fieldAddr0 25 51 underlying118 rfl sizeOf51 rfl) ?_
  refine GoF.q rfl rfl rfl Kept.auto (Y.load isAgg51 rfl (Cell.a (by rfl))) ?_
  refine GoF.callE rfl (.inl rfl) rfl (fun _ => Kept.auto) call87 rfl (frame_Plain (A := sl wrdE 1 vm d.s.mem) Rd.s hm hI hF hc) .auto (fun _ _ => Kept.auto) ?_
  rintro u5 -
  refine GoF.q rfl rfl rfl Kept.auto (Y.m rfl) ?_
  refine GoF.q rfl rfl rfl Kept.auto (Y.extract (v := .agg (frmE (plainR t.frm d.s.mem d.i).1).toArray) rfl rfl) ?_
  refine GoF.q rfl rfl rfl Kept.auto (Y.extract (v := u5) rfl rfl) ?_
  refine GoF.q rfl rfl rfl Kept.auto (Y.extract (v := .int .i64 (plainR t.frm d.s.mem d.i).2.2) rfl rfl) ?_
  refine GoF.fresh rfl rfl rfl (by decide) Kept.auto (fresh_alloc zeroValue131 rfl) ?_
  rintro b4
  refine GoF.sta2 rfl rfl (by exact sizeOf131) rfl rfl rfl (by rfl) Kept.auto Kept.auto ?_
  refine GoF.q rfl rfl rfl Kept.auto (Y.a rfl) ?_
  refine GoF.q rfl rfl rfl Kept.auto (Y.a rfl) ?_
  refine GoF.nil ?_
  refine .t (.s (.b (.s (.r (.p (.m rfl) (.p (.n rfl) (.p (.f rfl) (.p (.z rfl) (.p (.l rfl) (.p (.eql rfl rfl) (.p (.m rfl) ?_)))))))))))
  apply GoL.segAD 3 68 65 [65, 66, 67, 68] rfl
  · intro h65
    refine .g (.m rfl) (.g (.eql rfl rfl) (.p (.t rfl rfl) (.n ?_)))
    refine .seg .auto rfl (by first | exact fun _ h => h | exact Ent.kept .auto)
  · intro h65
    refine .u (.u (.p (.u rfl rfl) (.n ?_)))
    refine .seg .auto rfl (by first | exact fun _ h => h | exact Ent.kept .auto)
  refine .p (.a rfl) (.n (.t (.cond rfl (fun h58 => ?_) (fun h58 => ?_))))
  · simp only [Bool.and_eq_true, decide_eq_true_eq] at h58
    obtain ⟨h1, h0⟩ := h58
    obtain ⟨z, hz⟩ := plain_zero h0
    rw [plain_some hz]
    have hlt : t.regs.getD d.i.b.toNat 0 < d.s.mem.length := doI_load hz h1
    refine .r (.p (.m rfl) (.p (.m rfl) (.p (.m rfl) (.p (.n rfl) (.p (.z rfl) (.p (.l rfl) ?_))))))
    refine .p (.n rfl) (.p (.f rfl) (.p (.l rfl) (.p (.m rfl) ?_)))
    refine .p (.ixRd (t.regs.getD d.i.b.toNat 0).toNat underlying51 sizeOf43 rfl rfl Rd.s (by omega) (by omega)) ?_
    refine .p (.ld rfl (Cell.rd0 Rd.s (getD_some (d := (0 : Int)) (show (t.regs.getD d.i.b.toNat 0).toNat < d.s.mem.length by omega)) (by rfl))) ?_
    refine .to (A := thrsH ps d.s.thr) (Bs := [arr p 0 (thrC t), thrsH (ps.set d.n none) (d.s.thr.set d.n none)]) .auto (thrs_keep hp ht) ?_
    refine .p (.m rfl) ?_
    refine .does rfl (Does.callE rfl call61 rfl (dng_tell hp ht hr) .auto) ?_
    rintro _ _ ⟨⟨⟩, -, rfl, rfl⟩
    refine .n (.b (.t (.s (.s (.r (.p (.m rfl) (.p (.neq rfl rfl) (.n (.t (.condF rfl ?_))))))))))
    refine .v (.t ?_)
    refine .o2 (C := dngX bd b p ps (d.tell (t.regs.getD d.i.b.toNat 0) (d.s.mem.getD (t.regs.getD d.i.b.toNat 0).toNat 0) 0 true)) .auto rfl ?_
    rintro vw ve -
    refine .o10 (C := spcX b ps (d.tell (t.regs.getD d.i.b.toNat 0) (d.s.mem.getD (t.regs.getD d.i.b.toNat 0).toNat 0) 0 true).s) .auto rfl ?_
    rintro fv sv pv bt vm bg vt bk bw vr -
    refine .fr .auto (thrs_out hp (show (d.tell (t.regs.getD d.i.b.toNat 0) (d.s.mem.getD (t.regs.getD d.i.b.toNat 0).toNat 0) 0 true).s.thr[(d.tell (t.regs.getD d.i.b.toNat 0) (d.s.mem.getD (t.regs.getD d.i.b.toNat 0).toNat 0) 0 true).n]? = some (some t) from ht)) ?_
    refine .draw [arr bd 0 (dngC b p (d.tell (t.regs.getD d.i.b.toNat 0) (d.s.mem.getD (t.regs.getD d.i.b.toNat 0).toNat 0) 0 true) vw ve), arr b4 0 (frmE z.1)] [1, 1, 1, 1, 1, 1, 1, 1, 1, 0, 1, 1, 2, 1, 1, 3] rfl (by kernel_rfl) ?_
    refine .p (.m rfl) (.p (.n rfl) (.p (.f rfl) (.p (.l rfl) (.p (.m rfl) ?_))))
    refine .p (.n rfl) (.p (.z rfl) (.p (.l rfl) (.p (.lA rfl) (.q (.m rfl) ?_))))
    refine .p (.n rfl) (.p (.z rfl) ?_)
    refine .d2 rfl Kept.auto (Does.stp (vs := frmE z.1) (by exact sizeOf131) rfl rfl rfl rfl) (by rintro _ _ ⟨rfl, rfl⟩; exact Kept.auto) ?_
    rintro _ _ ⟨rfl, rfl⟩
    rw [thr_setF]
    refine .p (.n rfl) (.p (.f rfl) ?_)
    refine .d3 rfl (Does.stS sizeOf51 rfl rfl rfl) ?_
    rintro _ _ ⟨rfl, rfl⟩
    rw [spc_mem]
    refine .n ?_
    refine .to (A := thrsH ps ((d.tell (t.regs.getD d.i.b.toNat 0) (d.s.mem.getD (t.regs.getD d.i.b.toNat 0).toNat 0) 0 true).s.thr.set (d.tell (t.regs.getD d.i.b.toNat 0) (d.s.mem.getD (t.regs.getD d.i.b.toNat 0).toNat 0) 0 true).n (some (t.setF z.1)))) (Bs := [arr p 0 (thrC (t.setF z.1)), thrsH (ps.set (d.tell (t.regs.getD d.i.b.toNat 0) (d.s.mem.getD (t.regs.getD d.i.b.toNat 0).toNat 0) 0 true).n none) ((d.tell (t.regs.getD d.i.b.toNat 0) (d.s.mem.getD (t.regs.getD d.i.b.toNat 0).toNat 0) 0 true).s.thr.set (d.tell (t.regs.getD d.i.b.toNat 0) (d.s.mem.getD (t.regs.getD d.i.b.toNat 0).toNat 0) 0 true).n none)]) .auto (thrs_shut (List.getElem?_eq_some_iff.1 ht).1 hp) ?_
    rw [dplain_some ht hz, show d.told = d.tell (t.regs.getD d.i.b.toNat 0) (d.s.mem.getD (t.regs.getD d.i.b.toNat 0).toNat 0) 0 true from by unfold Dng.told; rw [if_pos h1, hb]]
    refine .end0 rfl fun w s => ⟨ps, ?_, trivial, finE .auto s⟩
    rfl
  · simp only [Bool.and_eq_false_iff, decide_eq_false_iff_not] at h58
    refine .s (.r (.p (.m rfl) (.p (.n rfl) (.p (.f rfl) (.p (.z rfl) (.p (.l rfl) (.p (.eql rfl rfl) (.p (.a rfl) (.n (.t (.condD rfl (fun h83 => ?_) (fun h83 => ?_))))))))))))
    · have hz := plain_six (h58.resolve_left (fun h => h h83))
      rw [plain_none hz]
      refine .r ?_
      refine .to (A := thrsH ps d.s.thr) (Bs := [arr p 0 (thrC t), thrsH (ps.set d.n none) (d.s.thr.set d.n none)]) .auto (thrs_keep hp ht) ?_
      refine .p (.m rfl) (.p (.m rfl) (.p (.m rfl) ?_))
      refine .does rfl (Does.callE rfl call61 rfl (dng_tell hp ht hr) .auto) ?_
      rintro _ _ ⟨⟨⟩, -, rfl, rfl⟩
      refine .n (.b (.t (.s (.s (.r (.p (.m rfl) (.p (.neq rfl rfl) (.n (.t (.condT rfl ?_))))))))))
      refine .s (.r (.p (.m rfl) ?_))
      refine .does rfl (Does.callE rfl call62 rfl (dng_fin (d := (d.tell (t.regs.getD d.i.b.toNat 0) 0 6 true)) hp ht hl hpl hT hR he hw hj) .auto) ?_
      rintro _ _ ⟨qs, -, rfl, rfl⟩
      refine .n (.t (.e (.tr ?_)))
      rw [dplain_none ht hz, if_pos h83, hb]
      refine .ret0 rfl fun w s => ⟨qs, ?_, trivial, finE .auto s⟩
      rfl
    · refine .s (.r (.p (.m rfl) (.p (.n rfl) (.p (.f rfl) (.p (.z rfl) (.p (.l rfl) (.p (.eql rfl rfl) (.p (.a rfl) (.n (.t (.condD rfl (fun h94 => ?_) (fun h94 => ?_))))))))))))
      · refine .r ?_
        refine .to (A := thrsH ps d.s.thr) (Bs := [arr p 0 (thrC t), thrsH (ps.set d.n none) (d.s.thr.set d.n none)]) .auto (thrs_keep hp ht) ?_
        refine .p (.m rfl) (.p (.m rfl) (.p (.m rfl) (.p (.m rfl) ?_)))
        refine .does rfl (Does.callE rfl call61 rfl (dng_tell hp ht hr) .auto) ?_
        rintro _ _ ⟨⟨⟩, -, rfl, rfl⟩
        refine .n (.b (.t (.s (.s (.r (.p (.m rfl) (.p (.neq rfl rfl) (.n (.t (.condD rfl (fun h107 => ?_) (fun h107 => ?_)))))))))))
        · have hz := plain_six h107
          rw [plain_none hz]
          refine .s (.r (.p (.m rfl) ?_))
          refine .does rfl (Does.callE rfl call62 rfl (dng_fin (d := (d.tell (t.regs.getD d.i.a.toNat 0) (t.regs.getD d.i.b.toNat 0) 6 true)) hp ht hl hpl hT hR he hw hj) .auto) ?_
          rintro _ _ ⟨qs, -, rfl, rfl⟩
          refine .n (.t (.e (.tr ?_)))
          rw [dplain_none ht hz, if_neg h83, ha, hb]
          refine .ret0 rfl fun w s => ⟨qs, ?_, trivial, finE .auto s⟩
          rfl
        · obtain ⟨z, hz⟩ := plain_zero (Decidable.not_not.mp h107)
          rw [plain_some hz]
          refine .v (.t ?_)
          refine .o2 (C := dngX bd b p ps (d.tell (t.regs.getD d.i.a.toNat 0) (t.regs.getD d.i.b.toNat 0) 0 true)) .auto rfl ?_
          rintro vw ve -
          refine .o10 (C := spcX b ps (d.tell (t.regs.getD d.i.a.toNat 0) (t.regs.getD d.i.b.toNat 0) 0 true).s) .auto rfl ?_
          rintro fv sv pv bt vm bg vt bk bw vr -
          refine .fr .auto (thrs_out hp (show (d.tell (t.regs.getD d.i.a.toNat 0) (t.regs.getD d.i.b.toNat 0) 0 true).s.thr[(d.tell (t.regs.getD d.i.a.toNat 0) (t.regs.getD d.i.b.toNat 0) 0 true).n]? = some (some t) from ht)) ?_
          refine .draw [arr bd 0 (dngC b p (d.tell (t.regs.getD d.i.a.toNat 0) (t.regs.getD d.i.b.toNat 0) 0 true) vw ve), arr b4 0 (frmE z.1)] [1, 1, 1, 1, 1, 1, 1, 1, 1, 0, 1, 1, 2, 1, 1, 3] rfl (by kernel_rfl) ?_
          refine .p (.m rfl) (.p (.n rfl) (.p (.f rfl) (.p (.l rfl) (.p (.m rfl) ?_))))
          refine .p (.n rfl) (.p (.z rfl) (.p (.l rfl) (.p (.lA rfl) (.q (.m rfl) ?_))))
          refine .p (.n rfl) (.p (.z rfl) ?_)
          refine .d2 rfl Kept.auto (Does.stp (vs := frmE z.1) (by exact sizeOf131) rfl rfl rfl rfl) (by rintro _ _ ⟨rfl, rfl⟩; exact Kept.auto) ?_
          rintro _ _ ⟨rfl, rfl⟩
          rw [thr_setF]
          refine .p (.n rfl) (.p (.f rfl) ?_)
          refine .d3 rfl (Does.stS sizeOf51 rfl rfl rfl) ?_
          rintro _ _ ⟨rfl, rfl⟩
          rw [spc_mem]
          refine .n ?_
          refine .to (A := thrsH ps ((d.tell (t.regs.getD d.i.a.toNat 0) (t.regs.getD d.i.b.toNat 0) 0 true).s.thr.set (d.tell (t.regs.getD d.i.a.toNat 0) (t.regs.getD d.i.b.toNat 0) 0 true).n (some (t.setF z.1)))) (Bs := [arr p 0 (thrC (t.setF z.1)), thrsH (ps.set (d.tell (t.regs.getD d.i.a.toNat 0) (t.regs.getD d.i.b.toNat 0) 0 true).n none) ((d.tell (t.regs.getD d.i.a.toNat 0) (t.regs.getD d.i.b.toNat 0) 0 true).s.thr.set (d.tell (t.regs.getD d.i.a.toNat 0) (t.regs.getD d.i.b.toNat 0) 0 true).n none)]) .auto (thrs_shut (List.getElem?_eq_some_iff.1 ht).1 hp) ?_
          rw [dplain_some ht hz, show d.told = d.tell (t.regs.getD d.i.a.toNat 0) (t.regs.getD d.i.b.toNat 0) 0 true from by unfold Dng.told; rw [if_neg h83, if_pos h94, ha, hb]]
          refine .end0 rfl fun w s => ⟨ps, ?_, trivial, finE .auto s⟩
          rfl
      · refine .v (.b (.t (.s (.s (.r (.p (.m rfl) (.p (.neq rfl rfl) (.n (.t (.condD rfl (fun h107 => ?_) (fun h107 => ?_)))))))))))
        · exact absurd (doI_none (plain_six h107)) (by omega)
        · obtain ⟨z, hz⟩ := plain_zero (Decidable.not_not.mp h107)
          rw [plain_some hz]
          refine .v (.t ?_)
          refine .draw [arr bd 0 (dngC b p (d) vw ve), arr b4 0 (frmE z.1)] [1, 1, 1, 1, 1, 1, 1, 1, 1, 0, 1, 1, 2, 1, 1, 3] rfl (by kernel_rfl) ?_
          refine .p (.m rfl) (.p (.n rfl) (.p (.f rfl) (.p (.l rfl) (.p (.m rfl) ?_))))
          refine .p (.n rfl) (.p (.z rfl) (.p (.l rfl) (.p (.lA rfl) (.q (.m rfl) ?_))))
          refine .p (.n rfl) (.p (.z rfl) ?_)
          refine .d2 rfl Kept.auto (Does.stp (vs := frmE z.1) (by exact sizeOf131) rfl rfl rfl rfl) (by rintro _ _ ⟨rfl, rfl⟩; exact Kept.auto) ?_
          rintro _ _ ⟨rfl, rfl⟩
          rw [thr_setF]
          refine .p (.n rfl) (.p (.f rfl) ?_)
          refine .d3 rfl (Does.stS sizeOf51 rfl rfl rfl) ?_
          rintro _ _ ⟨rfl, rfl⟩
          rw [spc_mem]
          refine .n ?_
          refine .to (A := thrsH ps ((d).s.thr.set (d).n (some (t.setF z.1)))) (Bs := [arr p 0 (thrC (t.setF z.1)), thrsH (ps.set (d).n none) ((d).s.thr.set (d).n none)]) .auto (thrs_shut (List.getElem?_eq_some_iff.1 ht).1 hp) ?_
          rw [dplain_some ht hz, show d.told = d from by unfold Dng.told; rw [if_neg h83, if_neg h94]]
          refine .end0 rfl fun w s => ⟨ps, ?_, trivial, finE .auto s⟩
          rfl

end Go.SLYtpcjdohmjmeehaaGreat
