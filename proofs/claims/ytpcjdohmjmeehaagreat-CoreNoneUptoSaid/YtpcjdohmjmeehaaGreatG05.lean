/- Walks of functions, and what they compute. Conditions: none, this text proves no statement. -/
import Derived.Test.YtpcjdohmjmeehaaGreatProg
import Derived.Test.YtpcjdohmjmeehaaGreatG04
import Derived.KernelRfl
import Derived.Recover
import Derived.OrdersHeld
import Derived.Laws.Externs
import Derived.Laws.NewFold
namespace Go.SLYtpcjdohmjmeehaaGreat
open Go Go.RowKit Go.Proofs

set_option maxRecDepth 20000 in
theorem slot_Find {W : World} {b : Nat} {l : List (Bool × Int)} {h : Int} (hl : TakeOk l) (h0 : 0 ≤ h) : Fn Tryz.prog W 148 [ptr b, .int .u64 h] [tblH b l] Unit (fun _ => findV (slotFind l h)) (fun _ => True) (fun _ => [tblH b l]) := by
  refine Fn.intro (N := 50) Tryz.func148 rfl Tryz.ntmps148 rfl fun F => ?_
  show GoC _ _ _ _ _ _ [tblH b l, F]
  refine GoC.seq ?_
  refine GoC.region ?_
  refine GoL.y rfl (Y.assign rfl) ?_
  refine GoL.y rfl (Y.assign rfl) ?_
  refine GoL.nil ?_
  refine GoE.then_normal ?_
  refine GoC.seq ?_
  refine GoC.seq ?_
  refine GoC.region ?_
  refine GoL.y rfl (Y.move rfl) ?_
  refine GoL.y rfl (Y.eqPtrNil Tryz.underlying106 rfl rfl) ?_
  refine GoL.y rfl (Y.move rfl) ?_
  refine GoL.yg rfl rfl rfl (Y.move rfl) ?_
  refine GoL.yg rfl rfl rfl (Y.valW (Y.rem rfl rfl (by omega)) (tmod_pos h0)) ?_
  refine GoL.yg rfl rfl rfl (Y.eql rfl rfl) ?_
  refine GoL.y rfl (Y.pickF rfl rfl) ?_
  refine GoL.nil ?_
  refine GoE.then_normal ?_
  refine GoC.condD rfl (fun h13 => ?_) (fun h13 => ?_)
  · refine GoC.seq ?_
    refine GoC.region ?_
    refine GoL.y rfl (Y.assign rfl) ?_
    refine GoL.y rfl (Y.assign rfl) ?_
    refine GoL.nil ?_
    refine GoE.then_normal ?_
    refine GoC.ret ?_
    refine GoE.then_ret ?_
    refine GoE.ret2 rfl rfl rfl fun w s => ⟨(), ?_, trivial, finE .auto s⟩
    rw [find_zero h13]; rfl
  · refine GoC.skip ?_
    refine GoE.then_normal ?_
    refine GoC.seq ?_
    refine GoC.region ?_
    refine GoL.o1 (C := tblH b l) .auto rfl ?_
    rintro v -
    obtain ⟨hl1, hl2⟩ := hl
    have hm : h % 65536 < 65536 := by omega
    have ho : (hh : hN h < l.length) → l[hN h]? = some (slotAt l (hN h)) := getD_some
    refine GoL.y rfl (Y.move rfl) ?_
    refine GoL.y rfl (Y.valW (Y.rem rfl rfl (by omega)) (tmod_pos h0)) ?_
    refine GoL.y rfl (Y.convI Tryz.underlying43 Tryz.underlying3 rfl (by omega)) ?_
    refine GoL.y rfl (Y.valW (Y.sub rfl rfl (by omega)) (hN_cast h13)) ?_
    refine GoL.y rfl (Y.assign rfl) ?_
    refine GoL.nil ?_
    refine GoE.then_normal ?_
    refine GoC.seq ?_
    refine GoC.seq ?_
    refine GoC.region ?_
    refine GoL.y rfl (Y.move rfl) ?_
    refine GoL.y rfl (Y.move rfl) ?_
    refine GoL.y rfl (Y.nilCheck rfl) ?_
    refine GoL.y rfl (Y.fieldAddrZ 159 Tryz.underlying161 rfl Tryz.sizeOf159 rfl) ?_
    refine GoL.y rfl (Y.load Tryz.isAgg159 rfl (Cell.a (by rfl))) ?_
    refine GoL.y rfl (Y.lenRd Tryz.underlying159 rfl Rd.s) ?_
    refine GoL.y rfl (Y.geq rfl rfl) ?_
    refine GoL.y rfl (Y.move rfl) ?_
    apply GoL.segOD 10 35 25 [25, 26, 27, 28, 29, 30, 31, 32, 33, 34, 35] rfl
    · intro h25
      have hlt : hN h < l.length := by omega
      refine GoL.yg rfl rfl rfl (Y.move rfl) ?_
      refine GoL.yg rfl rfl rfl (Y.nilCheck rfl) ?_
      refine GoL.yg rfl rfl rfl (Y.fieldAddrZ 159 Tryz.underlying161 rfl Tryz.sizeOf159 rfl) ?_
      refine GoL.yg rfl rfl rfl (Y.load Tryz.isAgg159 rfl (Cell.a (by rfl))) ?_
      refine GoL.yg rfl rfl rfl (Y.move rfl) ?_
      refine GoL.yg rfl rfl rfl (Y.ixRd (hN h) Tryz.underlying159 Tryz.sizeOf209 rfl rfl Rd.s rfl hlt) ?_
      refine GoL.yg rfl rfl rfl (Y.fieldAddrZ 4 Tryz.underlying209 rfl Tryz.sizeOf4 rfl) ?_
      refine GoL.yg rfl rfl rfl (Y.load Tryz.isAgg4 rfl (Cell.rd0 Rd.s (ho (by omega)) (by rfl))) ?_
      refine GoL.yg rfl rfl rfl (Y.not rfl) ?_
      refine GoL.y rfl (Y.pickF rfl rfl) ?_
      refine GoL.nil ?_
      refine GoE.seg .auto rfl (by first | exact fun _ h => h | exact Ent.kept .auto)
    · intro h25
      refine GoL.skip rfl rfl rfl rfl ?_
      refine GoL.skip rfl rfl rfl rfl ?_
      refine GoL.skip rfl rfl rfl rfl ?_
      refine GoL.skip rfl rfl rfl rfl ?_
      refine GoL.skip rfl rfl rfl rfl ?_
      refine GoL.skip rfl rfl rfl rfl ?_
      refine GoL.skip rfl rfl rfl rfl ?_
      refine GoL.skip rfl rfl rfl rfl ?_
      refine GoL.skip rfl rfl rfl rfl ?_
      refine GoL.y rfl (Y.pickT rfl rfl) ?_
      refine GoL.nil ?_
      refine GoE.seg .auto rfl (by first | exact fun _ h => h | exact Ent.kept .auto)
    refine GoL.y rfl (Y.move rfl) ?_
    apply GoL.segO 12 48 36 [36, 37, 38, 39, 40, 41, 42, 43, 44, 45, 46, 47, 48] rfl
    · intro h36
      simp only [Bool.or_eq_false_iff, decide_eq_false_iff_not] at h36
      have hlt : hN h < l.length := by omega
      have hob := hl2 _ (List.mem_of_getElem? (ho hlt))
      refine GoL.yg rfl rfl rfl (Y.move rfl) ?_
      refine GoL.yg rfl rfl rfl (Y.nilCheck rfl) ?_
      refine GoL.yg rfl rfl rfl (Y.fieldAddrZ 159 Tryz.underlying161 rfl Tryz.sizeOf159 rfl) ?_
      refine GoL.yg rfl rfl rfl (Y.load Tryz.isAgg159 rfl (Cell.a (by rfl))) ?_
      refine GoL.yg rfl rfl rfl (Y.move rfl) ?_
      refine GoL.yg rfl rfl rfl (Y.ixRd (hN h) Tryz.underlying159 Tryz.sizeOf209 rfl rfl Rd.s rfl hlt) ?_
      refine GoL.yg rfl rfl rfl (Y.lda Tryz.isAgg209 rfl (Cells.rd Rd.s (ho (by omega))) (by exact Tryz.sizeOf209)) ?_
      refine GoL.yg rfl rfl rfl (Y.move rfl) ?_
      refine GoL.dg rfl rfl rfl (Does.callE rfl Tryz.call115 rfl (slot_handle (o := slotAt l (hN h)) (n := hN h) (by omega) (by omega)) .auto) ?_
      rintro _ _ ⟨⟨⟩, -, rfl, rfl⟩
      refine GoL.yg rfl rfl rfl (Y.move rfl) ?_
      refine GoL.yg rfl rfl rfl (Y.neq rfl rfl) ?_
      refine GoL.y rfl (Y.pickF rfl rfl) ?_
      refine GoL.nil ?_
      refine GoE.seg .auto rfl (by first | exact fun _ h => h | exact Ent.kept .auto)
    · intro h36
      refine GoL.skip rfl rfl rfl rfl ?_
      refine GoL.skip rfl rfl rfl rfl ?_
      refine GoL.skip rfl rfl rfl rfl ?_
      refine GoL.skip rfl rfl rfl rfl ?_
      refine GoL.skip rfl rfl rfl rfl ?_
      refine GoL.skip rfl rfl rfl rfl ?_
      refine GoL.skip rfl rfl rfl rfl ?_
      refine GoL.skip rfl rfl rfl rfl ?_
      refine GoL.skip rfl rfl rfl rfl ?_
      refine GoL.skip rfl rfl rfl rfl ?_
      refine GoL.skip rfl rfl rfl rfl ?_
      refine GoL.y rfl (Y.pickT rfl rfl) ?_
      refine GoL.nil ?_
      refine GoE.seg .auto rfl (by first | exact fun _ h => h | exact Ent.kept .auto)
    refine GoL.nil ?_
    refine GoE.then_normal ?_
    refine GoC.cond rfl (fun h48 => ?_) (fun h48 => ?_)
    · refine GoC.seq ?_
      refine GoC.region ?_
      refine GoL.y rfl (Y.assign rfl) ?_
      refine GoL.y rfl (Y.assign rfl) ?_
      refine GoL.nil ?_
      refine GoE.then_normal ?_
      refine GoC.ret ?_
      refine GoE.then_ret ?_
      refine GoE.ret2 rfl rfl rfl fun w s => ⟨(), ?_, trivial, finE .auto s⟩
      rw [find_eq h13, if_pos (by simpa using h48)]; rfl
    · refine GoC.skip ?_
      refine GoE.then_normal ?_
      refine GoC.seq ?_
      refine GoC.region ?_
      refine GoL.y rfl (Y.move rfl) ?_
      refine GoL.y rfl (Y.assign rfl) ?_
      refine GoL.y rfl (Y.assign rfl) ?_
      refine GoL.nil ?_
      refine GoE.then_normal ?_
      refine GoC.ret ?_
      refine GoE.ret2 rfl rfl rfl fun w s => ⟨(), ?_, trivial, finE .auto s⟩
      rw [find_eq h13, if_neg (by simpa using h48)]; rfl

set_option maxRecDepth 20000 in
theorem slot_Free {W : World} {b : Nat} {l : List (Bool × Int)} {h : Int} (hl : TakeOk l) (h0 : 0 ≤ h) : Fn Tryz.prog W 116 [ptr b, .int .u64 h] [tblH b l] Int (fun e => .int .i64 e) (fun _ => True) (fun _ => [tblH b (slotFreed l h)]) := by
  refine Fn.intro (N := 22) Tryz.func116 rfl Tryz.ntmps116 rfl fun F => ?_
  show GoC _ _ _ _ _ _ [tblH b l, F]
  refine GoC.seq ?_
  refine GoC.region ?_
  refine GoL.y rfl (Y.assign rfl) ?_
  refine GoL.nil ?_
  refine GoE.then_normal ?_
  refine GoC.seq ?_
  refine GoC.region ?_
  refine GoL.y rfl (Y.move rfl) ?_
  refine GoL.y rfl (Y.move rfl) ?_
  refine GoL.does rfl (Does.callE rfl Tryz.call148 rfl (slot_Find hl h0) .auto) ?_
  rintro _ _ ⟨⟨⟩, -, rfl, rfl⟩
  refine GoL.y rfl (Y.move rfl) ?_
  refine GoL.y rfl (Y.extract rfl rfl) ?_
  refine GoL.y rfl (Y.extract rfl rfl) ?_
  refine GoL.y rfl (Y.assign rfl) ?_
  refine GoL.y rfl (Y.assign rfl) ?_
  refine GoL.nil ?_
  refine GoE.then_normal ?_
  refine GoC.seq ?_
  refine GoC.seq ?_
  refine GoC.region ?_
  refine GoL.y rfl (Y.move rfl) ?_
  refine GoL.y rfl (Y.not rfl) ?_
  refine GoL.nil ?_
  refine GoE.then_normal ?_
  refine GoC.cond rfl (fun h14 => ?_) (fun h14 => ?_)
  · refine GoC.seq ?_
    refine GoC.region ?_
    refine GoL.y rfl (Y.assign rfl) ?_
    refine GoL.nil ?_
    refine GoE.then_normal ?_
    refine GoC.ret ?_
    refine GoE.then_ret ?_
    rw [freed_none (show slotFind l h = none from by cases e : slotFind l h with
      | none => rfl
      | some n => rw [e] at h14; cases h14)]
    refine GoE.ret1 rfl rfl fun w s => ⟨3, ?_, trivial, finE .auto s⟩
    rfl
  · refine GoC.skip ?_
    refine GoE.then_normal ?_
    refine GoC.seq ?_
    refine GoC.region ?_
    refine GoL.o1 (C := tblH b l) .auto rfl ?_
    rintro v -
    obtain ⟨n, hn⟩ : ∃ n, slotFind l h = some n := by cases e : slotFind l h with
      | none => rw [e] at h14; cases h14
      | some n => exact ⟨n, rfl⟩
    obtain ⟨hlt, -⟩ := find_lt hn
    have ho : l[n]? = some (slotAt l n) := getD_some hlt
    obtain ⟨u, tk, hut⟩ : ∃ u tk, slotAt l n = (u, tk) := ⟨_, _, rfl⟩
    rw [hut] at ho
    refine GoL.y rfl (Y.move rfl) ?_
    refine GoL.y rfl (Y.nilCheck rfl) ?_
    refine GoL.y rfl (Y.fieldAddrZ 159 Tryz.underlying161 rfl Tryz.sizeOf159 rfl) ?_
    refine GoL.y rfl (Y.load Tryz.isAgg159 rfl (Cell.a (by rfl))) ?_
    refine GoL.y rfl (Y.move rfl) ?_
    refine GoL.y rfl (Y.ixRd n Tryz.underlying159 Tryz.sizeOf209 rfl (by rw [hn]; rfl) Rd.s rfl hlt) ?_
    refine GoL.y rfl (Y.fieldAddrZ 4 Tryz.underlying209 rfl Tryz.sizeOf4 rfl) ?_
    refine GoL.does rfl (Does.storeSl0 (x' := (false, tk)) rfl rfl Tryz.sizeOf4 rfl ho (by decide) rfl .auto) ?_
    rintro _ _ ⟨rfl, rfl⟩
    refine GoL.nil ?_
    refine GoE.then_normal ?_
    refine GoC.seq ?_
    refine GoC.region ?_
    refine GoL.y rfl (Y.assign rfl) ?_
    refine GoL.nil ?_
    refine GoE.then_normal ?_
    refine GoC.ret ?_
    rw [freed_some hn, hut]
    refine GoE.ret1 rfl rfl fun w s => ⟨0, ?_, trivial, finE .auto s⟩
    rfl

set_option maxRecDepth 20000 in
theorem has_f {W : World} {A : HProp} {x : Wtr} {c : Nat} {who : Int} : Fn Tryz.prog W 229 [.agg (wtrE x).toArray, ptr c] [seps [arr c 0 [.int .i64 who], A]] Unit (fun _ => .bool (decide (x.who = who))) (fun _ => True) (fun _ => [seps [arr c 0 [.int .i64 who], A]]) := by
  refine Fn.intro (N := 8) Tryz.func229 rfl Tryz.ntmps229 rfl fun F => ?_
  show GoC _ _ _ _ _ _ [seps [arr c 0 [.int .i64 who], A], F]
  refine GoC.ungrp .auto ?_
  refine GoC.seq ?_
  refine GoC.region ?_
  refine GoL.does rfl (Does.box rfl rfl rfl) ?_
  rintro _ _ ⟨b2, rfl, rfl⟩
  refine GoL.y rfl (Y.assign rfl) ?_
  refine GoL.nil ?_
  refine GoE.then_normal ?_
  refine GoC.seq ?_
  refine GoC.region ?_
  refine GoL.y rfl (Y.fieldAddrZ 3 Tryz.underlying229 rfl Tryz.sizeOf3 rfl) ?_
  refine GoL.y rfl (Y.load Tryz.isAgg3 rfl (Cell.a (by rfl))) ?_
  refine GoL.y rfl (Y.load Tryz.isAgg3 rfl (Cell.a (by rfl))) ?_
  refine GoL.y rfl (Y.eql rfl rfl) ?_
  refine GoL.y rfl (Y.assign rfl) ?_
  refine GoL.nil ?_
  refine GoE.then_normal ?_
  refine GoC.ret ?_
  refine GoE.ret1 rfl rfl fun w s => ⟨(), ?_, trivial, finE .auto s⟩
  rfl

set_option maxRecDepth 20000 in
theorem row_has {W : World} {A : HProp} {b : Nat} {u : Value} {cs : List Value} {l : List Wtr} {who : Int} (hr : Rd W [A] wtrE 2 u l) (hl : l.length ≤ 1000000) : Fn Tryz.prog W 199 [ptr b, .int .i64 who] [arr b 0 (u :: cs), A] Unit (fun _ => .bool (hasW l who)) (fun _ => True) (fun _ => [arr b 0 (u :: cs), A]) := by
  refine Fn.intro (N := 11) Tryz.func199 rfl Tryz.ntmps199 rfl fun F => ?_
  show GoC _ _ _ _ _ _ [arr b 0 (u :: cs), A, F]
  refine GoC.seq ?_
  refine GoC.region ?_
  refine GoL.does rfl (Does.box rfl rfl rfl) ?_
  rintro _ _ ⟨b3, rfl, rfl⟩
  refine GoL.y rfl (Y.assign rfl) ?_
  refine GoL.nil ?_
  refine GoE.then_normal ?_
  refine GoC.seq ?_
  refine GoC.region ?_
  refine GoL.y rfl (Y.move rfl) ?_
  refine GoL.y rfl (Y.nilCheck rfl) ?_
  refine GoL.y rfl (Y.fieldAddrZ 168 Tryz.underlying170 rfl Tryz.sizeOf168 rfl) ?_
  refine GoL.y rfl (Y.load Tryz.isAgg168 rfl (Cell.a (by rfl))) ?_
  refine GoL.y rfl (Y.makeFunc rfl rfl) ?_
  refine GoL.does rfl (Does.callE rfl Tryz.call228 rfl (ContainsFuncG (A := seps [arr b3 0 [.int .i64 who], A]) (p := fun w => decide (w.who = who)) (Rd.grp (Rd.at hr (.there .here))) (by omega) Tryz.call229 (fun x _ => has_f)) .auto) ?_
  rintro _ _ ⟨⟨⟩, -, rfl, rfl⟩
  refine GoL.ungrp .auto ?_
  refine GoL.y rfl (Y.assign rfl) ?_
  refine GoL.nil ?_
  refine GoE.then_normal ?_
  refine GoC.ret ?_
  refine GoE.ret1 rfl rfl fun w s => ⟨(), ?_, trivial, finE .auto s⟩
  rfl

set_option maxRecDepth 20000 in
theorem waits_f1 {W : World} {A : HProp} {x : Value × Mtx} {c : Nat} {who : Int} (hr : Rd W [A] wtrE 2 x.1 x.2.wait) (hl : x.2.wait.length ≤ 1000000) : Fn Tryz.prog W 198 [.agg (mtxE x).toArray, ptr c] [seps [arr c 0 [.int .i64 who], A]] Unit (fun _ => .bool (hasW x.2.wait who)) (fun _ => True) (fun _ => [seps [arr c 0 [.int .i64 who], A]]) := by
  refine Fn.intro (N := 7) Tryz.func198 rfl Tryz.ntmps198 rfl fun F => ?_
  show GoC _ _ _ _ _ _ [seps [arr c 0 [.int .i64 who], A], F]
  refine GoC.ungrp .auto ?_
  refine GoC.seq ?_
  refine GoC.region ?_
  refine GoL.does rfl (Does.box rfl rfl rfl) ?_
  rintro _ _ ⟨b2, rfl, rfl⟩
  refine GoL.mem (H' := [arr b2 0 (mtxE x), arr c 0 [.int .i64 who], A, F]) (fun w s => s) ?_
  refine GoL.y rfl (Y.assign rfl) ?_
  refine GoL.nil ?_
  refine GoE.then_normal ?_
  refine GoC.seq ?_
  refine GoC.region ?_
  refine GoL.y rfl (Y.fieldAddrZ 170 Tryz.underlying233 rfl Tryz.sizeOf170 rfl) ?_
  refine GoL.y rfl (Y.load Tryz.isAgg3 rfl (Cell.a (by rfl))) ?_
  refine GoL.does rfl (Does.callE rfl Tryz.call199 rfl (row_has hr hl) .auto) ?_
  rintro _ _ ⟨⟨⟩, -, rfl, rfl⟩
  refine GoL.y rfl (Y.assign rfl) ?_
  refine GoL.nil ?_
  refine GoE.then_normal ?_
  refine GoC.ret ?_
  refine GoE.ret1 rfl rfl fun w s => ⟨(), ?_, trivial, finE .auto s⟩
  rfl

set_option maxRecDepth 20000 in
theorem waits_f2 {W : World} {A : HProp} {x : Value × List Wtr} {c : Nat} {who : Int} (hr : Rd W [A] wtrE 2 x.1 x.2) (hl : x.2.length ≤ 1000000) : Fn Tryz.prog W 201 [.agg (fstE x).toArray, ptr c] [seps [arr c 0 [.int .i64 who], A]] Unit (fun _ => .bool (hasW x.2 who)) (fun _ => True) (fun _ => [seps [arr c 0 [.int .i64 who], A]]) := by
  refine Fn.intro (N := 6) Tryz.func201 rfl Tryz.ntmps201 rfl fun F => ?_
  show GoC _ _ _ _ _ _ [seps [arr c 0 [.int .i64 who], A], F]
  refine GoC.ungrp .auto ?_
  refine GoC.seq ?_
  refine GoC.region ?_
  refine GoL.does rfl (Does.box rfl rfl rfl) ?_
  rintro _ _ ⟨b2, rfl, rfl⟩
  refine GoL.mem (H' := [arr b2 0 (fstE x), arr c 0 [.int .i64 who], A, F]) (fun w s => s) ?_
  refine GoL.y rfl (Y.assign rfl) ?_
  refine GoL.nil ?_
  refine GoE.then_normal ?_
  refine GoC.seq ?_
  refine GoC.region ?_
  refine GoL.y rfl (Y.load Tryz.isAgg3 rfl (Cell.a (by rfl))) ?_
  refine GoL.does rfl (Does.callE rfl Tryz.call199 rfl (row_has hr hl) .auto) ?_
  rintro _ _ ⟨⟨⟩, -, rfl, rfl⟩
  refine GoL.y rfl (Y.assign rfl) ?_
  refine GoL.nil ?_
  refine GoE.then_normal ?_
  refine GoC.ret ?_
  refine GoE.ret1 rfl rfl fun w s => ⟨(), ?_, trivial, finE .auto s⟩
  rfl

set_option maxRecDepth 20000 in
theorem waits_f3 {W : World} {A : HProp} {x : Value × Smp} {c : Nat} {who : Int} (hr : Rd W [A] wtrE 2 x.1 x.2.wait) (hl : x.2.wait.length ≤ 1000000) : Fn Tryz.prog W 203 [.agg (smpE x).toArray, ptr c] [seps [arr c 0 [.int .i64 who], A]] Unit (fun _ => .bool (hasW x.2.wait who)) (fun _ => True) (fun _ => [seps [arr c 0 [.int .i64 who], A]]) := by
  refine Fn.intro (N := 7) Tryz.func203 rfl Tryz.ntmps203 rfl fun F => ?_
  show GoC _ _ _ _ _ _ [seps [arr c 0 [.int .i64 who], A], F]
  refine GoC.ungrp .auto ?_
  refine GoC.seq ?_
  refine GoC.region ?_
  refine GoL.does rfl (Does.box rfl rfl rfl) ?_
  rintro _ _ ⟨b2, rfl, rfl⟩
  refine GoL.mem (H' := [arr b2 0 (smpE x), arr c 0 [.int .i64 who], A, F]) (fun w s => s) ?_
  refine GoL.y rfl (Y.assign rfl) ?_
  refine GoL.nil ?_
  refine GoE.then_normal ?_
  refine GoC.seq ?_
  refine GoC.region ?_
  refine GoL.y rfl (Y.fieldAddrZ 170 Tryz.underlying172 rfl Tryz.sizeOf170 rfl) ?_
  refine GoL.y rfl (Y.load Tryz.isAgg3 rfl (Cell.a (by rfl))) ?_
  refine GoL.does rfl (Does.callE rfl Tryz.call199 rfl (row_has hr hl) .auto) ?_
  rintro _ _ ⟨⟨⟩, -, rfl, rfl⟩
  refine GoL.y rfl (Y.assign rfl) ?_
  refine GoL.nil ?_
  refine GoE.then_normal ?_
  refine GoC.ret ?_
  refine GoE.ret1 rfl rfl fun w s => ⟨(), ?_, trivial, finE .auto s⟩
  rfl

set_option maxRecDepth 20000 in
theorem gate_waits {W : World} {b : Nat} {g : Gates} {who : Int} {vm vc vs : Value} (hg : GatesLen g) : Fn Tryz.prog W 154 [ptr b, .int .i64 who] [arr b 0 [vm, vc, vs], mtxsH vm g.mtx, cndsH vc g.cnd, smpsH vs g.sem] Unit (fun _ => .bool (g.waits who)) (fun _ => True) (fun _ => [arr b 0 [vm, vc, vs], mtxsH vm g.mtx, cndsH vc g.cnd, smpsH vs g.sem]) := by
  refine Fn.intro (N := 27) Tryz.func154 rfl Tryz.ntmps154 rfl fun F => ?_
  show GoC _ _ _ _ _ _ [arr b 0 [vm, vc, vs], mtxsH vm g.mtx, cndsH vc g.cnd, smpsH vs g.sem, F]
  refine GoC.o1 (C := mtxsH vm g.mtx) .auto rfl ?_
  rintro xm hxm
  refine GoC.o1 (C := cndsH vc g.cnd) .auto rfl ?_
  rintro xc hxc
  refine GoC.o1 (C := smpsH vs g.sem) .auto rfl ?_
  rintro xs hxs
  have hlm := map_len hxm
  have hlc := map_len hxc
  have hls := map_len hxs
  have hm2 : ∀ x ∈ xm, x.2.wait.length ≤ 1000000 := fun x hx => hg.mw _ (hxm ▸ List.mem_map_of_mem hx)
  have hc2 : ∀ x ∈ xc, x.2.length ≤ 1000000 := fun x hx => hg.cw _ (hxc ▸ List.mem_map_of_mem hx)
  have hs2 : ∀ x ∈ xs, x.2.wait.length ≤ 1000000 := fun x hx => hg.sw _ (hxs ▸ List.mem_map_of_mem hx)
  obtain ⟨hg1, hg2, hg3, -, -, -⟩ := hg
  refine GoC.seq ?_
  refine GoC.region ?_
  refine GoL.does rfl (Does.box rfl rfl rfl) ?_
  rintro _ _ ⟨b3, rfl, rfl⟩
  refine GoL.y rfl (Y.assign rfl) ?_
  refine GoL.nil ?_
  refine GoE.then_normal ?_
  refine GoC.seq ?_
  refine GoC.region ?_
  refine GoL.y rfl (Y.move rfl) ?_
  refine GoL.y rfl (Y.nilCheck rfl) ?_
  refine GoL.y rfl (Y.fieldAddrZ 162 Tryz.underlying167 rfl Tryz.sizeOf162 rfl) ?_
  refine GoL.y rfl (Y.load Tryz.isAgg162 rfl (Cell.a (by rfl))) ?_
  refine GoL.y rfl (Y.makeFunc rfl rfl) ?_
  refine GoL.does rfl (Does.callE rfl Tryz.call197 rfl (ContainsFuncM (A := seps [arr b3 0 [.int .i64 who], seps [sl mtxE 3 vm xm, allH (fun x => sl wtrE 2 x.1 x.2.wait) xm]]) (p := fun x => hasW x.2.wait who) (Rd.grp (Rd.at (Rd.grp (Rd.sl .here)) (.there .here))) (by omega) Tryz.call198 (fun x hx => waits_f1 (Rd.grp (rd_one (f := fun x : Value × Mtx => x.1) (g := fun x => x.2.wait) hx (.there .here))) (hm2 x hx))) .auto) ?_
  rintro _ _ ⟨⟨⟩, -, rfl, rfl⟩
  refine GoL.ungrp .auto ?_
  refine GoL.ungrp .auto ?_
  refine GoL.y rfl (Y.move rfl) ?_
  apply GoL.segO 7 18 11 [11, 12, 13, 14, 15, 16, 17, 18] rfl
  · intro h11
    refine GoL.yg rfl rfl rfl (Y.move rfl) ?_
    refine GoL.yg rfl rfl rfl (Y.nilCheck rfl) ?_
    refine GoL.yg rfl rfl rfl (Y.fieldAddr0 1 164 Tryz.underlying167 rfl Tryz.sizeOf164 rfl) ?_
    refine GoL.yg rfl rfl rfl (Y.load Tryz.isAgg164 rfl (Cell.a (by rfl))) ?_
    refine GoL.yg rfl rfl rfl (Y.makeFunc rfl rfl) ?_
    refine GoL.dg rfl rfl rfl (Does.callE rfl Tryz.call200 rfl (ContainsFuncR (A := seps [arr b3 0 [.int .i64 who], seps [sl fstE 1 vc xc, allH (fun x => sl wtrE 2 x.1 x.2) xc]]) (p := fun x => hasW x.2 who) (Rd.grp (Rd.at (Rd.grp (Rd.sl .here)) (.there .here))) (by omega) Tryz.call201 (fun x hx => waits_f2 (Rd.grp (rd_one (f := fun x : Value × List Wtr => x.1) (g := fun x => x.2) hx (.there .here))) (hc2 x hx))) .auto) ?_
    rintro _ _ ⟨⟨⟩, -, rfl, rfl⟩
    refine GoL.ungrp .auto ?_
    refine GoL.ungrp .auto ?_
    refine GoL.y rfl (Y.pickF rfl rfl) ?_
    refine GoL.nil ?_
    refine GoE.seg .auto rfl (by first | exact fun _ h => h | exact Ent.kept .auto)
  · intro h11
    refine GoL.skip rfl rfl rfl rfl ?_
    refine GoL.skip rfl rfl rfl rfl ?_
    refine GoL.skip rfl rfl rfl rfl ?_
    refine GoL.skip rfl rfl rfl rfl ?_
    refine GoL.skip rfl rfl rfl rfl ?_
    refine GoL.skip rfl rfl rfl rfl ?_
    refine GoL.y rfl (Y.pickT rfl rfl) ?_
    refine GoL.nil ?_
    refine GoE.seg .auto rfl (by first | exact fun _ h => h | exact Ent.kept .auto)
  refine GoL.y rfl (Y.move rfl) ?_
  apply GoL.segO 7 26 19 [19, 20, 21, 22, 23, 24, 25, 26] rfl
  · intro h19
    refine GoL.yg rfl rfl rfl (Y.move rfl) ?_
    refine GoL.yg rfl rfl rfl (Y.nilCheck rfl) ?_
    refine GoL.yg rfl rfl rfl (Y.fieldAddr0 2 165 Tryz.underlying167 rfl Tryz.sizeOf165 rfl) ?_
    refine GoL.yg rfl rfl rfl (Y.load Tryz.isAgg165 rfl (Cell.a (by rfl))) ?_
    refine GoL.yg rfl rfl rfl (Y.makeFunc rfl rfl) ?_
    refine GoL.dg rfl rfl rfl (Does.callE rfl Tryz.call202 rfl (ContainsFuncS (A := seps [arr b3 0 [.int .i64 who], seps [sl smpE 2 vs xs, allH (fun x => sl wtrE 2 x.1 x.2.wait) xs]]) (p := fun x => hasW x.2.wait who) (Rd.grp (Rd.at (Rd.grp (Rd.sl .here)) (.there .here))) (by omega) Tryz.call203 (fun x hx => waits_f3 (Rd.grp (rd_one (f := fun x : Value × Smp => x.1) (g := fun x => x.2.wait) hx (.there .here))) (hs2 x hx))) .auto) ?_
    rintro _ _ ⟨⟨⟩, -, rfl, rfl⟩
    refine GoL.ungrp .auto ?_
    refine GoL.ungrp .auto ?_
    refine GoL.y rfl (Y.pickF rfl rfl) ?_
    refine GoL.nil ?_
    refine GoE.seg .auto rfl (by first | exact fun _ h => h | exact Ent.kept .auto)
  · intro h19
    refine GoL.skip rfl rfl rfl rfl ?_
    refine GoL.skip rfl rfl rfl rfl ?_
    refine GoL.skip rfl rfl rfl rfl ?_
    refine GoL.skip rfl rfl rfl rfl ?_
    refine GoL.skip rfl rfl rfl rfl ?_
    refine GoL.skip rfl rfl rfl rfl ?_
    refine GoL.y rfl (Y.pickT rfl rfl) ?_
    refine GoL.nil ?_
    refine GoE.seg .auto rfl (by first | exact fun _ h => h | exact Ent.kept .auto)
  refine GoL.y rfl (Y.assign rfl) ?_
  refine GoL.nil ?_
  refine GoE.then_normal ?_
  refine GoC.ret ?_
  refine GoE.ret1 rfl rfl fun w s => ⟨(), ?_, trivial, finE .auto s⟩
  exact retB (waits_eq hxm hxc hxs)

set_option maxRecDepth 20000 in
theorem gate_mutex {W : World} {b : Nat} {l : List (Mtx)} {m : Int} {vm vc vs : Value} : Fn Tryz.prog W 153 [ptr b, .int .i64 m] [arr b 0 [vm, vc, vs], mtxsH vm l] Unit (fun _ => elP vm l.length 3 m) (fun _ => True) (fun _ => [arr b 0 [vm, vc, vs], mtxsH vm l]) := by
  refine Fn.intro (N := 26) Tryz.func153 rfl Tryz.ntmps153 rfl fun F => ?_
  show GoC _ _ _ _ _ _ [arr b 0 [vm, vc, vs], mtxsH vm l, F]
  refine GoC.o1 (C := mtxsH vm l) .auto rfl ?_
  rintro xs hxs
  have hl := map_len hxs
  refine GoC.seq ?_
  refine GoC.region ?_
  refine GoL.y rfl (Y.assign rfl) ?_
  refine GoL.nil ?_
  refine GoE.then_normal ?_
  refine GoC.seq ?_
  refine GoC.seq ?_
  refine GoC.region ?_
  refine GoL.y rfl (Y.move rfl) ?_
  refine GoL.y rfl (Y.eqPtrNil Tryz.underlying108 rfl rfl) ?_
  refine GoL.y rfl (Y.move rfl) ?_
  refine GoL.yg rfl rfl rfl (Y.move rfl) ?_
  refine GoL.yg rfl rfl rfl (Y.lss rfl rfl) ?_
  refine GoL.y rfl (Y.pickF rfl rfl) ?_
  refine GoL.y rfl (Y.move rfl) ?_
  apply GoL.segOD 8 19 11 [11, 12, 13, 14, 15, 16, 17, 18, 19] rfl
  · intro h11
    refine GoL.yg rfl rfl rfl (Y.move rfl) ?_
    refine GoL.yg rfl rfl rfl (Y.move rfl) ?_
    refine GoL.yg rfl rfl rfl (Y.nilCheck rfl) ?_
    refine GoL.yg rfl rfl rfl (Y.fieldAddrZ 162 Tryz.underlying167 rfl Tryz.sizeOf162 rfl) ?_
    refine GoL.yg rfl rfl rfl (Y.load Tryz.isAgg162 rfl (Cell.a (by rfl))) ?_
    refine GoL.yg rfl rfl rfl (Y.lenRd Tryz.underlying162 rfl Rd.s) ?_
    refine GoL.yg rfl rfl rfl (Y.geq rfl rfl) ?_
    refine GoL.y rfl (Y.pickF rfl rfl) ?_
    refine GoL.nil ?_
    refine GoE.seg .auto rfl (by first | exact fun _ h => h | exact Ent.kept .auto)
  · intro h11
    refine GoL.skip rfl rfl rfl rfl ?_
    refine GoL.skip rfl rfl rfl rfl ?_
    refine GoL.skip rfl rfl rfl rfl ?_
    refine GoL.skip rfl rfl rfl rfl ?_
    refine GoL.skip rfl rfl rfl rfl ?_
    refine GoL.skip rfl rfl rfl rfl ?_
    refine GoL.skip rfl rfl rfl rfl ?_
    refine GoL.y rfl (Y.pickT rfl rfl) ?_
    refine GoL.nil ?_
    refine GoE.seg .auto rfl (by first | exact fun _ h => h | exact Ent.kept .auto)
  refine GoL.nil ?_
  refine GoE.then_normal ?_
  refine GoC.cond rfl (fun h19 => ?_) (fun h19 => ?_)
  · simp only [Bool.and_eq_true, Bool.or_eq_true, Bool.and_eq_false_iff, Bool.or_eq_false_iff, decide_eq_true_eq, decide_eq_false_iff_not, Bool.not_eq_true', Bool.not_eq_false'] at h19
    refine GoC.seq ?_
    refine GoC.region ?_
    refine GoL.y rfl (Y.assign rfl) ?_
    refine GoL.nil ?_
    refine GoE.then_normal ?_
    refine GoC.ret ?_
    refine GoE.then_ret ?_
    refine GoE.ret1 rfl rfl fun w s => ⟨(), ?_, trivial, finE .auto s⟩
    rw [elP_nil (by omega)]
  · simp only [Bool.and_eq_true, Bool.or_eq_true, Bool.and_eq_false_iff, Bool.or_eq_false_iff, decide_eq_true_eq, decide_eq_false_iff_not, Bool.not_eq_true', Bool.not_eq_false'] at h19
    refine GoC.skip ?_
    refine GoE.then_normal ?_
    refine GoC.seq ?_
    refine GoC.region ?_
    refine GoL.y rfl (Y.move rfl) ?_
    refine GoL.y rfl (Y.nilCheck rfl) ?_
    refine GoL.y rfl (Y.fieldAddrZ 162 Tryz.underlying167 rfl Tryz.sizeOf162 rfl) ?_
    refine GoL.y rfl (Y.load Tryz.isAgg162 rfl (Cell.a (by rfl))) ?_
    refine GoL.y rfl (Y.move rfl) ?_
    refine GoL.y rfl (Y.ixRd m.toNat Tryz.underlying162 Tryz.sizeOf233 rfl rfl Rd.s (by omega) (by omega)) ?_
    refine GoL.y rfl (Y.assign rfl) ?_
    refine GoL.nil ?_
    refine GoE.then_normal ?_
    refine GoC.ret ?_
    refine GoE.ret1 rfl rfl fun w s => ⟨(), ?_, trivial, finE .auto s⟩
    rw [elP_some (by omega)]

set_option maxRecDepth 20000 in
theorem gate_cond {W : World} {b : Nat} {l : List (List Wtr)} {m : Int} {vm vc vs : Value} : Fn Tryz.prog W 126 [ptr b, .int .i64 m] [arr b 0 [vm, vc, vs], cndsH vc l] Unit (fun _ => elP vc l.length 1 m) (fun _ => True) (fun _ => [arr b 0 [vm, vc, vs], cndsH vc l]) := by
  refine Fn.intro (N := 26) Tryz.func126 rfl Tryz.ntmps126 rfl fun F => ?_
  show GoC _ _ _ _ _ _ [arr b 0 [vm, vc, vs], cndsH vc l, F]
  refine GoC.o1 (C := cndsH vc l) .auto rfl ?_
  rintro xs hxs
  have hl := map_len hxs
  refine GoC.seq ?_
  refine GoC.region ?_
  refine GoL.y rfl (Y.assign rfl) ?_
  refine GoL.nil ?_
  refine GoE.then_normal ?_
  refine GoC.seq ?_
  refine GoC.seq ?_
  refine GoC.region ?_
  refine GoL.y rfl (Y.move rfl) ?_
  refine GoL.y rfl (Y.eqPtrNil Tryz.underlying108 rfl rfl) ?_
  refine GoL.y rfl (Y.move rfl) ?_
  refine GoL.yg rfl rfl rfl (Y.move rfl) ?_
  refine GoL.yg rfl rfl rfl (Y.lss rfl rfl) ?_
  refine GoL.y rfl (Y.pickF rfl rfl) ?_
  refine GoL.y rfl (Y.move rfl) ?_
  apply GoL.segOD 8 19 11 [11, 12, 13, 14, 15, 16, 17, 18, 19] rfl
  · intro h11
    refine GoL.yg rfl rfl rfl (Y.move rfl) ?_
    refine GoL.yg rfl rfl rfl (Y.move rfl) ?_
    refine GoL.yg rfl rfl rfl (Y.nilCheck rfl) ?_
    refine GoL.yg rfl rfl rfl (Y.fieldAddr0 1 164 Tryz.underlying167 rfl Tryz.sizeOf164 rfl) ?_
    refine GoL.yg rfl rfl rfl (Y.load Tryz.isAgg164 rfl (Cell.a (by rfl))) ?_
    refine GoL.yg rfl rfl rfl (Y.lenRd Tryz.underlying164 rfl Rd.s) ?_
    refine GoL.yg rfl rfl rfl (Y.geq rfl rfl) ?_
    refine GoL.y rfl (Y.pickF rfl rfl) ?_
    refine GoL.nil ?_
    refine GoE.seg .auto rfl (by first | exact fun _ h => h | exact Ent.kept .auto)
  · intro h11
    refine GoL.skip rfl rfl rfl rfl ?_
    refine GoL.skip rfl rfl rfl rfl ?_
    refine GoL.skip rfl rfl rfl rfl ?_
    refine GoL.skip rfl rfl rfl rfl ?_
    refine GoL.skip rfl rfl rfl rfl ?_
    refine GoL.skip rfl rfl rfl rfl ?_
    refine GoL.skip rfl rfl rfl rfl ?_
    refine GoL.y rfl (Y.pickT rfl rfl) ?_
    refine GoL.nil ?_
    refine GoE.seg .auto rfl (by first | exact fun _ h => h | exact Ent.kept .auto)
  refine GoL.nil ?_
  refine GoE.then_normal ?_
  refine GoC.cond rfl (fun h19 => ?_) (fun h19 => ?_)
  · simp only [Bool.and_eq_true, Bool.or_eq_true, Bool.and_eq_false_iff, Bool.or_eq_false_iff, decide_eq_true_eq, decide_eq_false_iff_not, Bool.not_eq_true', Bool.not_eq_false'] at h19
    refine GoC.seq ?_
    refine GoC.region ?_
    refine GoL.y rfl (Y.assign rfl) ?_
    refine GoL.nil ?_
    refine GoE.then_normal ?_
    refine GoC.ret ?_
    refine GoE.then_ret ?_
    refine GoE.ret1 rfl rfl fun w s => ⟨(), ?_, trivial, finE .auto s⟩
    rw [elP_nil (by omega)]
  · simp only [Bool.and_eq_true, Bool.or_eq_true, Bool.and_eq_false_iff, Bool.or_eq_false_iff, decide_eq_true_eq, decide_eq_false_iff_not, Bool.not_eq_true', Bool.not_eq_false'] at h19
    refine GoC.skip ?_
    refine GoE.then_normal ?_
    refine GoC.seq ?_
    refine GoC.region ?_
    refine GoL.y rfl (Y.move rfl) ?_
    refine GoL.y rfl (Y.nilCheck rfl) ?_
    refine GoL.y rfl (Y.fieldAddr0 1 164 Tryz.underlying167 rfl Tryz.sizeOf164 rfl) ?_
    refine GoL.y rfl (Y.load Tryz.isAgg164 rfl (Cell.a (by rfl))) ?_
    refine GoL.y rfl (Y.move rfl) ?_
    refine GoL.y rfl (Y.ixRd m.toNat Tryz.underlying164 Tryz.sizeOf170 rfl rfl Rd.s (by omega) (by omega)) ?_
    refine GoL.y rfl (Y.assign rfl) ?_
    refine GoL.nil ?_
    refine GoE.then_normal ?_
    refine GoC.ret ?_
    refine GoE.ret1 rfl rfl fun w s => ⟨(), ?_, trivial, finE .auto s⟩
    rw [elP_some (by omega)]

set_option maxRecDepth 20000 in
theorem gate_sem {W : World} {b : Nat} {l : List (Smp)} {m : Int} {vm vc vs : Value} : Fn Tryz.prog W 160 [ptr b, .int .i64 m] [arr b 0 [vm, vc, vs], smpsH vs l] Unit (fun _ => elP vs l.length 2 m) (fun _ => True) (fun _ => [arr b 0 [vm, vc, vs], smpsH vs l]) := by
  refine Fn.intro (N := 26) Tryz.func160 rfl Tryz.ntmps160 rfl fun F => ?_
  show GoC _ _ _ _ _ _ [arr b 0 [vm, vc, vs], smpsH vs l, F]
  refine GoC.o1 (C := smpsH vs l) .auto rfl ?_
  rintro xs hxs
  have hl := map_len hxs
  refine GoC.seq ?_
  refine GoC.region ?_
  refine GoL.y rfl (Y.assign rfl) ?_
  refine GoL.nil ?_
  refine GoE.then_normal ?_
  refine GoC.seq ?_
  refine GoC.seq ?_
  refine GoC.region ?_
  refine GoL.y rfl (Y.move rfl) ?_
  refine GoL.y rfl (Y.eqPtrNil Tryz.underlying108 rfl rfl) ?_
  refine GoL.y rfl (Y.move rfl) ?_
  refine GoL.yg rfl rfl rfl (Y.move rfl) ?_
  refine GoL.yg rfl rfl rfl (Y.lss rfl rfl) ?_
  refine GoL.y rfl (Y.pickF rfl rfl) ?_
  refine GoL.y rfl (Y.move rfl) ?_
  apply GoL.segOD 8 19 11 [11, 12, 13, 14, 15, 16, 17, 18, 19] rfl
  · intro h11
    refine GoL.yg rfl rfl rfl (Y.move rfl) ?_
    refine GoL.yg rfl rfl rfl (Y.move rfl) ?_
    refine GoL.yg rfl rfl rfl (Y.nilCheck rfl) ?_
    refine GoL.yg rfl rfl rfl (Y.fieldAddr0 2 165 Tryz.underlying167 rfl Tryz.sizeOf165 rfl) ?_
    refine GoL.yg rfl rfl rfl (Y.load Tryz.isAgg165 rfl (Cell.a (by rfl))) ?_
    refine GoL.yg rfl rfl rfl (Y.lenRd Tryz.underlying165 rfl Rd.s) ?_
    refine GoL.yg rfl rfl rfl (Y.geq rfl rfl) ?_
    refine GoL.y rfl (Y.pickF rfl rfl) ?_
    refine GoL.nil ?_
    refine GoE.seg .auto rfl (by first | exact fun _ h => h | exact Ent.kept .auto)
  · intro h11
    refine GoL.skip rfl rfl rfl rfl ?_
    refine GoL.skip rfl rfl rfl rfl ?_
    refine GoL.skip rfl rfl rfl rfl ?_
    refine GoL.skip rfl rfl rfl rfl ?_
    refine GoL.skip rfl rfl rfl rfl ?_
    refine GoL.skip rfl rfl rfl rfl ?_
    refine GoL.skip rfl rfl rfl rfl ?_
    refine GoL.y rfl (Y.pickT rfl rfl) ?_
    refine GoL.nil ?_
    refine GoE.seg .auto rfl (by first | exact fun _ h => h | exact Ent.kept .auto)
  refine GoL.nil ?_
  refine GoE.then_normal ?_
  refine GoC.cond rfl (fun h19 => ?_) (fun h19 => ?_)
  · simp only [Bool.and_eq_true, Bool.or_eq_true, Bool.and_eq_false_iff, Bool.or_eq_false_iff, decide_eq_true_eq, decide_eq_false_iff_not, Bool.not_eq_true', Bool.not_eq_false'] at h19
    refine GoC.seq ?_
    refine GoC.region ?_
    refine GoL.y rfl (Y.assign rfl) ?_
    refine GoL.nil ?_
    refine GoE.then_normal ?_
    refine GoC.ret ?_
    refine GoE.then_ret ?_
    refine GoE.ret1 rfl rfl fun w s => ⟨(), ?_, trivial, finE .auto s⟩
    rw [elP_nil (by omega)]
  · simp only [Bool.and_eq_true, Bool.or_eq_true, Bool.and_eq_false_iff, Bool.or_eq_false_iff, decide_eq_true_eq, decide_eq_false_iff_not, Bool.not_eq_true', Bool.not_eq_false'] at h19
    refine GoC.skip ?_
    refine GoE.then_normal ?_
    refine GoC.seq ?_
    refine GoC.region ?_
    refine GoL.y rfl (Y.move rfl) ?_
    refine GoL.y rfl (Y.nilCheck rfl) ?_
    refine GoL.y rfl (Y.fieldAddr0 2 165 Tryz.underlying167 rfl Tryz.sizeOf165 rfl) ?_
    refine GoL.y rfl (Y.load Tryz.isAgg165 rfl (Cell.a (by rfl))) ?_
    refine GoL.y rfl (Y.move rfl) ?_
    refine GoL.y rfl (Y.ixRd m.toNat Tryz.underlying165 Tryz.sizeOf172 rfl rfl Rd.s (by omega) (by omega)) ?_
    refine GoL.y rfl (Y.assign rfl) ?_
    refine GoL.nil ?_
    refine GoE.then_normal ?_
    refine GoC.ret ?_
    refine GoE.ret1 rfl rfl fun w s => ⟨(), ?_, trivial, finE .auto s⟩
    rw [elP_some (by omega)]

set_option maxRecDepth 20000 in
theorem row_add {W : World} {b o : Nat} {l : List Wtr} {x : Wtr} (hl : l.length ≤ 100000000) : Fn Tryz.prog W 157 [.pointer (some ⟨b, o, none⟩), .agg (wtrE x).toArray] [rowH b o l] Unit (fun _ => .tuple #[]) (fun _ => True) (fun _ => [rowH b o (l ++ [x])]) := by
  refine Fn.intro (N := 14) Tryz.func157 rfl Tryz.ntmps157 rfl fun F => ?_
  show GoC _ _ _ _ _ _ [rowH b o l, F]
  refine GoC.o1 (C := rowH b o l) .auto rfl ?_
  rintro v -
  refine GoC.seq ?_
  refine GoC.region ?_
  refine GoL.does rfl (Does.box rfl rfl rfl) ?_
  rintro _ _ ⟨b3, rfl, rfl⟩
  refine GoL.mem (H' := [arr b3 0 (wtrE x), arr b o [v], sl wtrE 2 v l, F]) (fun w s => s) ?_
  refine GoL.nil ?_
  refine GoE.then_normal ?_
  refine GoC.draw [arr b o [v]] [0, 0, 0, 0, 0, 1, 2, 2, 1, 1, 3] rfl (by kernel_rfl) ?_
  refine GoK.k rfl Kept.auto (Y.move rfl) ?_
  refine GoK.k rfl Kept.auto (Y.move rfl) ?_
  refine GoK.k rfl Kept.auto (Y.nilCheck rfl) ?_
  refine GoK.k rfl Kept.auto (Y.fieldAddrZ 168 Tryz.underlying170 rfl Tryz.sizeOf168 rfl) ?_
  refine GoK.k rfl Kept.auto (Y.load Tryz.isAgg168 rfl (Cell.az (by rfl))) ?_
  refine GoK.s rfl (Y.lda Tryz.isAgg229 rfl Cells.a (by exact Tryz.sizeOf229)) ?_
  refine GoK.d2 rfl Kept.auto (Does.bsl 229 rfl rfl (by kernel_rfl)) (by rintro _ _ ⟨b10, rfl, rfl⟩; exact Kept.auto) ?_
  rintro _ _ ⟨b10, rfl, rfl⟩
  refine GoK.mem (H' := [arr b10 0 (wtrE x), arr b3 0 (wtrE x), arr b o [v], sl wtrE 2 v l, F]) (fun w s => s) ?_
  refine GoK.d2 rfl Kept.auto (Does.app1 (enc := wtrE) (k := 2) x rfl Tryz.underlying168 Tryz.underlying168 Tryz.typeInfo229 rfl rfl rfl (by decide) rfl rfl rfl .auto rfl .auto (by omega) rfl) (by rintro _ _ ⟨v11, rfl, rfl⟩; exact Kept.auto) ?_
  rintro _ _ ⟨v11, rfl, rfl⟩
  refine GoK.s rfl (Y.nilCheck rfl) ?_
  refine GoK.s rfl (Y.fieldAddrZ 168 Tryz.underlying170 rfl Tryz.sizeOf168 rfl) ?_
  refine GoK.d3 rfl (Does.stzS Tryz.sizeOf168 rfl rfl rfl) ?_
  rintro _ _ ⟨rfl, rfl⟩
  refine GoK.nil ?_
  refine GoE.end0 rfl fun w s => ⟨(), ?_, trivial, finE .auto s⟩
  rfl

set_option maxRecDepth 20000 in
theorem row_take {W : World} {b o : Nat} {l : List Wtr} {c : Int} (hl : l.length ≤ 1000000) : Fn Tryz.prog W 127 [.pointer (some ⟨b, o, none⟩), .int .i64 c] [rowH b o l] Unit (fun _ => .tuple #[.agg (wtrE (takeW l c).1).toArray, .bool (takeW l c).2.1]) (fun _ => True) (fun _ => [rowH b o (takeW l c).2.2]) := by
  refine Fn.intro (N := 43) Tryz.func127 rfl Tryz.ntmps127 rfl fun F => ?_
  show GoC _ _ _ _ _ _ [rowH b o l, F]
  refine GoC.o1 (C := rowH b o l) .auto rfl ?_
  rintro v -
  refine GoC.seq ?_
  refine GoC.region ?_
  refine GoL.does rfl (Does.alloc rfl Tryz.zeroValue229 rfl) ?_
  rintro _ _ ⟨b4, rfl, rfl⟩
  refine GoL.y rfl (Y.assign rfl) ?_
  refine GoL.nil ?_
  refine GoE.then_normal ?_
  refine GoC.seq ?_
  refine GoC.region ?_
  refine GoL.y rfl (Y.move rfl) ?_
  refine GoL.y rfl (Y.nilCheck rfl) ?_
  refine GoL.y rfl (Y.fieldAddrZ 168 Tryz.underlying170 rfl Tryz.sizeOf168 rfl) ?_
  refine GoL.y rfl (Y.load Tryz.isAgg168 rfl (Cell.az (by rfl))) ?_
  refine GoL.y rfl (Y.lenRd Tryz.underlying168 rfl Rd.s) ?_
  refine GoL.y rfl (Y.assign rfl) ?_
  refine GoL.nil ?_
  refine GoE.then_normal ?_
  refine GoC.seq ?_
  refine GoC.seq ?_
  refine GoC.region ?_
  refine GoL.y rfl (Y.move rfl) ?_
  refine GoL.y rfl (Y.eql rfl rfl) ?_
  refine GoL.nil ?_
  refine GoE.then_normal ?_
  refine GoC.condD rfl (fun h15 => ?_) (fun h15 => ?_)
  · refine GoC.seq ?_
    refine GoC.region ?_
    refine GoL.y rfl (Y.bld0 ([(.int .i64 0), (.int .i64 0)]) (by kernel_rfl)) ?_
    refine GoL.does rfl (Does.sta (by exact Tryz.sizeOf229) rfl rfl rfl (by rfl)) ?_
    rintro _ _ ⟨rfl, rfl⟩
    refine GoL.y rfl (Y.assign rfl) ?_
    refine GoL.nil ?_
    refine GoE.then_normal ?_
    refine GoC.ret ?_
    refine GoE.then_ret ?_
    rw [take_no (show l.length = 0 by omega)]
    refine GoE.retCT rfl rfl Tryz.isAgg229 (by exact Tryz.sizeOf229) Cells.a rfl fun w s => ⟨(), ?_, trivial, finE .auto s⟩
    rfl
  · refine GoC.skip ?_
    refine GoE.then_normal ?_
    refine GoC.seq ?_
    refine GoC.region ?_
    have hpk : pick c l.length < l.length := pick_lt (by omega)
    refine GoL.y rfl (Y.move rfl) ?_
    refine GoL.y rfl (Y.move rfl) ?_
    refine GoL.y rfl (Y.rem rfl rfl (by omega)) ?_
    refine GoL.y rfl (Y.move rfl) ?_
    refine GoL.y rfl (Y.add rfl rfl (pick_bd (by omega) (by omega))) ?_
    refine GoL.y rfl (Y.move rfl) ?_
    refine GoL.y rfl (Y.valW (Y.rem rfl rfl (by omega)) (pick_int (by omega))) ?_
    refine GoL.y rfl (Y.assign rfl) ?_
    refine GoL.nil ?_
    refine GoE.then_normal ?_
    refine GoC.seq ?_
    refine GoC.region ?_
    refine GoL.y rfl (Y.move rfl) ?_
    refine GoL.y rfl (Y.nilCheck rfl) ?_
    refine GoL.y rfl (Y.fieldAddrZ 168 Tryz.underlying170 rfl Tryz.sizeOf168 rfl) ?_
    refine GoL.y rfl (Y.load Tryz.isAgg168 rfl (Cell.az (by rfl))) ?_
    refine GoL.y rfl (Y.move rfl) ?_
    refine GoL.y rfl (Y.ixRd (pick c l.length) Tryz.underlying168 Tryz.sizeOf229 rfl rfl Rd.s rfl hpk) ?_
    refine GoL.y rfl (Y.lda Tryz.isAgg229 rfl (Cells.rd Rd.s (getD_some (d := ⟨0, 0⟩) hpk)) (by exact Tryz.sizeOf229)) ?_
    refine GoL.does rfl (Does.alloc rfl Tryz.zeroValue229 rfl) ?_
    rintro _ _ ⟨b8, rfl, rfl⟩
    refine GoL.does rfl (Does.sta (by exact Tryz.sizeOf229) rfl rfl rfl (by rfl)) ?_
    rintro _ _ ⟨rfl, rfl⟩
    refine GoL.nil ?_
    refine GoE.then_normal ?_
    refine GoC.seq ?_
    refine GoC.region ?_
    refine GoL.y rfl (Y.move rfl) ?_
    refine GoL.y rfl (Y.move rfl) ?_
    refine GoL.y rfl (Y.nilCheck rfl) ?_
    refine GoL.y rfl (Y.fieldAddrZ 168 Tryz.underlying170 rfl Tryz.sizeOf168 rfl) ?_
    refine GoL.y rfl (Y.load Tryz.isAgg168 rfl (Cell.az (by rfl))) ?_
    refine GoL.y rfl (Y.move rfl) ?_
    refine GoL.y rfl (Y.move rfl) ?_
    refine GoL.y rfl (Y.inc rfl rfl (by omega)) ?_
    refine GoL.does rfl (Does.callE rfl Tryz.call158 rfl (DeleteG hpk (by omega)) .auto) ?_
    rintro _ _ ⟨u39, -, rfl, rfl⟩
    refine GoL.y rfl (Y.nilCheck rfl) ?_
    refine GoL.y rfl (Y.fieldAddrZ 168 Tryz.underlying170 rfl Tryz.sizeOf168 rfl) ?_
    refine GoL.does rfl (Does.stzS Tryz.sizeOf168 rfl rfl rfl) ?_
    rintro _ _ ⟨rfl, rfl⟩
    refine GoL.nil ?_
    refine GoE.then_normal ?_
    refine GoC.seq ?_
    refine GoC.region ?_
    refine GoL.y rfl (Y.lda Tryz.isAgg229 rfl Cells.a (by exact Tryz.sizeOf229)) ?_
    refine GoL.does rfl (Does.sta (by exact Tryz.sizeOf229) rfl rfl rfl (by rfl)) ?_
    rintro _ _ ⟨rfl, rfl⟩
    refine GoL.y rfl (Y.assign rfl) ?_
    refine GoL.nil ?_
    refine GoE.then_normal ?_
    refine GoC.ret ?_
    rw [take_ok (show ¬ l.length = 0 by omega)]
    refine GoE.retCT rfl rfl Tryz.isAgg229 (by exact Tryz.sizeOf229) Cells.a rfl fun w s => ⟨(), ?_, trivial, finE .auto s⟩
    rfl

set_option maxRecDepth 20000 in
theorem mutex_is {W : World} {b o : Nat} {m : Mtx} {who : Int} : Fn Tryz.prog W 155 [.pointer (some ⟨b, o, none⟩), .int .i64 who] [mtxAt b o m] Unit (fun _ => .bool (m.is who)) (fun _ => True) (fun _ => [mtxAt b o m]) := by
  refine Fn.intro (N := 17) Tryz.func155 rfl Tryz.ntmps155 rfl fun F => ?_
  show GoC _ _ _ _ _ _ [mtxAt b o m, F]
  refine GoC.o1 (C := mtxAt b o m) .auto rfl ?_
  rintro u -
  refine GoC.seq ?_
  refine GoC.region ?_
  refine GoL.y rfl (Y.assign rfl) ?_
  refine GoL.nil ?_
  refine GoE.then_normal ?_
  refine GoC.seq ?_
  refine GoC.region ?_
  refine GoL.y rfl (Y.move rfl) ?_
  refine GoL.y rfl (Y.nilCheck rfl) ?_
  refine GoL.y rfl (Y.fieldAddr 1 4 Tryz.underlying233 rfl Tryz.sizeOf4 rfl) ?_
  refine GoL.y rfl (Y.load Tryz.isAgg4 rfl (Cell.ao (by rfl))) ?_
  refine GoL.y rfl (Y.move rfl) ?_
  apply GoL.segA 7 16 9 [9, 10, 11, 12, 13, 14, 15, 16] rfl
  · intro h9
    refine GoL.yg rfl rfl rfl (Y.move rfl) ?_
    refine GoL.yg rfl rfl rfl (Y.nilCheck rfl) ?_
    refine GoL.yg rfl rfl rfl (Y.fieldAddr 2 3 Tryz.underlying233 rfl Tryz.sizeOf3 rfl) ?_
    refine GoL.yg rfl rfl rfl (Y.load Tryz.isAgg3 rfl (Cell.ao (by rfl))) ?_
    refine GoL.yg rfl rfl rfl (Y.move rfl) ?_
    refine GoL.yg rfl rfl rfl (Y.eql rfl rfl) ?_
    refine GoL.y rfl (Y.pickT rfl rfl) ?_
    refine GoL.nil ?_
    refine GoE.seg .auto rfl (by first | exact fun _ h => h | exact Ent.kept .auto)
  · intro h9
    refine GoL.skip rfl rfl rfl rfl ?_
    refine GoL.skip rfl rfl rfl rfl ?_
    refine GoL.skip rfl rfl rfl rfl ?_
    refine GoL.skip rfl rfl rfl rfl ?_
    refine GoL.skip rfl rfl rfl rfl ?_
    refine GoL.skip rfl rfl rfl rfl ?_
    refine GoL.y rfl (Y.pickF rfl rfl) ?_
    refine GoL.nil ?_
    refine GoE.seg .auto rfl (by first | exact fun _ h => h | exact Ent.kept .auto)
  refine GoL.y rfl (Y.assign rfl) ?_
  refine GoL.nil ?_
  refine GoE.then_normal ?_
  refine GoC.ret ?_
  refine GoE.ret1 rfl rfl fun w s => ⟨(), ?_, trivial, finE .auto s⟩
  rfl

set_option maxRecDepth 20000 in
theorem mutex_lock {W : World} {b o : Nat} {m : Mtx} {who : Int} (hl : m.wait.length ≤ 100000000) : Fn Tryz.prog W 128 [.pointer (some ⟨b, o, none⟩), .int .i64 who] [mtxAt b o m] Unit (fun _ => .bool (m.lock who).1) (fun _ => True) (fun _ => [mtxAt b o (m.lock who).2]) := by
  refine Fn.intro (N := 22) Tryz.func128 rfl Tryz.ntmps128 rfl fun F => ?_
  show GoC _ _ _ _ _ _ [mtxAt b o m, F]
  refine GoC.o1 (C := mtxAt b o m) .auto rfl ?_
  rintro u -
  refine GoC.seq ?_
  refine GoC.region ?_
  refine GoL.y rfl (Y.assign rfl) ?_
  refine GoL.nil ?_
  refine GoE.then_normal ?_
  refine GoC.seq ?_
  refine GoC.seq ?_
  refine GoC.region ?_
  refine GoL.y rfl (Y.move rfl) ?_
  refine GoL.y rfl (Y.nilCheck rfl) ?_
  refine GoL.y rfl (Y.fieldAddr 1 4 Tryz.underlying233 rfl Tryz.sizeOf4 rfl) ?_
  refine GoL.y rfl (Y.load Tryz.isAgg4 rfl (Cell.ao (by rfl))) ?_
  refine GoL.nil ?_
  refine GoE.then_normal ?_
  refine GoC.cond rfl (fun h8 => ?_) (fun h8 => ?_)
  · refine GoC.seq ?_
    refine GoC.region ?_
    refine GoL.y rfl (Y.move rfl) ?_
    refine GoL.y rfl (Y.nilCheck rfl) ?_
    refine GoL.y rfl (Y.fieldAddrZ 170 Tryz.underlying233 rfl Tryz.sizeOf170 rfl) ?_
    refine GoL.y rfl (Y.move rfl) ?_
    refine GoL.y rfl (Y.bld1 (fun v1 => [v1, (.int .i64 0)]) rfl (by kernel_rfl)) ?_
    refine GoL.fr .auto (arr_cut1 (b := b) (o := o) (u := u)) ?_
    refine GoL.does rfl (Does.callE rfl Tryz.call157 rfl (row_add (x := ⟨who, 0⟩) hl) .auto) ?_
    rintro _ _ ⟨⟨⟩, -, rfl, rfl⟩
    refine GoL.nil ?_
    refine GoE.then_normal ?_
    refine GoC.seq ?_
    refine GoC.region ?_
    refine GoL.y rfl (Y.assign rfl) ?_
    refine GoL.nil ?_
    refine GoE.then_normal ?_
    refine GoC.ret ?_
    refine GoE.then_ret ?_
    rw [lock_no h8]
    refine GoE.to (A := mtxAt b o { m with wait := m.wait ++ [⟨who, 0⟩] }) (Bs := [rowH b o (m.wait ++ [⟨who, 0⟩]), arr b (o + 1) [.bool m.held, .int .i64 m.owner]]) .auto (row_mtx (m := { m with wait := m.wait ++ [⟨who, 0⟩] })) ?_
    refine GoE.ret1 rfl rfl fun w s => ⟨(), ?_, trivial, finE .auto s⟩
    rfl
  · refine GoC.skip ?_
    refine GoE.then_normal ?_
    refine GoC.seq ?_
    refine GoC.region ?_
    refine GoL.y rfl (Y.move rfl) ?_
    refine GoL.y rfl (Y.move rfl) ?_
    refine GoL.y rfl (Y.move rfl) ?_
    refine GoL.y rfl (Y.nilCheck rfl) ?_
    refine GoL.y rfl (Y.fieldAddr 1 4 Tryz.underlying233 rfl Tryz.sizeOf4 rfl) ?_
    refine GoL.does rfl (Does.sto Tryz.sizeOf4 rfl rfl rfl rfl) ?_
    rintro _ _ ⟨rfl, rfl⟩
    refine GoL.y rfl (Y.nilCheck rfl) ?_
    refine GoL.y rfl (Y.fieldAddr 2 3 Tryz.underlying233 rfl Tryz.sizeOf3 rfl) ?_
    refine GoL.does rfl (Does.sto Tryz.sizeOf3 rfl rfl rfl rfl) ?_
    rintro _ _ ⟨rfl, rfl⟩
    refine GoL.nil ?_
    refine GoE.then_normal ?_
    refine GoC.seq ?_
    refine GoC.region ?_
    refine GoL.y rfl (Y.assign rfl) ?_
    refine GoL.nil ?_
    refine GoE.then_normal ?_
    refine GoC.ret ?_
    rw [lock_ok h8]
    refine GoE.ret1 rfl rfl fun w s => ⟨(), ?_, trivial, finE .auto s⟩
    rfl

set_option maxRecDepth 20000 in
theorem mutex_unlock {W : World} {b o : Nat} {m : Mtx} {c : Int} (hl : m.wait.length ≤ 1000000) : Fn Tryz.prog W 156 [.pointer (some ⟨b, o, none⟩), .int .i64 c] [mtxAt b o m] Unit (fun _ => .tuple #[.int .i64 (m.unlock c).1, .bool (m.unlock c).2.1]) (fun _ => True) (fun _ => [mtxAt b o (m.unlock c).2.2]) := by
  refine Fn.intro (N := 28) Tryz.func156 rfl Tryz.ntmps156 rfl fun F => ?_
  show GoC _ _ _ _ _ _ [mtxAt b o m, F]
  refine GoC.o1 (C := mtxAt b o m) .auto rfl ?_
  rintro u -
  refine GoC.seq ?_
  refine GoC.region ?_
  refine GoL.y rfl (Y.assign rfl) ?_
  refine GoL.y rfl (Y.assign rfl) ?_
  refine GoL.nil ?_
  refine GoE.then_normal ?_
  refine GoC.seq ?_
  refine GoC.region ?_
  refine GoL.y rfl (Y.move rfl) ?_
  refine GoL.y rfl (Y.nilCheck rfl) ?_
  refine GoL.y rfl (Y.fieldAddrZ 170 Tryz.underlying233 rfl Tryz.sizeOf170 rfl) ?_
  refine GoL.y rfl (Y.move rfl) ?_
  refine GoL.fr .auto (arr_cut1 (b := b) (o := o) (u := u)) ?_
  refine GoL.does rfl (Does.callE rfl Tryz.call127 rfl (row_take hl) .auto) ?_
  rintro _ _ ⟨⟨⟩, -, rfl, rfl⟩
  refine GoL.y rfl (Y.move rfl) ?_
  refine GoL.y rfl (Y.extract rfl rfl) ?_
  refine GoL.y rfl (Y.extract rfl rfl) ?_
  refine GoL.does rfl (Does.alloc rfl Tryz.zeroValue229 rfl) ?_
  rintro _ _ ⟨b6, rfl, rfl⟩
  refine GoL.does rfl (Does.sta (by exact Tryz.sizeOf229) rfl rfl rfl (by rfl)) ?_
  rintro _ _ ⟨rfl, rfl⟩
  refine GoL.y rfl (Y.assign rfl) ?_
  refine GoL.nil ?_
  refine GoE.then_normal ?_
  refine GoC.seq ?_
  refine GoC.draw [arr b6 0 (wtrE (takeW m.wait c).1)] [1, 0, 1, 0, 0, 1, 1, 2, 1, 1, 3] rfl (by kernel_rfl) ?_
  refine GoK.s rfl (Y.move rfl) ?_
  refine GoK.k rfl Kept.auto (Y.move rfl) ?_
  refine GoK.s rfl (Y.move rfl) ?_
  refine GoK.k rfl Kept.auto (Y.fieldAddrZ 3 Tryz.underlying229 rfl Tryz.sizeOf3 rfl) ?_
  refine GoK.k rfl Kept.auto (Y.load Tryz.isAgg3 rfl (Cell.a (by rfl))) ?_
  refine GoK.s rfl (Y.nilCheck rfl) ?_
  refine GoK.s rfl (Y.fieldAddr 1 4 Tryz.underlying233 rfl Tryz.sizeOf4 rfl) ?_
  refine GoK.d2 rfl Kept.auto (Does.stz Tryz.sizeOf4 rfl rfl rfl rfl) (by rintro _ _ ⟨rfl, rfl⟩; exact Kept.auto) ?_
  rintro _ _ ⟨rfl, rfl⟩
  refine GoK.s rfl (Y.nilCheck rfl) ?_
  refine GoK.s rfl (Y.fieldAddr 2 3 Tryz.underlying233 rfl Tryz.sizeOf3 rfl) ?_
  refine GoK.d3 rfl (Does.sto (i := 1) Tryz.sizeOf3 rfl rfl rfl rfl) ?_
  rintro _ _ ⟨rfl, rfl⟩
  refine GoK.nil ?_
  refine GoE.then_normal ?_
  refine GoC.seq ?_
  refine GoC.region ?_
  refine GoL.y rfl (Y.fieldAddrZ 3 Tryz.underlying229 rfl Tryz.sizeOf3 rfl) ?_
  refine GoL.y rfl (Y.load Tryz.isAgg3 rfl (Cell.a (by rfl))) ?_
  refine GoL.y rfl (Y.move rfl) ?_
  refine GoL.y rfl (Y.assign rfl) ?_
  refine GoL.y rfl (Y.assign rfl) ?_
  refine GoL.nil ?_
  refine GoE.then_normal ?_
  refine GoC.ret ?_
  refine GoE.to (A := mtxAt b o (m.unlock c).2.2) (Bs := [rowH b o (takeW m.wait c).2.2, arr b (o + 1) [.bool (takeW m.wait c).2.1, .int .i64 (takeW m.wait c).1.who]]) .auto (row_mtx (m := (m.unlock c).2.2)) ?_
  refine GoE.ret2 rfl rfl rfl fun w s => ⟨(), ?_, trivial, finE .auto s⟩
  rfl

end Go.SLYtpcjdohmjmeehaaGreat
namespace Go.SLYtpcjdohmjmeehaaGreat
open Go Go.RowKit

structure EnvD (N : Nat) (L : List (Nat × Option Value)) (D : List Deferred) (a : Act) : Prop where
  size : a.tmps.size = N
  get : ∀ k v, look L k = some v → a.tmps[k]? = some v
  defers : a.defers = D
theorem EnvD.env {N : Nat} {L : List (Nat × Option Value)} {D : List Deferred} {a : Act} (h : EnvD N L D a) : Env N L (withD a []) := ⟨h.size, h.get, rfl⟩
theorem eval_withD (a : Act) (ds : List Deferred) : (withD a ds).eval = a.eval := by funext x; cases x <;> rfl
theorem EnvD.put {N : Nat} {L : List (Nat × Option Value)} {D : List Deferred} {a : Act} (h : EnvD N L D a) {d : Nat} (hd : d < N) (v : Value) : EnvD N ((d, some v) :: L) D (a.put (some d) v) :=
  ⟨(h.env.put hd v).size, (h.env.put hd v).get, h.defers⟩

section
variable {P : Program} {W : World} {N : Nat} {Q : Exit → Act → World → Prop} {L : List (Nat × Option Value)} {H K R : List HProp} {O : Array Oper} {T : TypeId} {rest : List Oper} {D : List Deferred} {ks : List Nat}
theorem wp_strip {o : Oper} {a : Act} {w : World} {Kp Kp' : Act → World → Prop} {Q' : Exit → Act → World → Prop} (h : ∀ ds u w', Kp ((withD a ds).put o.dst u) w' → Kp' ((withD a (ds ++ a.defers)).put o.dst u) w') (hh : o.wp P (withD a []) w Kp QF) : o.wp P a w Kp' Q' := by
  unfold Oper.wp at *
  rw [eval_withD] at hh
  generalize (execOp a.eval o).run P w = r at *
  have h0 := h []
  rw [List.nil_append, show withD a a.defers = a from rfl] at h0
  cases r with
  | ok n w' =>
    cases n <;> simp only [Oper.upon] at hh ⊢
    case value v => exact h0 _ _ hh
    case skip => exact h0 _ _ hh
    case enter f args =>
      refine Calls.mono hh (fun e w'' he => ?_)
      cases e with
      | returned v => exact h0 _ _ he
      | panicked c => exact he.elim
      | outgrown => obtain ⟨_, _, hf⟩ := he; exact hf.elim
    case row r' args => exact Rows.mono hh (fun v w'' he => h0 _ _ he)
    case defer d => exact h [d] undef w' hh
  | halt x w' => cases x <;> simp only [Oper.upon] at hh ⊢ <;> exact hh.elim
theorem Does.d {o : Oper} {k : List (Nat × Option Value) → List HProp → Prop} {a : Act} {w : World} {Kp : Act → World → Prop} {Q' : Exit → Act → World → Prop} (hd : Does P W N o L H k) (ha : EnvD N L D a) (hs : Sat W w (seps H)) (h : ∀ L' H', k L' H' → ∀ a' w', EnvD N L' D a' → Sat W w' (seps H') → Kp a' w') : o.wp P a w Kp Q' := by
  refine wp_strip (Kp := fun a' w' => ∃ L' H', k L' H' ∧ Env N L' a' ∧ Sat W w' (seps H')) (fun ds u w' ⟨L', H', hk, he, hs'⟩ => ?_) (hd _ w ha.env hs _ fun L' H' hk a' w' ha' hs' => ⟨L', H', hk, ha', hs'⟩)
  have e : ((withD a ds).put o.dst u).defers = ds := by cases o.dst <;> rfl
  rw [he.defers] at e
  subst e
  refine h L' H' hk _ w' ⟨?_, fun k v hv => ?_, ?_⟩ hs'
  · have := he.size; cases ho : o.dst <;> rw [ho] at this <;> exact this
  · have := he.get k v hv; cases ho : o.dst <;> rw [ho] at this <;> exact this
  · rw [List.nil_append]; cases o.dst <;> exact ha.defers
theorem Yields.d {op : Op} {v : Value} (hy : Yields P W N op T L H v) (dst : Option Tmp) (pos : String) (after : Array Edge) (guard : Option (Nat × Bool)) {a : Act} {w : World} (ha : EnvD N L D a) (hs : Sat W w (seps H)) : (execOp a.eval ⟨dst, op, T, pos, after, guard⟩).run P w = .ok (.value v) w := by
  have := hy dst pos after guard _ w ha.env hs
  rwa [eval_withD] at this

def GoED (W : World) (N : Nat) (D : List Deferred) (Q : Exit → Act → World → Prop) (e : Exit) (L : List (Nat × Option Value)) (H : List HProp) : Prop := ∀ a w, EnvD N L D a → Sat W w (seps H) → Q e a w
def GoCD (P : Program) (W : World) (N : Nat) (D : List Deferred) (Q : Exit → Act → World → Prop) (c : Code) (L : List (Nat × Option Value)) (H : List HProp) : Prop := ∀ a w, EnvD N L D a → Sat W w (seps H) → c.wp P Q a w
def GoLD (P : Program) (W : World) (N : Nat) (D : List Deferred) (O : Array Oper) (Q : Exit → Act → World → Prop) (ops : List Oper) (L : List (Nat × Option Value)) (H : List HProp) : Prop := ∀ a w, EnvD N L D a → Sat W w (seps H) → wpList P O Q ops a w
def GoKD (P : Program) (W : World) (N : Nat) (D : List Deferred) (K : List HProp) (O : Array Oper) (Q : Exit → Act → World → Prop) (ks : List Nat) (ops : List Oper) (L : List (Nat × Option Value)) (H : List HProp) : Prop := ∀ a w, EnvD N L D a → Sat W w (seps H) → wpKL P O (fun w => Sat W w (seps K)) Q ks ops a w
theorem GoL.deferD {x : Operand} {f : FuncId} {us cap : Array Value} {ts : Array TypeId} {pos : String} {after : Array Edge} (hx : ev L x = some (.func (.func f) us cap)) (k : GoLD P W N [⟨.fn (.func f) cap, us⟩] O Q rest L H) : GoL P W N O Q (⟨none, .defer ⟨.value x, #[], ts⟩, T, pos, after, none⟩ :: rest) L H := fun a w ha hs => wpList_plain rfl fun Kp hK => by
  unfold Oper.wp
  have hr : (execOp a.eval ⟨none, .defer ⟨.value x, #[], ts⟩, T, pos, after, none⟩).run P w = .ok (.defer ⟨.fn (.func f) cap, us⟩) w := by
    simp [execOp, resolve, ha.eval hx, Deferred.ofValue]
  rw [hr]
  simp only [Oper.upon]
  exact hK _ _ (k _ w ⟨ha.size, ha.get, by simp [Act.put, ha.defers]⟩ hs)
theorem GoED.then_normal {c : Code} (k : GoCD P W N D Q c L H) : GoED W N D (Exit.then (c.wp P Q) Q) .normal L H := k
theorem GoCD.seq {x y : Code} (k : GoCD P W N D (Exit.then (y.wp P Q) Q) x L H) : GoCD P W N D Q (.seq x y) L H := fun a w ha hs => wp_seq (k a w ha hs)
theorem GoCD.region {id : Nat} {l : List Oper} (k : GoLD P W N D l.toArray Q l L H) : GoCD P W N D Q (.region id l.toArray false) L H := fun a w ha hs => wp_region_lit (k a w ha hs)
theorem GoCD.draw {id : Nat} {l : List Oper} (K : List HProp) (ks : List Nat) (hm : P.follows .mixedOrders = true) (hB : regionB l ks = true) (h : GoKD P W N D K l.toArray Q ks l L H) : GoCD P W N D Q (.region id l.toArray true) L H :=
  fun a w ha hs => wp_region_k (C := fun w => Sat W w (seps K)) ks hm hB (h a _ ha hs.drew)
theorem GoCD.ret (k : GoED W N D Q .ret L H) : GoCD P W N D Q .ret L H := fun a w ha hs => wp_ret (k a w ha hs)
theorem GoLD.nil (k : GoED W N D Q .normal L H) : GoLD P W N D O Q [] L H := fun a w ha hs => wpList_nil (k a w ha hs)
theorem GoLD.y {op : Op} {pos : String} {after : Array Edge} {d : Nat} {v : Value} (hN : Nat.blt d N = true) (hy : Yields P W N op T L H v) (k : GoLD P W N D O Q rest ((d, some v) :: L) H) :
    GoLD P W N D O Q (⟨some d, op, T, pos, after, none⟩ :: rest) L H := fun a w ha hs =>
  wpList_plain rfl fun Kp hK => by
    unfold Oper.wp
    rw [hy.d _ _ _ _ ha hs]
    exact hK _ _ (k _ w (ha.put (Nat.blt_eq.mp hN) v) hs)
theorem GoLD.does {o : Oper} {k : List (Nat × Option Value) → List HProp → Prop} (hg : o.guard = none) (hd : Does P W N o L H k) (h : ∀ L' H', k L' H' → GoLD P W N D O Q rest L' H') : GoLD P W N D O Q (o :: rest) L H := fun a w ha hs =>
  wpList_plain hg fun Kp hK => hd.d ha hs fun L' H' hk a' w' ha' hs' => hK _ _ (h L' H' hk a' w' ha' hs')
theorem GoKD.nil (h : GoED W N D Q .normal L H) : GoKD P W N D K O Q ks [] L H := fun a w ha hs => by cases ks <;> exact h a w ha hs
theorem GoKD.k {op : Op} {pos : String} {after : Array Edge} {d : Nat} {v : Value} (hN : Nat.blt d N = true) (hK : ∀ w, Sat W w (seps H) → Sat W w (seps K)) (hy : Yields P W N op T L K v) (h : GoKD P W N D K O Q ks rest ((d, some v) :: L) H) :
    GoKD P W N D K O Q (0 :: ks) (⟨some d, op, T, pos, after, none⟩ :: rest) L H := fun a w ha hs => by
  simp only [wpKL]
  exact ⟨hK w hs, v, .inl ⟨wanted_none rfl, fun w' hs' => hy.d _ _ _ _ ha hs'⟩, h _ w (ha.put (Nat.blt_eq.mp hN) v) hs⟩
theorem GoKD.s {op : Op} {pos : String} {after : Array Edge} {d : Nat} {v : Value} (hN : Nat.blt d N = true) (hy : Yields P W N op T L H v) (h : GoKD P W N D K O Q ks rest ((d, some v) :: L) H) :
    GoKD P W N D K O Q (1 :: ks) (⟨some d, op, T, pos, after, none⟩ :: rest) L H := fun a w ha hs => by
  simp only [wpKL]
  exact ⟨v, .inl ⟨wanted_none rfl, fun w' e => by subst e; exact hy.d _ _ _ _ ha hs⟩, h _ w (ha.put (Nat.blt_eq.mp hN) v) hs⟩
theorem GoKD.d2 {o : Oper} {k : List (Nat × Option Value) → List HProp → Prop} (hg : o.guard = none) (hK : ∀ w, Sat W w (seps H) → Sat W w (seps K)) (hd : Does P W N o L H k) (hK' : ∀ L' H', k L' H' → ∀ w, Sat W w (seps H') → Sat W w (seps K)) (h : ∀ L' H', k L' H' → GoKD P W N D K O Q ks rest L' H') :
    GoKD P W N D K O Q (2 :: ks) (o :: rest) L H := fun a w ha hs => by
  simp only [wpKL]
  refine ⟨hK w hs, ?_⟩
  rw [if_pos (wanted_none hg)]
  exact hd.d ha hs fun L' H' hk a' w' ha' hs' => ⟨hK' L' H' hk w' hs', h L' H' hk a' w' ha' hs'⟩
theorem GoKD.d3 {o : Oper} {k : List (Nat × Option Value) → List HProp → Prop} (hg : o.guard = none) (hd : Does P W N o L H k) (h : ∀ L' H', k L' H' → GoKD P W N D K O Q ks rest L' H') :
    GoKD P W N D K O Q (3 :: ks) (o :: rest) L H := fun a w ha hs => by
  simp only [wpKL]
  rw [if_pos (wanted_none hg)]
  exact hd.d ha hs fun L' H' hk a' w' ha' hs' => h L' H' hk a' w' ha' hs'
theorem GoLD.ent {As : List HProp} (t : Ent H As R) (k : GoLD P W N D O Q rest L (As ++ R)) : GoLD P W N D O Q rest L H := fun a w ha hs => k a w ha (t.sat hs)
theorem GoLD.mem {ops : List Oper} {H' : List HProp} (h : ∀ w, Sat W w (seps H) → Sat W w (seps H')) (k : GoLD P W N D O Q ops L H') : GoLD P W N D O Q ops L H := fun a w ha hs => k a w ha (h w hs)
theorem GoLD.know {ops : List Oper} {p : Prop} (h : ∀ w, Sat W w (seps H) → p) (k : p → GoLD P W N D O Q ops L H) : GoLD P W N D O Q ops L H := fun a w ha hs => k (h w hs) a w ha hs

/-- The call of a function that may panic, whose result nobody takes. -/
theorem GoLD.callB_ {f : FuncId} {xs : Array Operand} {ts : Array TypeId} {pos : String} {after : Array Edge} {dst : Option Nat} {args : List Value} {pre : List HProp} {X : Type} {en : X → Ending} {fact : X → Prop} {post : X → List HProp} (hdst : ∀ d, dst = some d → Nat.blt d N = true)
    (hc : ∀ args w, (callFunc f args).run P w = .ok (.enter f args) w) (hx : evs L xs.toList = some args) (hfn : FnB P W f args pre X en fact post) (ht : Ent H pre R) (hno : ∀ x, en x ≠ .outgrown)
    (h1 : ∀ x v, en x = .returned v → fact x → GoLD P W N D O Q rest (match dst with | some d => (d, some v) :: L | none => L) (post x ++ R)) (h2 : ∀ x c, en x = .panicked c → fact x → GoED W N D Q (.panic c) L (post x ++ R)) :
    GoLD P W N D O Q (⟨dst, .call ⟨.value (.func f), xs, ts⟩, T, pos, after, none⟩ :: rest) L H := fun a w ha hs => wpList_plain rfl fun Kp hK => by
  have e : xs.map a.eval = args.toArray := by
    rw [← eval_withD a [], ← ha.env.evals hx, ← List.map_toArray]
  have hs := ht.sat hs
  rw [seps_append] at hs
  unfold Oper.wp
  have hr : (execOp a.eval ⟨dst, .call ⟨.value (.func f), xs, ts⟩, T, pos, after, none⟩).run P w = .ok (.enter f args.toArray) w := by
    simp [execOp, resolve, Act.eval, Deferred.ofValue, invoke, e, hc]
  rw [hr]
  simp only [Oper.upon]
  refine (hfn _ w hs).mono fun en' w' ⟨x, he, hf, hs'⟩ => ?_
  rw [← seps_append] at hs'
  subst he
  cases e2 : en x with
  | returned v =>
    have h := h1 x v e2 hf
    cases dst with
    | none => exact hK _ _ (h _ _ ⟨ha.size, ha.get, ha.defers⟩ hs')
    | some d => exact hK _ _ (h _ _ (ha.put (Nat.blt_eq.mp (hdst d rfl)) _) hs')
  | panicked c => exact h2 x c e2 hf _ _ ha hs'
  | outgrown => exact absurd e2 (hno x)

/-! a region in which a call panics: all that is read comes first -/
def GoH (P : Program) (W : World) (N : Nat) (K : List HProp) (O : Array Oper) (Q : Exit → Act → World → Prop) (fuel : Nat) (li : Array Bool) (L : List (Nat × Option Value)) (H : List HProp) : Prop :=
  ∀ a w, Env N L a → Sat W w (seps H) → wpAnyH P .any O Q (fun w => Sat W w (seps K)) fuel li a w
theorem GoC.held {id : Nat} {l : List Oper} (K : List HProp) (hm : P.follows .mixedOrders = true) (h : GoH P W N K l.toArray Q l.toArray.size (Array.replicate l.toArray.size false) L H) : GoC P W N Q (.region id l.toArray true) L H := fun a w ha hs => wp_region_held hm (h a _ ha hs.drew)
def Blind (Q : Exit → Act → World → Prop) : Prop := ∀ c d v a w, Q (.panic c) (a.put (some d) v) w → Q (.panic c) a w
theorem GoH.take (i : Nat) {op : Op} {pos : String} {after : Array Edge} {d fuel : Nat} {li : Array Bool} {v : Value} (hi : O[i]? = some ⟨some d, op, T, pos, after, none⟩) (hs : Region.noSelect O = true) (hf : Region.free .any O li i = true) (hr : (Region.ready .any O li).contains i = true) (hQ : Blind Q) (hN : Nat.blt d N = true)
    (hK : ∀ w, Sat W w (seps H) → Sat W w (seps K)) (hy : Yields P W N op T L K v) (h : GoH P W N K O Q fuel (li.setIfInBounds i true) ((d, some v) :: L) H) : GoH P W N K O Q (fuel + 1) li L H := fun a w ha hs' =>
  wpAnyH_take hi hs hf hr (fun c a w => hQ c d v a w) (.inl ⟨wanted_none rfl, fun w' hw' => hy _ _ _ _ a w' ha hw'⟩) (hK w hs') (h _ w (ha.put (Nat.blt_eq.mp hN) v) hs')
theorem GoH.callP (i : Nat) {f : FuncId} {xs : Array Operand} {ts : Array TypeId} {pos : String} {after : Array Edge} {d fuel : Nat} {li : Array Bool} {args : List Value} {pre : List HProp} {X : Type} {en : X → Ending} {fact : X → Prop} {post : X → List HProp} (hi : O[i]? = some ⟨some d, .call ⟨.value (.func f), xs, ts⟩, T, pos, after, none⟩) (hr : Region.ready .any O li = [i])
    (hc : ∀ args w, (callFunc f args).run P w = .ok (.enter f args) w) (hx : evs L xs.toList = some args) (hfn : FnB P W f args pre X en fact post) (ht : Ent H pre R) (hp : ∀ x, ∃ c, en x = .panicked c)
    (h2 : ∀ x c, en x = .panicked c → fact x → GoE W N Q (.panic c) L (post x ++ R)) : GoH P W N K O Q (fuel + 1) li L H := fun a w ha hs => by
  refine wpAnyH_all hr (by simp) fun j hj => ?_
  obtain rfl : j = i := by simpa using hj
  have e : xs.map a.eval = args.toArray := by
    rw [← ha.evals hx, ← List.map_toArray]
  have hs := ht.sat hs
  rw [seps_append] at hs
  unfold wpOp
  rw [hi]
  simp only
  rw [if_pos (wanted_none rfl)]
  left
  unfold Oper.wp
  have hr : (execOp a.eval ⟨some d, .call ⟨.value (.func f), xs, ts⟩, T, pos, after, none⟩).run P w = .ok (.enter f args.toArray) w := by
    simp [execOp, resolve, Act.eval, Deferred.ofValue, invoke, e, hc]
  rw [hr]
  simp only [Oper.upon]
  refine (hfn _ w hs).mono fun en' w' ⟨x, he, hf, hs'⟩ => ?_
  rw [← seps_append] at hs'
  subst he
  obtain ⟨c, e2⟩ := hp x
  rw [e2]
  exact h2 x c e2 hf _ _ ha hs'

/-! what the model stands in for -/
theorem Y.ext {f : FuncId} {fn : Func} {e : Array Value → Sem Value} {xs : Array Operand} {ts : Array TypeId} {args : List Value} {v : Value} (hf : P.funcs[f]? = some fn) (hname : (fn.name == "runtime.NumGoroutine") = false) (hb : fn.body.isNone = true) (hn : Extern.findNext fn = none) (he : Extern.find fn = some e)
    (hx : evs L xs.toList = some args) (h : ∀ w, (e args.toArray).run P w = .ok v w) : Yields P W N (.call ⟨.value (.func f), xs, ts⟩) T L H v := fun dst pos after guard a w ha hs => by
  have e2 : xs.map a.eval = args.toArray := by
    rw [← ha.evals hx, ← List.map_toArray]
  simp [execOp, resolve, Act.eval, Deferred.ofValue, invoke, e2, run_callFunc_extern hf hname hb hn he, h]

/-! numbers with a point -/
def fOrd (m n : Nat) : Option Ordering := Ieee.double.order m n
theorem Y.fLss {xT yT : TypeId} {x y : Operand} {m n : Nat} (hx : ev L x = some (.float .f64 m)) (hy : ev L y = some (.float .f64 n)) : Yields P W N (.binOp .lss xT x y yT) T L H (.bool (fOrd m n == some .lt)) := Y.bin hx hy fun w => rfl
theorem Y.fGeq {xT yT : TypeId} {x y : Operand} {m n : Nat} (hx : ev L x = some (.float .f64 m)) (hy : ev L y = some (.float .f64 n)) : Yields P W N (.binOp .geq xT x y yT) T L H (.bool (fOrd m n == some .gt || fOrd m n == some .eq)) := Y.bin hx hy fun w => rfl
theorem Y.fNeq {xT yT : TypeId} {x y : Operand} {m n : Nat} (hx : ev L x = some (.float .f64 m)) (hy : ev L y = some (.float .f64 n)) (hg : ∀ w, (eqGuard .neq xT x y (.float .f64 m) (.float .f64 n)).run P w = .ok () w) : Yields P W N (.binOp .neq xT x y yT) T L H (.bool (fOrd m n != some .eq)) := Y.bin hx hy fun w => by
  rw [Sem.run_bind, hg]; rfl
/-- A sum, a product: its number, or one that is none. -/
def fRes (o : Option Nat) (r : Nat) : Prop := match o with | some q => r = q | none => (fOrd r r == some .eq) = false
theorem nan_ord (t : Nat) : (fOrd ((t % 2) * 2 ^ 63 + 0x7ff0000000000000 + 1 + (t / 2) % (2 ^ 52 - 1)) ((t % 2) * 2 ^ 63 + 0x7ff0000000000000 + 1 + (t / 2) % (2 ^ 52 - 1)) == some .eq) = false := by
  have h1 : t % 2 < 2 := Nat.mod_lt _ (by decide)
  have h2 : (t / 2) % (2 ^ 52 - 1) < 2 ^ 52 - 1 := Nat.mod_lt _ (by decide)
  generalize t % 2 = s at *
  generalize (t / 2) % (2 ^ 52 - 1) = q at *
  have hr : (s * 2 ^ 63 + 0x7ff0000000000000 + 1 + q) % Ieee.double.signWeight = 0x7ff0000000000001 + q := by
    have : Ieee.double.signWeight = 2 ^ 63 := by decide
    rw [this]; omega
  have hread : ∃ b f, Ieee.double.read (s * 2 ^ 63 + 0x7ff0000000000000 + 1 + q) = .nan b f := by
    unfold Ieee.Format.read
    simp only [hr]
    have e1 : Ieee.double.binade = 4503599627370496 := by decide
    have e2 : Ieee.double.infRung = 9218868437227405312 := by decide
    rw [e1, e2, if_neg (by omega), if_neg (by omega), if_neg (by omega)]
    exact ⟨_, _, rfl⟩
  obtain ⟨b, f, e⟩ := hread
  unfold fOrd Ieee.Format.order
  rw [e]
  rfl
theorem Does.fBin {op : BinOp} {xT yT : TypeId} {x y : Operand} {pos : String} {after : Array Edge} {guard : Option (Nat × Bool)} {d m n : Nat} (o : Option Nat) (hN : Nat.blt d N = true) (hx : ev L x = some (.float .f64 m)) (hy : ev L y = some (.float .f64 n))
    (h : ∀ w, (do eqGuard op xT x y (.float .f64 m) (.float .f64 n); binOp op xT (.float .f64 m) (.float .f64 n) : Sem Value).run P w = (match o with | some r => pure (.float .f64 r) | none => do pure (.float .f64 (← choose (.nanBits .f64 m n))) : Sem Value).run P w) :
    Does P W N ⟨some d, .binOp op xT x y yT, T, pos, after, guard⟩ L H (fun L1 H1 => ∃ r, fRes o r ∧ L1 = (d, some (.float .f64 r)) :: L ∧ H1 = H) := fun a w ha hs Kp hK => by
  have hrun : ∀ v w', (match o with | some r => pure (.float .f64 r) | none => do pure (.float .f64 (← choose (.nanBits .f64 m n))) : Sem Value).run P w = .ok v w' → (execOp a.eval ⟨some d, .binOp op xT x y yT, T, pos, after, guard⟩).run P w = .ok (.value v) w' := fun v w' hv => by
    simp only [execOp, ha.eval hx, ha.eval hy]
    have h2 := (h w).trans hv
    show ((do eqGuard op xT x y (.float .f64 m) (.float .f64 n); binOp op xT (.float .f64 m) (.float .f64 n) : Sem Value) >>= fun v => pure (Next.value v)).run P w = _
    rw [Sem.run_bind, h2]
    rfl
  unfold Oper.wp
  cases o with
  | some r =>
    rw [hrun (.float .f64 r) w rfl]
    simp only [Oper.upon]
    exact hK _ _ ⟨r, rfl, rfl, rfl⟩ _ _ (ha.put (Nat.blt_eq.mp hN) _) hs
  | none =>
    have hq : (choose (.nanBits .f64 m n)).run P w = .ok ((Question.nanBits .f64 m n).cut (w.tape w.drawn (.nanBits .f64 m n))) w.drew := by
      rw [run_choose_drew]; simp [Question.forced]
    rw [hrun (.float .f64 ((Question.nanBits .f64 m n).cut (w.tape w.drawn (.nanBits .f64 m n)))) w.drew (by simp only [Sem.run_bind, hq, Result.andThen_ok, Sem.run_pure])]
    simp only [Oper.upon]
    refine hK _ _ ⟨_, ?_, rfl, rfl⟩ _ _ (ha.put (Nat.blt_eq.mp hN) _) hs.drew
    show (fOrd _ _ == some .eq) = false
    simp only [Question.cut]
    exact nan_ord _
theorem Y.toFloat {src dst' : TypeId} {x : Operand} {j : IntKind} {n : Int} (h : ∀ w, (convert src dst' (.int j n)).run P w = .ok (.float .f64 (FloatKind.f64.nearest n)) w) (hx : ev L x = some (.int j n)) : Yields P W N (.convert src dst' x) T L H (.float .f64 (FloatKind.f64.nearest n)) := fun dst pos after guard a w ha hs => by
  simp only [execOp, ha.eval hx]
  exact value_run (h w)
theorem Y.toIntF {src dst' : TypeId} {x : Operand} {j : IntKind} {n : Nat} {k : Int} (h : ∀ w, (convert src dst' (.float .f64 n)).run P w = .ok (.int j k) w) (hx : ev L x = some (.float .f64 n)) : Yields P W N (.convert src dst' x) T L H (.int j k) := fun dst pos after guard a w ha hs => by
  simp only [execOp, ha.eval hx]
  exact value_run (h w)
end
end Go.SLYtpcjdohmjmeehaaGreat
namespace Go.SLYtpcjdohmjmeehaaGreat
open Go Go.RowKit

theorem fNan_nat (n : Nat) : fNan (n : Int) = (fOrd n n != some .eq) := by
  unfold fNan fEq fOrd bne
  rw [Int.toNat_natCast]
theorem clean_nat (n : Nat) : fClean (n : Int) = if (fOrd n n != some .eq) = true then fNone else (n : Int) := by unfold fClean; rw [fNan_nat]
theorem out_res {o : Option Nat} {r : Nat} (h : fRes o r) : fClean (r : Int) = fOut o := by
  cases o with
  | some q => rw [show r = q from h]; rfl
  | none =>
    have h : (fOrd r r == some .eq) = false := h
    rw [clean_nat]
    unfold bne
    rw [h]; rfl
theorem nan_toNat {a : Int} (h : 0 ≤ a) : (fOrd a.toNat a.toNat != some .eq) = fNan a := by
  rw [← fNan_nat, Int.toNat_of_nonneg h]
/-! from a number to a whole one -/
theorem far_read : Ieee.double.read fFar = .number false 4503599627370496 11 := by decide +kernel
theorem mfar_read : Ieee.double.read fMFar = .number true 4503599627370496 11 := by decide +kernel
open Ieee in
theorem cut_zero (s : Bool) (n drop : Nat) : Toward.zero.cut s n drop = n / 2 ^ min drop (n.log2 + 2) := by
  unfold Toward.cut
  simp [Nat.one_shiftLeft]
theorem cut_le {n drop b : Nat} (h : n ≤ b * 2 ^ drop) : n / 2 ^ min drop (n.log2 + 2) ≤ b := by
  rcases Nat.le_total drop (n.log2 + 2) with hd | hd
  · rw [Nat.min_eq_left hd]
    exact Nat.div_le_of_le_mul (by rw [Nat.mul_comm]; exact h)
  · rw [Nat.min_eq_right hd]
    have : n < 2 ^ (n.log2 + 2) := Nat.lt_of_lt_of_le Nat.lt_log2_self (Nat.pow_le_pow_right (by decide) (by omega))
    rw [Nat.div_eq_of_lt this]
    exact Nat.zero_le _
theorem cut_lt {n drop b : Nat} (hb : 0 < b) (h : n < b * 2 ^ drop) : n / 2 ^ min drop (n.log2 + 2) < b := by
  rcases Nat.le_total drop (n.log2 + 2) with hd | hd
  · rw [Nat.min_eq_left hd]
    exact Nat.div_lt_of_lt_mul (by rw [Nat.mul_comm]; exact h)
  · rw [Nat.min_eq_right hd]
    have : n < 2 ^ (n.log2 + 2) := Nat.lt_of_lt_of_le Nat.lt_log2_self (Nat.pow_le_pow_right (by decide) (by omega))
    rw [Nat.div_eq_of_lt this]
    exact hb
open Ieee in
/-- How a magnitude stands to 2 ^ 63, by the places' difference. -/
theorem mag_cmp (m : Nat) (i : Int) : let base := min i 11
    (m <<< (i - base).toNat < 4503599627370496 <<< (11 - base).toNat → m <<< i.toNat < 9223372036854775808 * 2 ^ (-i).toNat) ∧ (m <<< (i - base).toNat ≤ 4503599627370496 <<< (11 - base).toNat → m <<< i.toNat ≤ 9223372036854775808 * 2 ^ (-i).toNat) := by
  intro base
  simp only [Nat.shiftLeft_eq]
  have key : ∃ c : Nat, 0 < c ∧ (m * 2 ^ i.toNat) = (m * 2 ^ (i - base).toNat) * c ∧ 9223372036854775808 * 2 ^ (-i).toNat = 4503599627370496 * 2 ^ (11 - base).toNat * c := by
    rcases (show i < 0 ∨ 0 ≤ i by omega) with hi | hi
    · refine ⟨1, by decide, ?_, ?_⟩
      · rw [show base = i from by show min i 11 = i; omega, show i.toNat = 0 from by omega, show (i - i).toNat = 0 from by omega]; simp
      · rw [show base = i from by show min i 11 = i; omega, show (11 - i).toNat = 11 + (-i).toNat from by omega, Nat.pow_add, Nat.mul_one, ← Nat.mul_assoc]
    · refine ⟨2 ^ base.toNat, Nat.pow_pos (by decide), ?_, ?_⟩
      · rw [Nat.mul_assoc, ← Nat.pow_add, show (i - base).toNat + base.toNat = i.toNat from by show (i - min i 11).toNat + (min i 11).toNat = _; omega]
      · rw [Nat.mul_assoc, ← Nat.pow_add, show (11 - base).toNat + base.toNat = 11 from by show (11 - min i 11).toNat + (min i 11).toNat = _; omega, show (-i).toNat = 0 from by omega]
  obtain ⟨c, hc, e1, e2⟩ := key
  rw [e1, e2]
  exact ⟨fun h => Nat.mul_lt_mul_of_pos_right h hc, fun h => Nat.mul_le_mul_right c h⟩
theorem cmpI (x y : Int) : compare x y = if x < y then .lt else if x = y then .eq else .gt := rfl
theorem cmp_gt {x y : Int} (h : y < x) : compare x y = .gt := by rw [cmpI, if_neg (by omega), if_neg (by omega)]
theorem cmp_lt {x y : Int} (h : x < y) : compare x y = .lt := by rw [cmpI, if_pos h]
theorem cmp_eq (x : Int) : compare x x = .eq := by rw [cmpI, if_neg (by omega), if_pos rfl]
theorem sgn_f (m k : Nat) : Ieee.signed false m k = ((m <<< k : Nat) : Int) := rfl
theorem sgn_t (m k : Nat) : Ieee.signed true m k = -((m <<< k : Nat) : Int) := rfl
open Ieee in
theorem toInt_ok2 {n : Nat} (h1 : (fOrd n n != some .eq) = false) (h2 : (fOrd n fFar == some .gt || fOrd n fFar == some .eq) = false) (h3 : (fOrd n fMFar == some .lt) = false) :
    ∃ k, (FloatKind.f64.decode n).toInt .zero = some k ∧ IntKind.i64.min ≤ k ∧ k ≤ IntKind.i64.max := by
  show ∃ k, (double.read n).toInt .zero = some k ∧ _
  unfold fOrd Format.order at h1 h2 h3
  rw [far_read] at h2
  rw [mfar_read] at h3
  have hmin : IntKind.i64.min = -9223372036854775808 := by decide
  have hmax : IntKind.i64.max = 9223372036854775807 := by decide
  rw [hmin, hmax]
  cases hd : double.read n with
  | nan b f => rw [hd] at h1; simp [Datum.order] at h1
  | infinity s =>
    rw [hd] at h2 h3
    cases s <;> simp [Datum.order] at h2 h3
  | number s m i =>
    rw [hd] at h2 h3
    simp only [Datum.order, Bool.or_eq_false_iff] at h2 h3
    refine ⟨signed s (Toward.zero.cut s (m <<< i.toNat) (-i).toNat) 0, rfl, ?_⟩
    rw [cut_zero]
    obtain ⟨c1, c2⟩ := mag_cmp m i
    cases s with
    | false =>
      have hlt : m <<< (i - min i 11).toNat < 4503599627370496 <<< (11 - min i 11).toNat := by
        rcases Nat.lt_trichotomy (m <<< (i - min i 11).toNat) (4503599627370496 <<< (11 - min i 11).toNat) with h | h | h
        · exact h
        · exfalso
          rw [sgn_f, sgn_f, h, cmp_eq] at h2; simp at h2
        · exfalso
          rw [sgn_f, sgn_f, cmp_gt (by omega)] at h2; simp at h2
      have := cut_lt (by decide) (c1 hlt)
      generalize (m <<< i.toNat) / 2 ^ min (-i).toNat ((m <<< i.toNat).log2 + 2) = q at *
      rw [sgn_f, Nat.shiftLeft_zero]
      omega
    | true =>
      have hle : m <<< (i - min i 11).toNat ≤ 4503599627370496 <<< (11 - min i 11).toNat := by
        rcases Nat.lt_or_ge (4503599627370496 <<< (11 - min i 11).toNat) (m <<< (i - min i 11).toNat) with h | h
        · exfalso
          rw [sgn_t, sgn_t, cmp_lt (by omega)] at h3; simp at h3
        · exact h
      have := cut_le (c2 hle)
      generalize (m <<< i.toNat) / 2 ^ min (-i).toNat ((m <<< i.toNat).log2 + 2) = q at *
      rw [sgn_t, Nat.shiftLeft_zero]
      omega
theorem run_toInt {P : Program} {n : Nat} {w : World} {k : Int} (h : (FloatKind.f64.decode n).toInt .zero = some k) (h1 : IntKind.i64.min ≤ k) (h2 : k ≤ IntKind.i64.max) : (Conv.floatToInt .f64 n .i64).run P w = .ok (.int .i64 k) w := by
  unfold Conv.floatToInt
  rw [h]
  simp only
  rw [if_pos ⟨h1, h2⟩]
  rfl
theorem wrap_w64 (k : Int) : IntKind.u64.wrap k = w64 k := by
  unfold w64
  rfl
end Go.SLYtpcjdohmjmeehaaGreat
namespace Go.SLYtpcjdohmjmeehaaGreat
open Go Go.RowKit

def frmE (f : Frm) : List Value := [.int .i64 f.fn, .int .i64 f.pc, .int .u64 (f.regs.getD 0 0), .int .u64 (f.regs.getD 1 0), .int .u64 (f.regs.getD 2 0), .int .u64 (f.regs.getD 3 0), .int .u64 (f.regs.getD 4 0), .int .u64 (f.regs.getD 5 0), .int .u64 (f.regs.getD 6 0), .int .u64 (f.regs.getD 7 0)]
def dwC (f : Frm) (v : Value) : List Value := [.int .i64 f.fn, .int .i64 f.pc, .int .u64 (f.regs.getD 0 0), .int .u64 (f.regs.getD 1 0), .int .u64 (f.regs.getD 2 0), .int .u64 (f.regs.getD 3 0), .int .u64 (f.regs.getD 4 0), .int .u64 (f.regs.getD 5 0), .int .u64 (f.regs.getD 6 0), .int .u64 (f.regs.getD 7 0), v]
def nextR (o : Option Ins) : Value := .tuple #[.agg (insE (o.getD Ins.z)).toArray, .bool o.isSome]
theorem next_no {p : Prg} {f : Frm} {fs : List (Value × List Ins)} {z : Value × List Ins} (hp : fs.map (·.2) = p.funcs)
    (h : (decide (f.fn < 0) || decide ((fs.length : Int) ≤ f.fn) || decide (f.pc < 0) || decide (((fs.getD f.fn.toNat z).2.length : Int) ≤ f.pc)) = true) (hz : z.2 = []) : nextI p f = none := by
  unfold nextI
  split
  · rfl
  · rename_i hn
    rw [← hp, List.getElem?_eq_none]
    simp only [Bool.or_eq_true, decide_eq_true_eq] at h
    rw [List.getD_eq_getElem?_getD, List.getElem?_map]
    rw [List.getD_eq_getElem?_getD] at h
    cases e : fs[f.fn.toNat]? with
    | none => exact Nat.zero_le _
    | some x =>
      rw [e] at h
      have := (List.getElem?_eq_some_iff.1 e).1
      simp only [Option.getD_some, Option.map_some] at h ⊢
      omega
theorem next_yes {p : Prg} {f : Frm} {fs : List (Value × List Ins)} {x : Value × List Ins} {i : Ins} (hp : fs.map (·.2) = p.funcs) (h1 : ¬ f.fn < 0) (h2 : ¬ f.pc < 0) (hx : fs[f.fn.toNat]? = some x) (hi : x.2[f.pc.toNat]? = some i) : nextI p f = some i := by
  unfold nextI
  rw [if_neg (by omega), ← hp, List.getD_eq_getElem?_getD, List.getElem?_map, hx]
  exact hi

theorem dw_get {f : Frm} {v : Value} : ∀ {n : Nat} (_ : n < 8), (dwC f v)[2 + n]? = some (.int .u64 (f.regs.getD n 0))
  | 0, _ => rfl
  | 1, _ => rfl
  | 2, _ => rfl
  | 3, _ => rfl
  | 4, _ => rfl
  | 5, _ => rfl
  | 6, _ => rfl
  | 7, _ => rfl
  | n + 8, h => absurd h (by omega)
theorem dw_set' {fn pc : Int} {a0 a1 a2 a3 a4 a5 a6 a7 : Int} {v : Value} (x : Int) : ∀ {n : Nat} (_ : n < 8), (dwC ⟨fn, pc, [a0, a1, a2, a3, a4, a5, a6, a7]⟩ v).set (2 + n) (.int .u64 x) = dwC ⟨fn, pc, [a0, a1, a2, a3, a4, a5, a6, a7].set n x⟩ v
  | 0, _ => rfl
  | 1, _ => rfl
  | 2, _ => rfl
  | 3, _ => rfl
  | 4, _ => rfl
  | 5, _ => rfl
  | 6, _ => rfl
  | 7, _ => rfl
  | n + 8, h => absurd h (by omega)
theorem dw_set {f : Frm} {v : Value} {n : Nat} (x : Int) (hn : n < 8) (hl : f.regs.length = 8) : (dwC f v).set (2 + n) (.int .u64 x) = dwC { f with regs := f.regs.set n x } v := by
  obtain ⟨fn, pc, regs⟩ := f
  match regs, hl with
  | [a0, a1, a2, a3, a4, a5, a6, a7], _ => exact dw_set' x hn
def stopC (t : Nat) (e : Int) : List PanicEntry := [{ v := .iface t (.agg #[.int .i64 e]), recovered := false }]
/-- What an instruction asks: registers that there are, a place in code. -/
structure InsOk (i : Ins) : Prop where
  a : 0 ≤ i.a ∧ i.a < 8
  b : 0 ≤ i.b ∧ i.b < 8
  c : 0 ≤ i.c ∧ i.c < 8
  n : 0 ≤ i.n ∧ i.n ≤ 18446744073709551615
  j : i.op = 16 ∨ i.op = 17 → i.n ≤ 256
structure FrmOk (f : Frm) : Prop where
  l : f.regs.length = 8
  pc : 0 ≤ f.pc ∧ f.pc ≤ 1000000
  r : ∀ n, 0 ≤ f.regs.getD n 0 ∧ f.regs.getD n 0 ≤ 18446744073709551615
def doEnd (t : Nat) (o : Option (Frm × List Int)) : Ending := match o with | some _ => .returned (.tuple #[]) | none => .panicked (stopC t 6)
def doH (b : Nat) (v : Value) (o : Option (Frm × List Int)) : List HProp := match o with | some z => [arr b 0 (dwC z.1 v), sl wrdE 1 v z.2] | none => []
def plainR (f : Frm) (m : List Int) (i : Ins) : Frm × List Int × Int := match doI f m i with | some (f', m') => (f', m', 0) | none => (Frm.z, [], 6)

section
variable {P : Program} {W : World} {N : Nat} {Q : Exit → Act → World → Prop} {L : List (Nat × Option Value)} {H K R : List HProp} {O : Array Oper} {T : TypeId} {rest : List Oper} {D : List Deferred} {ks : List Nat}
theorem Y.tAssert {x : Operand} {v r : Value} {t u : TypeId} {c : Bool} (hx : ev L x = some v) (h : ∀ w, (Instr.typeAssert v t u c).run P w = .ok r w) : Yields P W N (.typeAssert x t u c) T L H r := fun dst pos after guard a w ha hs => by
  simp only [execOp, ha.eval hx]
  exact value_run (h w)
theorem FnB.ok {f : FuncId} {args : List Value} {pre : List HProp} {X : Type} {en : X → Ending} {fact : X → Prop} {post : X → List HProp} (val : X → Value) (h : FnB P W f args pre X en fact post) (he : ∀ x, en x = .returned (val x)) : Fn P W f args pre X val fact post := fun F w hs =>
  (h F w hs).mono fun _ _ ⟨x, e1, e2, e3⟩ => ⟨x, e1.trans (he x), e2, e3⟩
theorem Fn.introD {f : FuncId} {fn : Func} {c : Code} {args : List Value} {pre : List HProp} {X : Type} {val : X → Value} {fact : X → Prop} {post : X → List HProp} (hf : P.funcs[f]? = some fn) (hb : fn.body = some c) (hn : fn.ntmps = N) (ha : Nat.ble args.length N = true)
    (h : ∀ F, GoC P W N (bodyPostD P fn (fun e w' => ∃ x, e = .returned (val x) ∧ fact x ∧ Sat W w' (sep (seps (post x)) F))) c (enum 0 args) (pre ++ [F])) : Fn P W f args pre X val fact post := fun F w hs => by
  have hle : args.length ≤ N := Nat.ble_eq.mp ha
  refine calls_of_wp_defers hf hb (h F _ w ⟨?_, fun k v hv => ?_, rfl⟩ ?_)
  · simp [hn]; omega
  · obtain ⟨_, h2⟩ := look_enum args 0 k v hv
    have hk : k < args.length := by
      have := (List.getElem?_eq_some_iff.1 h2).1; simpa using this
    show (args.toArray ++ Array.replicate (fn.ntmps - args.toArray.size) undef)[k]? = some v
    rw [Array.getElem?_append_left (by simpa using hk)]
    simpa using h2
  · rw [seps_append]; simp only [seps]; rw [sep_emp]; exact hs
/-- The whole of a slice is copied. -/
theorem Does.copyAll {α : Type} {enc : α → List Value} {k b n c' : Nat} {x y : Operand} {t t2 e ty : TypeId} {u : Value} {xs ys : List α} {pos : String} {after : Array Edge} {guard : Option (Nat × Bool)} {d : Nat} (hN : Nat.blt d N = true) (hu : P.underlying t = some (.slice e)) (hz : ∀ w, (sizeOf e).run P w = .ok k w)
    (hx : ev L x = some (.slice (some ⟨b, 0, none⟩) n c')) (hy : ev L y = some u) (hr : Rd W H enc k u ys) (ht : Take H (sl enc k (.slice (some ⟨b, 0, none⟩) n c') xs) R) (hl : xs.length = n) (hl2 : ys.length = n) (hone : ∀ y ∈ ys, ∀ c ∈ enc y, c.oneCell' = true) :
    Does P W N ⟨some d, .call ⟨.builtin .copy, #[x, y], #[t, t2]⟩, ty, pos, after, guard⟩ L H (fun L1 H1 => L1 = (d, some (.int .i64 (n : Int))) :: L ∧ H1 = sl enc k (.slice (some ⟨b, 0, none⟩) n c') ys :: R) := by
  rcases Nat.eq_zero_or_pos n with h0 | h0
  · subst h0
    obtain rfl := List.eq_nil_of_length_eq_zero hl
    obtain rfl := List.eq_nil_of_length_eq_zero hl2
    intro a w ha hs Kp hK
    have hrd := hr w hs
    have hf := hrd.firstN (P := P) (m := 0) (Nat.zero_le _)
    obtain ⟨⟨ua, ucap, hue, _⟩, _⟩ := hrd
    have hln : (Builtin.lenOf u).run P w = .ok 0 w := by rw [hue]; simp [Builtin.lenOf]
    have hrun : (execOp a.eval ⟨some d, .call ⟨.builtin .copy, #[x, y], #[t, t2]⟩, ty, pos, after, guard⟩).run P w = .ok (.value (.int .i64 ((0 : Nat) : Int))) w := by
      simp [execOp, resolve, invoke, builtin, ha.eval hx, ha.eval hy, Builtin.copy_, run_underlying hu, hz, hln, goInt, hf, rows, storeCells]
    unfold Oper.wp
    rw [hrun]
    simp only [Oper.upon]
    rw [ht.seps] at hs
    exact hK _ _ ⟨rfl, rfl⟩ _ _ (ha.put (Nat.blt_eq.mp hN) _) hs
  · have := Does.copyIn (P := P) (W := W) (N := N) (L := L) (H := H) (R := R) (ty := ty) (pos := pos) (after := after) (guard := guard) (t2 := t2) (d := d) (x := x) (y := y) (t := t) (i := 0) (b := b) (len := n) (cap := c') (c' := c') (xs := xs) (ys := ys) hN hu hz (by simpa using hx) hy hr ht hl (Nat.zero_le _) h0 hone
    have e : min ys.length (n - 0) = n := by omega
    rw [e, List.take_zero, List.nil_append, Nat.zero_add, List.take_of_length_le (by omega), List.drop_of_length_le (by omega), List.append_nil] at this
    exact this
end
end Go.SLYtpcjdohmjmeehaaGreat
namespace Go.SLYtpcjdohmjmeehaaGreat
open Go Go.RowKit

/-- What holds at a deferred function's end. -/
def QC (R : Ending → FrameMode → World → Prop) (u : FrameMode) : Exit → Act → World → Prop
  | .normal, a, w | .ret, a, w => a.defers = [] ∧ R (.returned (.tuple #[])) u w
  | _, _, _ => False
section
variable {P : Program} {W : World} {N : Nat} {Q : Exit → Act → World → Prop} {L : List (Nat × Option Value)} {H K R : List HProp} {O : Array Oper} {T : TypeId} {D : List Deferred}
theorem env_enter {args : List Value} (ha : Nat.ble args.length N = true) : Env N (enum 0 args) { tmps := args.toArray ++ Array.replicate (N - args.toArray.size) undef, defers := [] } := by
  have hle : args.length ≤ N := Nat.ble_eq.mp ha
  refine ⟨by simp; omega, fun k v hv => ?_, rfl⟩
  obtain ⟨_, h2⟩ := look_enum args 0 k v hv
  have hk : k < args.length := by
    have := (List.getElem?_eq_some_iff.1 h2).1; simpa using this
  show (args.toArray ++ Array.replicate (N - args.toArray.size) undef)[k]? = some v
  rw [Array.getElem?_append_left (by simpa using hk)]
  simpa using h2
theorem callsD_recover {f : FuncId} {fn : Func} {rest : Code} {id d : Nat} {pos : String} {after : Array Edge} {args : List Value} {Rc : Ending → FrameMode → World → Prop} {u u2 : FrameMode} {v : Value} {w : World} (hf : P.funcs[f]? = some fn)
    (hb : fn.body = some (.seq (.region id #[⟨some d, .call ⟨.builtin .recover, #[], #[]⟩, T, pos, after, none⟩] false) rest)) (hn : fn.ntmps = N) (ha : Nat.ble args.length N = true) (hd : Nat.blt d N = true) (hr : fn.results = #[])
    (hu : ∀ (c : Frame) (cs : List Frame), c.mode = u → (recoverD (c :: cs) = some (v, { c with mode := u2 } :: cs)) ∨ (recoverD (c :: cs) = none ∧ v = .nilIface ∧ u2 = u))
    (hs : Sat W w (seps H)) (h : GoC P W N (QC Rc u2) rest ((d, some v) :: enum 0 args) H) : CallsD P f args.toArray u w Rc := by
  refine callsD_of_wpS hf hb fun c cs hc => wpS_seq (wpS_region ?_)
  have henv : Env N ((d, some v) :: enum 0 args) (({ tmps := args.toArray ++ Array.replicate (fn.ntmps - args.toArray.size) undef, defers := [] } : Act).put (some d) v) := by
    rw [hn]; exact (env_enter ha).put (Nat.blt_eq.mp hd) v
  have hw := h _ w henv hs
  have hfin : rest.wpS P (bodyPostS P fn c cs Rc) (({ tmps := args.toArray ++ Array.replicate (fn.ntmps - args.toArray.size) undef, defers := [] } : Act).put (some d) v) ({ c with mode := u2 } :: cs) w := by
    refine wpS_of_wp (wp_mono hw fun e a' w' hq => ?_)
    cases e with
    | normal => exact ⟨hq.1, u2, rfl, _, results_none hr _ _ _, hq.2⟩
    | ret => exact ⟨hq.1, u2, rfl, _, results_none hr _ _ _, hq.2⟩
    | exit id => exact hq.elim
    | goto l => exact hq.elim
    | panic c => exact hq.elim
    | outgrown => exact hq.elim
  have hlist : List.range (#[(⟨some d, .call ⟨.builtin .recover, #[], #[]⟩, T, pos, after, none⟩ : Oper)]).size = [0] := rfl
  rw [hlist]
  simp only [wpOpsS, List.getElem?_toArray, List.getElem?_cons_zero]
  rw [if_pos (wanted_none rfl)]
  have hx : (execOp ({ tmps := args.toArray ++ Array.replicate (fn.ntmps - args.toArray.size) undef, defers := [] } : Act).eval ⟨some d, .call ⟨.builtin .recover, #[], #[]⟩, T, pos, after, none⟩).run P w = .ok .recover w := by
    simp [execOp, resolve, invoke, builtin]
  rw [hx]
  simp only
  rcases hu c cs hc with e | ⟨e, rfl, rfl⟩
  · rw [e]; exact hfin
  · rw [e]
    have : ({ c with mode := u2 } : Frame) = c := by subst hc; rfl
    rw [this] at hfin
    exact hfin
theorem run_eq_nilIf {xT : TypeId} {ms : Array (String × TypeId)} (hu : P.underlying xT = some (.interface ms)) (w : World) : (Op.equal xT .nilIface .nilIface).run P w = .ok true w := by
  show (Op.equalIn (9999 + 1) xT _ _).run P w = _
  unfold Op.equalIn
  simp [run_underlying hu]
theorem run_eq_someIf {xT : TypeId} {ms : Array (String × TypeId)} {t : TypeId} {u : Value} (hu : P.underlying xT = some (.interface ms)) (w : World) : (Op.equal xT (.iface t u) .nilIface).run P w = .ok false w := by
  show (Op.equalIn (9999 + 1) xT _ _).run P w = _
  unfold Op.equalIn
  simp [run_underlying hu]
theorem Y.eqIf0 {xT yT : TypeId} {x : Operand} {ms : Array (String × TypeId)} (hu : P.underlying xT = some (.interface ms)) (hx : ev L x = some .nilIface) : Yields P W N (.binOp .eql xT x (.const .nilIface) yT) T L H (.bool true) :=
  Y.bin hx rfl fun w => by simp [eqGuard, binOp, run_eq_nilIf hu]
theorem Y.eqIf1 {xT yT : TypeId} {x : Operand} {t : TypeId} {u : Value} {ms : Array (String × TypeId)} (hu : P.underlying xT = some (.interface ms)) (hx : ev L x = some (.iface t u)) : Yields P W N (.binOp .eql xT x (.const .nilIface) yT) T L H (.bool false) :=
  Y.bin hx rfl fun w => by simp [eqGuard, binOp, run_eq_someIf hu]
theorem GoE.endC {Rc : Ending → FrameMode → World → Prop} {u : FrameMode} (h : ∀ w, Sat W w (seps H) → Rc (.returned (.tuple #[])) u w) : GoE W N (QC Rc u) .normal L H := fun a w ha hs => ⟨ha.defers, h w hs⟩
theorem results_3 {fn : Func} {a : Act} {w : World} {t1 t2 t3 T1 T2 T3 b1 b2 b3 : Nat} {cs : List Value} {v2 v3 : Value} (ha : EnvD N L D a) (hs : Sat W w (seps H)) (hr : fn.results = #[.cell t1 T1, .cell t2 T2, .cell t3 T3]) (h1 : look L t1 = some (ptr b1)) (h2 : look L t2 = some (ptr b2)) (h3 : look L t3 = some (ptr b3))
    (g1 : ∀ w, (isAgg T1).run P w = .ok true w) (z1 : ∀ w, (sizeOf T1).run P w = .ok cs.length w) (g2 : ∀ w, (isAgg T2).run P w = .ok false w) (g3 : ∀ w, (isAgg T3).run P w = .ok false w) (c1 : Cells W H b1 0 cs) (c2 : Cell W H b2 0 v2) (c3 : Cell W H b3 0 v3) :
    (results fn a.tmps).run P w = .ok (.tuple #[.agg cs.toArray, v2, v3]) w := by
  have hl := run_loadAgg (P := P) (w := w) g1 z1 fun i v hv => c1 i v hv w hs
  have hl2 : (loadVar T2 ⟨b2, 0, none⟩).run P w = .ok v2 w := by simp [loadVar, g2, c2 w hs]
  have hl3 : (loadVar T3 ⟨b3, 0, none⟩).run P w = .ok v3 w := by simp [loadVar, g3, c3 w hs]
  simp [results, hr, ha.get _ _ h1, ha.get _ _ h2, ha.get _ _ h3, ptr, asAddr, hl, hl2, hl3]
end
end Go.SLYtpcjdohmjmeehaaGreat
namespace Go.SLYtpcjdohmjmeehaaGreat
open Go Go.RowKit

def mtxR (v : Value) (l : List Mtx) (i : Nat) : HProp := wands (mtxAt (blk v) (ofs v + i * 3)) (fun m' => mtxsH v (l.set i m'))
def smpR (v : Value) (l : List Smp) (i : Nat) : HProp := wands (smpAt (blk v) (ofs v + i * 2)) (fun m' => smpsH v (l.set i m'))
def cndR (v : Value) (l : List (List Wtr)) (i : Nat) : HProp := wands (rowH (blk v) (ofs v + i * 1)) (fun m' => cndsH v (l.set i m'))
theorem mtx_out {v : Value} {l : List Mtx} {i : Nat} {m : Mtx} (hm : l[i]? = some m) : ∀ h, mtxsH v l h → seps [mtxAt (blk v) (ofs v + i * 3) m, mtxR v l i] h := mtx_open hm
theorem smp_out {v : Value} {l : List Smp} {i : Nat} {m : Smp} (hm : l[i]? = some m) : ∀ h, smpsH v l h → seps [smpAt (blk v) (ofs v + i * 2) m, smpR v l i] h := smp_open hm
theorem cnd_out {v : Value} {l : List (List Wtr)} {i : Nat} {m : List Wtr} (hm : l[i]? = some m) : ∀ h, cndsH v l h → seps [rowH (blk v) (ofs v + i * 1) m, cndR v l i] h := cnd_open hm
theorem mtx_in {v : Value} {l : List Mtx} {i : Nat} (m' : Mtx) : ∀ h, seps [mtxAt (blk v) (ofs v + i * 3) m', mtxR v l i] h → mtxsH v (l.set i m') h := wands_use m'
theorem smp_in {v : Value} {l : List Smp} {i : Nat} (m' : Smp) : ∀ h, seps [smpAt (blk v) (ofs v + i * 2) m', smpR v l i] h → smpsH v (l.set i m') h := wands_use m'
theorem cnd_in {v : Value} {l : List (List Wtr)} {i : Nat} (m' : List Wtr) : ∀ h, seps [rowH (blk v) (ofs v + i * 1) m', cndR v l i] h → cndsH v (l.set i m') h := wands_use m'
theorem set_same {α : Type} {l : List α} {i : Nat} {x : α} (h : l[i]? = some x) : l.set i x = l := by
  apply List.ext_getElem?
  intro j
  by_cases e : i = j
  · subst e; rw [List.getElem?_set_self (List.getElem?_eq_some_iff.1 h).1, h]
  · rw [List.getElem?_set_ne e]
theorem mtx_back {v : Value} {l : List Mtx} {i : Nat} {m : Mtx} (hm : l[i]? = some m) : ∀ h, seps [mtxAt (blk v) (ofs v + i * 3) m, mtxR v l i] h → mtxsH v l h := fun h a => by have := mtx_in m h a; rwa [set_same hm] at this
theorem smp_back {v : Value} {l : List Smp} {i : Nat} {m : Smp} (hm : l[i]? = some m) : ∀ h, seps [smpAt (blk v) (ofs v + i * 2) m, smpR v l i] h → smpsH v l h := fun h a => by have := smp_in m h a; rwa [set_same hm] at this
theorem isNone_yes {p : Prop} [Decidable p] {α : Type} {a : α} (h : (if p then some a else none).isNone = false) : p := by
  by_cases hp : p
  · exact hp
  · rw [if_neg hp] at h; cases h
theorem isNone_no {p : Prop} [Decidable p] {α : Type} {a : α} (h : (if p then some a else none).isNone = true) : ¬ p := by
  intro hp
  rw [if_pos hp] at h; cases h
theorem isNone_yes2 {p : Prop} [Decidable p] {α : Type} {a : α} (h : (!(if p then some a else none).isNone) = true) : p := isNone_yes (by simpa only [Bool.not_eq_true'] using h)
theorem isNone_no2 {p : Prop} [Decidable p] {α : Type} {a : α} (h : (!(if p then some a else none).isNone) = false) : ¬ p := isNone_no (by simpa only [Bool.not_eq_false'] using h)
section
variable {g : Gates} {who m c choice s : Int} {x : Mtx} {r : List Wtr} {y : Smp}
theorem g_lock_no (h : ¬ (0 ≤ m ∧ m < (g.mtx.length : Int))) : g.lock who m = (false, 1, g) := by unfold Gates.lock; rw [geti_none h]
theorem g_lock_busy (h : geti g.mtx m = some x) (hb : (g.waits who || x.is who) = true) : g.lock who m = (false, 4, g) := by unfold Gates.lock; rw [h]; simp only; rw [if_pos (by simpa using hb)]
theorem g_lock_go (h : geti g.mtx m = some x) (hb : (g.waits who || x.is who) = false) : g.lock who m = ((x.lock who).1, 0, { g with mtx := g.mtx.set m.toNat (x.lock who).2 }) := by unfold Gates.lock; rw [h]; simp only; rw [if_neg (by simpa using hb)]
theorem g_unlock_no (h : ¬ (0 ≤ m ∧ m < (g.mtx.length : Int))) : g.unlock who m choice = (0, false, 1, g) := by unfold Gates.unlock; rw [geti_none h]
theorem g_unlock_own (h : geti g.mtx m = some x) (hb : x.is who = false) : g.unlock who m choice = (0, false, 5, g) := by unfold Gates.unlock; rw [h]; simp only; rw [if_neg (by simpa using hb)]
theorem g_unlock_go (h : geti g.mtx m = some x) (hb : x.is who = true) : g.unlock who m choice = ((x.unlock choice).1, (x.unlock choice).2.1, 0, { g with mtx := g.mtx.set m.toNat (x.unlock choice).2.2 }) := by unfold Gates.unlock; rw [h]; simp only; rw [if_pos hb]
theorem g_wait_no1 (h : ¬ (0 ≤ m ∧ m < (g.mtx.length : Int))) : g.wait who c m choice = (0, false, 1, g) := by unfold Gates.wait; rw [geti_none h]
theorem g_wait_no2 (h : ¬ (0 ≤ c ∧ c < (g.cnd.length : Int))) : g.wait who c m choice = (0, false, 1, g) := by unfold Gates.wait; rw [geti_none h]; cases geti g.mtx m <;> rfl
theorem g_wait_busy (h : geti g.mtx m = some x) (h2 : geti g.cnd c = some r) (hb : g.waits who = true) : g.wait who c m choice = (0, false, 4, g) := by unfold Gates.wait; rw [h, h2]; simp only; rw [if_pos hb]
theorem g_wait_own (h : geti g.mtx m = some x) (h2 : geti g.cnd c = some r) (hb : g.waits who = false) (ho : x.is who = false) : g.wait who c m choice = (0, false, 5, g) := by unfold Gates.wait; rw [h, h2]; simp only; rw [if_neg (by rw [hb]; simp), if_neg (by rw [ho]; simp)]
theorem g_wait_go (h : geti g.mtx m = some x) (h2 : geti g.cnd c = some r) (hb : g.waits who = false) (ho : x.is who = true) : g.wait who c m choice = ((x.unlock choice).1, (x.unlock choice).2.1, 0, { g with mtx := g.mtx.set m.toNat (x.unlock choice).2.2, cnd := g.cnd.set c.toNat (r ++ [⟨who, m⟩]) }) := by unfold Gates.wait; rw [h, h2]; simp only; rw [if_neg (by rw [hb]; simp), if_pos ho]
theorem g_signal_no {all : Bool} (h : ¬ (0 ≤ c ∧ c < (g.cnd.length : Int))) : g.signal c choice all = ([], 1, g) := by unfold Gates.signal; rw [geti_none h]
theorem g_signal_go {all : Bool} {z : List Wtr × List Mtx × List Int} (h2 : geti g.cnd c = some r) (hz : sigLoop (if all = true then r.length else min r.length 1) (if all = true then 0 else choice) r g.mtx [] = z) : g.signal c choice all = (z.2.2, 0, { g with mtx := z.2.1, cnd := g.cnd.set c.toNat z.1 }) := by unfold Gates.signal; rw [h2]; simp only; rw [hz]
theorem g_down_no (h : ¬ (0 ≤ s ∧ s < (g.sem.length : Int))) : g.down who s = (false, 1, g) := by unfold Gates.down; rw [geti_none h]
theorem g_down_busy (h : geti g.sem s = some y) (hb : g.waits who = true) : g.down who s = (false, 4, g) := by unfold Gates.down; rw [h]; simp only; rw [if_pos hb]
theorem g_down_go (h : geti g.sem s = some y) (hb : g.waits who = false) (hc : 0 < y.count) : g.down who s = (true, 0, { g with sem := g.sem.set s.toNat { y with count := y.count - 1 } }) := by unfold Gates.down; rw [h]; simp only; rw [if_neg (by rw [hb]; simp), if_pos hc]
theorem g_down_wait (h : geti g.sem s = some y) (hb : g.waits who = false) (hc : ¬ 0 < y.count) : g.down who s = (false, 0, { g with sem := g.sem.set s.toNat { y with wait := y.wait ++ [⟨who, 0⟩] } }) := by unfold Gates.down; rw [h]; simp only; rw [if_neg (by rw [hb]; simp), if_neg hc]
theorem g_up_no (h : ¬ (0 ≤ s ∧ s < (g.sem.length : Int))) : g.up s choice = (0, false, 1, g) := by unfold Gates.up; rw [geti_none h]
theorem g_up_take (h : geti g.sem s = some y) (hb : (takeW y.wait choice).2.1 = true) : g.up s choice = ((takeW y.wait choice).1.who, true, 0, { g with sem := g.sem.set s.toNat { y with wait := (takeW y.wait choice).2.2 } }) := by unfold Gates.up; rw [h]; simp only; rw [if_pos hb]
theorem g_up_full (h : geti g.sem s = some y) (hb : (takeW y.wait choice).2.1 = false) (hc : 1048576 ≤ y.count) : g.up s choice = (0, false, 2, g) := by unfold Gates.up; rw [h]; simp only; rw [if_neg (by rw [hb]; simp), if_pos hc]
theorem g_up_go (h : geti g.sem s = some y) (hb : (takeW y.wait choice).2.1 = false) (hc : ¬ 1048576 ≤ y.count) : g.up s choice = (0, false, 0, { g with sem := g.sem.set s.toNat { y with count := y.count + 1 } }) := by unfold Gates.up; rw [h]; simp only; rw [if_neg (by rw [hb]; simp), if_neg hc]
end
theorem take_none {l : List Wtr} {c : Int} (h : (takeW l c).2.1 = false) : (takeW l c).2.2 = l := by
  unfold takeW at *
  split
  · rfl
  · rename_i hl; rw [if_neg hl] at h; cases h
/-- A step of a signal's round. -/
def sigL (r : List Wtr) (c : Int) (ms : List Mtx) : Bool × Mtx := (ms.getD (takeW r c).1.mutex.toNat mtxZ).lock (takeW r c).1.who
theorem sig_step {n : Nat} {c : Int} {r : List Wtr} {ms : List Mtx} {out : List Int} :
    sigLoop (n + 1) c r ms out = sigLoop n c (takeW r c).2.2 (ms.set (takeW r c).1.mutex.toNat (sigL r c ms).2) (if (sigL r c ms).1 = true then out ++ [(takeW r c).1.who] else out) := rfl
theorem take_mem {l : List Wtr} {c : Int} (h : l.length ≠ 0) : (takeW l c).1 ∈ l ∧ (takeW l c).2.2.length + 1 = l.length ∧ (∀ w ∈ (takeW l c).2.2, w ∈ l) := by
  rw [take_ok h]
  have hp : pick c l.length < l.length := pick_lt (by omega)
  refine ⟨List.mem_of_getElem? (getD_some hp), ?_, fun w hw => (List.eraseIdx_sublist _ _).mem hw⟩
  have := List.length_eraseIdx_of_lt hp
  show (l.eraseIdx (pick c l.length)).length + 1 = _
  omega
theorem lock_len {m : Mtx} {who : Int} : (m.lock who).2.wait.length ≤ m.wait.length + 1 := by
  unfold Mtx.lock
  split <;> simp
structure SigOk (r0 : List Wtr) (ms0 : List Mtx) (n0 : Nat) (c : Int) (k : Nat) (r : List Wtr) (ms : List Mtx) (out : List Int) : Prop where
  hk : k ≤ n0
  len : r.length + k = r0.length
  mem : ∀ w ∈ r, w ∈ r0
  ml : ms.length = ms0.length
  mw : ∀ m ∈ ms, m.wait.length ≤ 1000000 + k
  ol : out.length ≤ k
  eq : sigLoop n0 c r0 ms0 [] = sigLoop (n0 - k) c r ms out
theorem SigOk.zero {r0 : List Wtr} {ms0 : List Mtx} {n0 : Nat} {c : Int} (h : ∀ m ∈ ms0, m.wait.length ≤ 1000000) : SigOk r0 ms0 n0 c 0 r0 ms0 [] := ⟨Nat.zero_le _, rfl, fun _ h => h, rfl, h, Nat.le_refl _, rfl⟩
theorem SigOk.next {r0 r : List Wtr} {ms0 ms : List Mtx} {n0 k : Nat} {c : Int} {out : List Int} (h : SigOk r0 ms0 n0 c k r ms out) (hk : k < n0) (h0 : n0 ≤ r0.length) :
    SigOk r0 ms0 n0 c (k + 1) (takeW r c).2.2 (ms.set (takeW r c).1.mutex.toNat (sigL r c ms).2) (if (sigL r c ms).1 = true then out ++ [(takeW r c).1.who] else out) := by
  have hl := h.len
  obtain ⟨h1, h2, h3⟩ := take_mem (l := r) (c := c) (by omega)
  refine ⟨by omega, by omega, fun w hw => h.mem w (h3 w hw), by rw [List.length_set]; exact h.ml, fun m hm => ?_, ?_, ?_⟩
  · rcases List.mem_or_eq_of_mem_set hm with e | e
    · have := h.mw m e; omega
    · subst e
      unfold sigL
      have := lock_len (m := ms.getD (takeW r c).1.mutex.toNat mtxZ) (who := (takeW r c).1.who)
      have h5 : (ms.getD (takeW r c).1.mutex.toNat mtxZ).wait.length ≤ 1000000 + k := by
        rw [List.getD_eq_getElem?_getD]
        cases e : ms[(takeW r c).1.mutex.toNat]? with
        | none => exact Nat.zero_le _
        | some m => exact h.mw m (List.mem_of_getElem? e)
      omega
  · have := h.ol
    split <;> simp <;> omega
  · rw [h.eq, show n0 - k = (n0 - (k + 1)) + 1 by omega, sig_step]
theorem SigOk.done {r0 r : List Wtr} {ms0 ms : List Mtx} {n0 k : Nat} {c : Int} {out : List Int} (h : SigOk r0 ms0 n0 c k r ms out) (hk : ¬ k < n0) : sigLoop n0 c r0 ms0 [] = (r, ms, out) := by
  rw [h.eq, show n0 - k = 0 by omega]; rfl
end Go.SLYtpcjdohmjmeehaaGreat
namespace Go.SLYtpcjdohmjmeehaaGreat
open Go Go.RowKit

structure TubLen (t : Tub) : Prop where
  w : t.words.length ≤ 1000000
  p : t.puts.length ≤ 1000000
  g : t.gets.length ≤ 1000000
section
variable {t : Tub} {who x w : Int} {r : List Int} {p : Ptr} {q : List Ptr}
theorem put_waits (h : t.waits who = true) : t.put who x = (false, 0, false, t) := by unfold Tub.put; rw [if_pos h]
theorem put_get (h : t.waits who = false) (hg : t.gets = w :: r) : t.put who x = (true, w, true, { t with gets := r }) := by unfold Tub.put; rw [if_neg (by rw [h]; simp), hg]
theorem put_room (h : t.waits who = false) (hg : t.gets = []) (hr : (t.words.length : Int) < t.room) : t.put who x = (true, 0, false, { t with words := t.words ++ [x] }) := by unfold Tub.put; rw [if_neg (by rw [h]; simp), hg]; simp only; rw [if_pos hr]
theorem put_full (h : t.waits who = false) (hg : t.gets = []) (hr : ¬ (t.words.length : Int) < t.room) : t.put who x = (false, 0, false, { t with puts := t.puts ++ [⟨who, x⟩] }) := by unfold Tub.put; rw [if_neg (by rw [h]; simp), hg]; simp only; rw [if_neg hr]
theorem get_waits (h : t.waits who = true) : t.get who = (0, false, 0, false, t) := by unfold Tub.get; rw [if_pos h]
theorem get_none (h : t.waits who = false) (hg : t.words = []) : t.get who = (0, false, 0, false, { t with gets := t.gets ++ [who] }) := by unfold Tub.get; rw [if_neg (by rw [h]; simp), hg]
theorem get_one (h : t.waits who = false) (hg : t.words = x :: r) (hp : t.puts = []) : t.get who = (x, true, 0, false, { t with words := r }) := by unfold Tub.get; rw [if_neg (by rw [h]; simp), hg, hp]
theorem get_two (h : t.waits who = false) (hg : t.words = x :: r) (hp : t.puts = p :: q) : t.get who = (x, true, p.who, true, { t with words := r ++ [p.x], puts := q }) := by unfold Tub.get; rw [if_neg (by rw [h]; simp), hg, hp]
end
theorem cons_of {α : Type} {l : List α} (h : ¬ l.length = 0) : ∃ x r, l = x :: r := by
  cases l with
  | nil => exact absurd rfl h
  | cons x r => exact ⟨x, r, rfl⟩
theorem nil_of {α : Type} {l : List α} (h : l.length = 0) : l = [] := List.eq_nil_of_length_eq_zero h
section
variable {d : Dsk} {r : Rqs} {k : Int}
theorem ask_arg (h : (decide (r.block < 0) || decide ((d.blocks.length : Int) ≤ r.block)) = true) : d.ask r = (1, d) := by unfold Dsk.ask; rw [if_pos (by simpa using h)]
theorem ask_busy (h : (decide (r.block < 0) || decide ((d.blocks.length : Int) ≤ r.block)) = false) (h2 : d.wait.any (fun x => decide (x.who = r.who)) = true) : d.ask r = (4, d) := by unfold Dsk.ask; rw [if_neg (by simpa using h), if_pos h2]
theorem ask_go (h : (decide (r.block < 0) || decide ((d.blocks.length : Int) ≤ r.block)) = false) (h2 : d.wait.any (fun x => decide (x.who = r.who)) = false) : d.ask r = (0, { d with wait := d.wait ++ [r] }) := by unfold Dsk.ask; rw [if_neg (by simpa using h), if_neg (by rw [h2]; simp)]
def rqsZ : Rqs := ⟨0, 0, false, 0⟩
theorem done_none (h : d.wait.length = 0) : d.done k = (⟨0, 0, false, 0⟩, 0, false, d) := by unfold Dsk.done; rw [if_pos h]
theorem done_write (h : ¬ d.wait.length = 0) (hr : d.wait.getD (pick k d.wait.length) rqsZ = r) (hw : r.write = true) : d.done k = (r, 0, true, { d with wait := d.wait.eraseIdx (pick k d.wait.length), blocks := d.blocks.set r.block.toNat r.x }) := by
  subst hr; unfold rqsZ at *; unfold Dsk.done; rw [if_neg h]; simp only; rw [if_pos hw]
theorem done_read (h : ¬ d.wait.length = 0) (hr : d.wait.getD (pick k d.wait.length) rqsZ = r) (hw : r.write = false) : d.done k = (r, d.blocks.getD r.block.toNat 0, true, { d with wait := d.wait.eraseIdx (pick k d.wait.length) }) := by
  subst hr; unfold rqsZ at *; unfold Dsk.done; rw [if_neg h]; simp only; rw [if_neg (by rw [hw]; simp)]
end
end Go.SLYtpcjdohmjmeehaaGreat
namespace Go.SLYtpcjdohmjmeehaaGreat
open Go Go.RowKit

def dngC (b p : Nat) (d : Dng) (vw ve : Value) : List Value := [ptr b, .int .i64 (d.n : Int), ptr p, .int .i64 d.i.op, .int .i64 d.i.a, .int .i64 d.i.b, .int .i64 d.i.c, .int .u64 d.i.n, .int .i64 d.choice, vw, .bool d.out.stopped, .bool d.out.ended, .bool d.out.yielded, ve]
/-- An instruction that is done; its thread's place. -/
def dngX (bd b p : Nat) (ps : List (Option Nat)) (d : Dng) : HProp := exP2 (fun _ _ => True) fun vw ve => [arr bd 0 (dngC b p d vw ve), sl intE 1 vw d.out.woken, sl recE 6 ve d.ends, spcX b ps d.s]
def dngY (bd b p : Nat) (d : Dng) : HProp := exP1 (fun _ => True) fun ps => [dngX bd b p ps d]
def effE (v : Value) (e : Eff) : List Value := [v, .bool e.stopped, .bool e.ended, .bool e.yielded]

theorem thrs_out {ps : List (Option Nat)} {ts : List (Option Thr)} {n p : Nat} {t : Thr} (hp : ps[n]? = some (some p)) (ht : ts[n]? = some (some t)) : ∀ h, thrsH ps ts h → seps [arr p 0 (thrC t), thrsH (ps.set n none) (ts.set n none)] h := fun h a => by
  obtain ⟨q, hq, a'⟩ := thrs_get ht h a
  rw [hp] at hq; cases hq
  exact sep2.2 a'
theorem thrs_keep {ps : List (Option Nat)} {ts : List (Option Thr)} {n p : Nat} {t : Thr} (hp : ps[n]? = some (some p)) (ht : ts[n]? = some (some t)) : ∀ h, seps [arr p 0 (thrC t), thrsH (ps.set n none) (ts.set n none)] h → thrsH ps ts h := fun h a => by
  have := thrs_shut (List.getElem?_eq_some_iff.1 ht).1 hp h a
  rwa [set_same ht] at this
theorem thr_get {t : Thr} : ∀ {n : Nat} (_ : n < 8), (thrC t)[2 + n * 1]? = some (.int .u64 (t.regs.getD n 0))
  | 0, _ => rfl
  | 1, _ => rfl
  | 2, _ => rfl
  | 3, _ => rfl
  | 4, _ => rfl
  | 5, _ => rfl
  | 6, _ => rfl
  | 7, _ => rfl
  | n + 8, h => absurd h (by omega)
theorem thr_set' {fn pc handle why value joiner op into : Int} {det : Bool} {a0 a1 a2 a3 a4 a5 a6 a7 : Int} (x : Int) : ∀ {n : Nat} (_ : n < 8), (thrC ⟨fn, pc, [a0, a1, a2, a3, a4, a5, a6, a7], handle, why, value, det, joiner, op, into⟩).set (2 + n * 1) (.int .u64 x) = thrC ⟨fn, pc, [a0, a1, a2, a3, a4, a5, a6, a7].set n x, handle, why, value, det, joiner, op, into⟩
  | 0, _ => rfl
  | 1, _ => rfl
  | 2, _ => rfl
  | 3, _ => rfl
  | 4, _ => rfl
  | 5, _ => rfl
  | 6, _ => rfl
  | 7, _ => rfl
  | n + 8, h => absurd h (by omega)
theorem thr_set {t : Thr} (x : Int) {n : Nat} (hn : n < 8) (hl : t.regs.length = 8) : (thrC t).set (2 + n * 1) (.int .u64 x) = thrC (t.put (n : Int) x) := by
  obtain ⟨fn, pc, regs, handle, why, value, det, joiner, op, into⟩ := t
  match regs, hl with
  | [a0, a1, a2, a3, a4, a5, a6, a7], _ => exact thr_set' x hn
theorem thr_setI {t : Thr} (x : Int) {i : Int} (h0 : 0 ≤ i) (hn : i < 8) (hl : t.regs.length = 8) : (thrC t).set (2 + i.toNat * 1) (.int .u64 x) = thrC (t.put i x) := by
  rw [thr_set x (by omega) hl, show ((i.toNat : Nat) : Int) = i from by omega]
theorem thr_why (t : Thr) (x : Int) : (thrC t).set 11 (.int .i64 x) = thrC { t with why := x } := rfl
theorem thr_value (t : Thr) (x : Int) : (thrC t).set 12 (.int .u64 x) = thrC { t with value := x } := rfl
theorem thr_det (t : Thr) (x : Bool) : (thrC t).set 13 (.bool x) = thrC { t with detached := x } := rfl
theorem thr_joiner (t : Thr) (x : Int) : (thrC t).set 14 (.int .i64 x) = thrC { t with joiner := x } := rfl
theorem thr_op (t : Thr) (x : Int) : (thrC t).set 15 (.int .i64 x) = thrC { t with op := x } := rfl
theorem thr_into (t : Thr) (x : Int) : (thrC t).set 16 (.int .i64 x) = thrC { t with into := x } := rfl
theorem put_len {t : Thr} {i x : Int} : (t.put i x).regs.length = t.regs.length := by unfold Thr.put; simp
section
variable {fv sv pv : Value} {p : Prg} {bt : Nat} {ps : List (Option Nat)} {vm : Value} {bg : Nat} {vt : Value} {bk bw : Nat} {vr u : Value}
theorem spc_recs : (spcC fv sv pv p bt ps vm bg vt bk bw vr).set 30 u = spcC fv sv pv p bt ps vm bg vt bk bw u := rfl
theorem spc_mem : (spcC fv sv pv p bt ps vm bg vt bk bw vr).set 25 u = spcC fv sv pv p bt ps u bg vt bk bw vr := rfl
end
/-- What a thread's words are. -/
structure ThrR (t : Thr) : Prop where
  l : t.regs.length = 8
  r : ∀ n, 0 ≤ t.regs.getD n 0 ∧ t.regs.getD n 0 ≤ 18446744073709551615
  i : -1 ≤ t.into ∧ t.into < 8
  v : 0 ≤ t.value ∧ t.value ≤ 18446744073709551615
  h : 0 ≤ t.handle ∧ t.handle ≤ 18446744073709551615
theorem spc_t {s : Spc} {n : Nat} {t : Thr} (h : s.thr[n]? = some (some t)) : s.t n = t := by unfold Spc.t; rw [List.getD_eq_getElem?_getD, h]; rfl
theorem dng_t {d : Dng} {t : Thr} (h : d.s.thr[d.n]? = some (some t)) : d.t = t := spc_t h
def atP (ps : List (Option Nat)) (n : Int) : Option Nat := if 0 ≤ n ∧ n < 16 then ps.getD n.toNat none else none
theorem wake_eq {t : Thr} {y : Int} (t1 : Thr) (h : t1 = if t.into = -1 then t else t.put t.into y) : t.wakes y = { t1.put 7 0 with why := 0, into := -1 } := by unfold Thr.wakes; rw [h]
section
variable {P : Program} {W : World} {N : Nat} {T : TypeId} {L : List (Nat × Option Value)} {H : List HProp} {α : Type}
/-- A struct stored whose first part is a slice's value. -/
theorem Does.staS {E : TypeId} {x y : Operand} {pos : String} {after : Array Edge} {guard : Option (Nat × Bool)} {b o : Nat} {v : Value} {vs cs : List Value} {H' : List HProp} {enc : α → List Value} {k : Nat} {xs : List α} (hz : ∀ w, (sizeOf E).run P w = .ok (vs.length + 1) w) (hx : ev L x = some (.pointer (some ⟨b, o, none⟩))) (hy : ev L y = some (.agg (v :: vs).toArray)) [hv : ReadsC W H v enc k xs] (hvs : vs.all (·.oneCell') = true)
    [h0 : HasArr H b o cs] [hr : SetArr H b o cs (v :: vs) H'] (hi : cs.length = vs.length + 1) :
    Does P W N ⟨none, .store E x y, T, pos, after, guard⟩ L H (fun L1 H1 => L1 = L ∧ H1 = H') := fun a w ha hs Kp hK => Does.storeAll hx hy hz (fun c hc => by
      rcases List.mem_cons.1 hc with rfl | hc
      · exact hv.rd.one w hs
      · exact List.all_eq_true.1 hvs c hc) hr.repl hi a w ha hs Kp hK
end
end Go.SLYtpcjdohmjmeehaaGreat
