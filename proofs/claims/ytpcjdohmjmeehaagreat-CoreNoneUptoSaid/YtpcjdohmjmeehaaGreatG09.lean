/- Walks of functions, and what they compute. Conditions: none, this text proves no statement. -/
import Derived.Test.YtpcjdohmjmeehaaGreatProg
import Derived.Test.YtpcjdohmjmeehaaGreatG08
import Derived.KernelRfl
import Derived.Test.YtpcjdohmjmeehaaGreatG06
import Derived.Laws.FloatBits
namespace Go.SLYtpcjdohmjmeehaaGreat
open Go Go.RowKit Go.Proofs

set_option maxRecDepth 20000 in
theorem dng_moved {W : World} {bd b p : Nat} {ps : List (Option Nat)} {d : Dng} {l : List Int} {u : Value} (hl : ∀ w ∈ l, 0 ≤ w ∧ LiveAt ps d.s w.toNat) (hw : ∀ w ∈ d.waits, 0 ≤ w ∧ LiveAt ps d.s w.toNat) (hm : d.s.prg.mutexes ≤ (d.s.gates.mtx.length : Int)) (hgm : d.s.gates.mtx.length ≤ 1000000) (hmw : ∀ x ∈ d.s.gates.mtx, x.wait.length ≤ 1000000) (hb : d.ends.length + l.length ≤ 1000000 ∧ d.out.woken.length + l.length ≤ 1000000) : Fn Tryz.prog W 95 [ptr bd, u] [dngX bd b p ps d, sl intE 1 u l] Unit (fun _ => .tuple #[]) (fun _ => True) (fun _ => [dngX bd b p ps (d.moved l), sl intE 1 u l]) := by
  refine Fn.intro (N := 57) Tryz.func95 rfl Tryz.ntmps95 rfl fun F => ?_
  show GoC _ _ _ _ _ _ [dngX bd b p ps d, sl intE 1 u l, F]
  refine GoC.o2 (C := dngX bd b p ps d) .auto rfl ?_
  rintro vw ve -
  refine GoC.o10 (C := spcX b ps d.s) .auto rfl ?_
  rintro fv sv pv bt vm bg vt bk bw vr -
  have hww : waitsTo d d.s.prg.mutexes.toNat = d.waits := rfl
  refine GoC.seq ?_
  refine GoC.seq ?_
  refine GoC.region ?_
  refine GoL.y rfl (Y.move rfl) ?_
  refine GoL.y rfl (Y.nilCheck rfl) ?_
  refine GoL.y rfl (Y.fieldAddrZ 27 Tryz.underlying138 rfl Tryz.sizeOf27 rfl) ?_
  refine GoL.y rfl (Y.load Tryz.isAgg27 rfl (Cell.a (by rfl))) ?_
  refine GoL.y rfl (Y.nilCheck rfl) ?_
  refine GoL.y rfl (Y.fieldAddrZ 25 Tryz.underlying118 rfl Tryz.sizeOf25 rfl) ?_
  refine GoL.y rfl (Y.fieldAddr0 2 3 Tryz.underlying25 rfl Tryz.sizeOf3 rfl) ?_
  refine GoL.y rfl (Y.load Tryz.isAgg3 rfl (Cell.a (by rfl))) ?_
  refine GoL.y rfl (Y.move rfl) ?_
  refine GoL.nil ?_
  refine GoE.then_normal ?_
  refine GoC.block ?_
  refine GoC.loopK (X := Nat) [4, 6, 17, 18, 19, 20, 21, 22, 23, 24, 25, 26, 27, 28, 29, 30, 31, 32, 33, 34, 35, 36, 37, 38, 39, 40, 41, 42, 43, 44, 45, 46] (fun k => d.s.prg.mutexes.toNat - k) (fun k => k ≤ d.s.prg.mutexes.toNat) (fun k => [(17, some (.int .i64 (k : Int)))]) (fun k => [dngX bd b p ps ({ d with s := whyAll d.s (waitsTo d k) } : Dng), sl intE 1 u l, F]) 0 ?_ ?_ ?_ ?_
  · exact Nat.zero_le _
  · exact ⟨rfl, trivial⟩
  · exact fun w s => Ent.kept .auto w s
  rintro k hk
  refine GoC.seq ?_
  refine GoC.region ?_
  refine GoL.y rfl (Y.lss rfl rfl) ?_
  refine GoL.nil ?_
  refine GoE.then_normal ?_
  refine GoC.seq ?_
  refine GoC.condD rfl (fun h18 => ?_) (fun h18 => ?_)
  · refine GoC.skip ?_
    refine GoE.then_normal ?_
    refine GoC.seq ?_
    refine GoC.block ?_
    refine GoC.seq ?_
    refine GoC.region ?_
    refine GoL.y rfl (Y.move rfl) ?_
    refine GoL.y rfl (Y.assign rfl) ?_
    refine GoL.nil ?_
    refine GoE.then_normal ?_
    refine GoC.seq ?_
    refine GoC.region ?_
    obtain ⟨x, hx⟩ := at_some (show k < d.s.gates.mtx.length by omega)
    refine GoL.o2 (C := dngX bd b p ps (({ d with s := whyAll d.s (waitsTo d k) } : Dng))) .auto rfl ?_
    rintro vw ve -
    refine GoL.o10 (C := spcX b ps (({ d with s := whyAll d.s (waitsTo d k) } : Dng)).s) .auto rfl ?_
    rintro fv sv pv bt vm bg vt bk bw vr -
    refine GoL.y rfl (Y.move rfl) ?_
    refine GoL.y rfl (Y.nilCheck rfl) ?_
    refine GoL.y rfl (Y.fieldAddrZ 27 Tryz.underlying138 rfl Tryz.sizeOf27 rfl) ?_
    refine GoL.y rfl (Y.load Tryz.isAgg27 rfl (Cell.a (by rfl))) ?_
    refine GoL.y rfl (Y.nilCheck rfl) ?_
    refine GoL.y rfl (Y.fieldAddr0 26 108 Tryz.underlying118 rfl Tryz.sizeOf108 rfl) ?_
    refine GoL.y rfl (Y.load Tryz.isAgg108 rfl (Cell.a (by rfl))) ?_
    refine GoL.y rfl (Y.move rfl) ?_
    have hxg : (whyAll d.s (waitsTo d k)).gates.mtx[k]? = some x := by rw [whyAll_gates]; exact hx
    have hxl := hmw x (List.mem_of_getElem? hx)
    refine GoL.does rfl (Does.callE rfl Tryz.call129 rfl (gate_Waiters1 hxg hxl) .auto) ?_
    rintro _ _ ⟨u28, -, rfl, rfl⟩
    refine GoL.y rfl (Y.lenRd Tryz.underlying23 rfl Rd.s) ?_
    refine GoL.y rfl (Y.move rfl) ?_
    refine GoL.nil ?_
    refine GoE.then_normal ?_
    refine GoC.block ?_
    refine GoC.loopK (X := Nat) [6, 30, 31, 32, 33, 34, 35, 36, 37, 38, 39, 40, 41, 42, 43, 44, 45] (fun j => (x.wait.map (·.who)).length - j) (fun j => j ≤ (x.wait.map (·.who)).length) (fun j => [(30, some (.int .i64 (j : Int)))]) (fun j => [dngX bd b p ps ({ d with s := whyAll d.s (waitsTo d k ++ (x.wait.map (·.who)).take j) } : Dng), sl intE 1 u28 (x.wait.map (·.who)), sl intE 1 u l, F]) 0 ?_ ?_ ?_ ?_
    · exact Nat.zero_le _
    · exact ⟨rfl, trivial⟩
    · rw [List.take_zero, List.append_nil]; exact fun w s => Ent.kept .auto w s
    rintro j hj
    refine GoC.seq ?_
    refine GoC.region ?_
    refine GoL.y rfl (Y.lss rfl rfl) ?_
    refine GoL.nil ?_
    refine GoE.then_normal ?_
    refine GoC.seq ?_
    refine GoC.condD rfl (fun h31 => ?_) (fun h31 => ?_)
    · refine GoC.skip ?_
      refine GoE.then_normal ?_
      refine GoC.seq ?_
      refine GoC.block ?_
      refine GoC.seq ?_
      refine GoC.region ?_
      have hxl2 : (x.wait.map (·.who)).length ≤ 1000000 := by rw [List.length_map]; exact hxl
      obtain ⟨w, hwj⟩ := at_some (show j < (x.wait.map (·.who)).length by omega)
      have hwm : w ∈ d.waits := List.mem_flatMap.2 ⟨x, List.mem_of_getElem? (i := k) (by rw [List.getElem?_take_of_lt (by omega)]; exact hx), List.mem_of_getElem? hwj⟩
      obtain ⟨hw0, hwl⟩ := hw w hwm
      obtain ⟨hw16, q, v, hq, hv, hRv⟩ := live_why w.toNat (waitsTo d k ++ (x.wait.map (·.who)).take j) hwl
      refine GoL.y rfl (Y.ixRd _ Tryz.underlying23 Tryz.sizeOf3 rfl rfl Rd.s rfl (by first | omega | decide)) ?_
      refine GoL.y rfl (Y.load Tryz.isAgg3 rfl (Cell.rd0 Rd.s ‹_› (by rfl))) ?_
      refine GoL.y rfl (Y.assign rfl) ?_
      refine GoL.nil ?_
      refine GoE.then_normal ?_
      refine GoC.region ?_
      refine GoL.o2 (C := dngX bd b p ps (({ d with s := whyAll d.s (waitsTo d k ++ (x.wait.map (·.who)).take j) } : Dng))) .auto rfl ?_
      rintro vw ve -
      refine GoL.o10 (C := spcX b ps (({ d with s := whyAll d.s (waitsTo d k ++ (x.wait.map (·.who)).take j) } : Dng)).s) .auto rfl ?_
      rintro fv sv pv bt vm bg vt bk bw vr -
      refine GoL.fr .auto (thrs_out hq hv) ?_
      refine GoL.y rfl (Y.move rfl) ?_
      refine GoL.y rfl (Y.nilCheck rfl) ?_
      refine GoL.y rfl (Y.fieldAddrZ 27 Tryz.underlying138 rfl Tryz.sizeOf27 rfl) ?_
      refine GoL.y rfl (Y.load Tryz.isAgg27 rfl (Cell.a (by rfl))) ?_
      refine GoL.y rfl (Y.move rfl) ?_
      refine GoL.y rfl (Y.nilCheck rfl) ?_
      refine GoL.y rfl (Y.fieldAddr0 9 115 Tryz.underlying118 rfl Tryz.sizeOf115 rfl) ?_
      refine GoL.y rfl (Y.ixArr w.toNat Tryz.underlying115 Tryz.sizeOf114 rfl rfl (by omega) hw16) ?_
      refine GoL.y rfl (Y.load Tryz.isAgg114 rfl (Cell.a (by rw [Nat.mul_one, spcC_get hw16, getD_of hq]))) ?_
      refine GoL.y rfl (Y.nilCheck rfl) ?_
      refine GoL.y rfl (Y.fieldAddr0 11 3 Tryz.underlying133 rfl Tryz.sizeOf3 rfl) ?_
      refine GoL.does rfl (Does.st Tryz.sizeOf3 rfl rfl rfl rfl) ?_
      rintro _ _ ⟨rfl, rfl⟩
      rw [thr_why]
      refine GoL.nil ?_
      refine GoE.block_normal (GoE.then_normal ?_)
      refine GoC.region ?_
      refine GoL.y rfl (Y.inc rfl rfl (by omega)) ?_
      refine GoL.y rfl (Y.move rfl) ?_
      refine GoL.nil ?_
      refine GoE.to (A := thrsH ps (({ d with s := whyAll d.s (waitsTo d k ++ (x.wait.map (·.who)).take j) } : Dng).s.thr.set w.toNat (some ({ v with why := 1 })))) (Bs := [arr q 0 (thrC ({ v with why := 1 })), thrsH (ps.set w.toNat none) (({ d with s := whyAll d.s (waitsTo d k ++ (x.wait.map (·.who)).take j) } : Dng).s.thr.set w.toNat none)]) .auto (thrs_shut (List.getElem?_eq_some_iff.1 hv).1 hq) ?_
      refine GoE.againK (j + 1) .auto rfl ?_ ?_ ?_ ?_
      · omega
      · show j + 1 ≤ _; omega
      · exact ⟨rfl, trivial⟩
      · rw [take_snoc hwj, ← List.append_assoc, whyAll_app _ _ [w], show whyAll (whyAll d.s (waitsTo d k ++ (x.wait.map (·.who)).take j)) [w] = (whyAll d.s (waitsTo d k ++ (x.wait.map (·.who)).take j)).setT w.toNat { v with why := 1 } from by show Spc.setT _ _ _ = _; rw [spc_t hv]]; exact fun w s => Ent.kept .auto w s
    · refine GoC.exit ?_
      refine GoE.then_exit (GoE.then_exit (GoE.block_here (GoE.block_normal (GoE.then_normal ?_))))
      refine GoC.region ?_
      refine GoL.y rfl (Y.inc rfl rfl (by omega)) ?_
      refine GoL.y rfl (Y.move rfl) ?_
      refine GoL.nil ?_
      rw [List.take_of_length_le (by omega), ← waitsTo_next hx]
      refine GoE.againK (k + 1) .auto rfl ?_ ?_ ?_ ?_
      · omega
      · show k + 1 ≤ _; omega
      · exact ⟨rfl, trivial⟩
      · exact fun w s => Ent.kept .auto w s
  · refine GoC.exit ?_
    refine GoE.then_exit (GoE.then_exit (GoE.block_here (GoE.then_normal ?_)))
    refine GoC.seq ?_
    refine GoC.region ?_
    refine GoL.y rfl (Y.move rfl) ?_
    refine GoL.y rfl (Y.lenRd Tryz.underlying23 rfl Rd.s) ?_
    refine GoL.y rfl (Y.move rfl) ?_
    refine GoL.nil ?_
    refine GoE.then_normal ?_
    refine GoC.block ?_
    rw [show k = d.s.prg.mutexes.toNat from by omega, hww]
    refine GoC.loopK (X := Nat) [8, 49, 50, 51, 52, 53, 54, 55, 56] (fun k => l.length - k) (fun k => k ≤ l.length) (fun k => [(49, some (.int .i64 (k : Int)))]) (fun k => [dngX bd b p ps (({ d with s := whyAll d.s d.waits } : Dng).goesAll (l.take k)), sl intE 1 u l, F]) 0 ?_ ?_ ?_ ?_
    · exact Nat.zero_le _
    · exact ⟨rfl, trivial⟩
    · exact fun w s => Ent.kept .auto w s
    rintro k hk
    refine GoC.seq ?_
    refine GoC.region ?_
    refine GoL.y rfl (Y.lss rfl rfl) ?_
    refine GoL.nil ?_
    refine GoE.then_normal ?_
    refine GoC.seq ?_
    refine GoC.condD rfl (fun h50 => ?_) (fun h50 => ?_)
    · refine GoC.skip ?_
      refine GoE.then_normal ?_
      refine GoC.seq ?_
      refine GoC.block ?_
      refine GoC.seq ?_
      refine GoC.region ?_
      obtain ⟨w, hwj⟩ := at_some (show k < l.length by omega)
      have hwl := hl w (List.mem_of_getElem? hwj)
      obtain ⟨hw16, q, v, hq, hv, hRv⟩ := live_goesAll w.toNat (l.take k) ({ d with s := whyAll d.s d.waits } : Dng) (live_why _ _ hwl.2) (fun z hz => live_why _ _ (hl z (List.mem_of_mem_take hz)).2)
      have hgl2 := goesAll_len ({ d with s := whyAll d.s d.waits } : Dng) (l.take k)
      rw [List.length_take] at hgl2
      refine GoL.y rfl (Y.ixRd _ Tryz.underlying23 Tryz.sizeOf3 rfl rfl Rd.s rfl (by first | omega | decide)) ?_
      refine GoL.y rfl (Y.load Tryz.isAgg3 rfl (Cell.rd0 Rd.s ‹_› (by rfl))) ?_
      refine GoL.y rfl (Y.assign rfl) ?_
      refine GoL.nil ?_
      refine GoE.then_normal ?_
      refine GoC.region ?_
      refine GoL.y rfl (Y.move rfl) ?_
      refine GoL.y rfl (Y.move rfl) ?_
      refine GoL.does rfl (Does.callE rfl Tryz.call86 rfl (dng_goesI (d := ({ d with s := whyAll d.s d.waits } : Dng).goesAll (l.take k)) hwl.1 hq hv hw16 hRv (by show (Dng.goesAll _ _).ends.length ≤ _; simp only at hgl2; omega) (by show (Dng.goesAll _ _).out.woken.length ≤ _; simp only at hgl2; omega)) .auto) ?_
      rintro _ _ ⟨⟨⟩, -, rfl, rfl⟩
      refine GoL.nil ?_
      refine GoE.block_normal (GoE.then_normal ?_)
      refine GoC.region ?_
      refine GoL.y rfl (Y.inc rfl rfl (by omega)) ?_
      refine GoL.y rfl (Y.move rfl) ?_
      refine GoL.nil ?_
      refine GoE.againK (k + 1) .auto rfl ?_ ?_ ?_ ?_
      · omega
      · show k + 1 ≤ _; omega
      · exact ⟨rfl, trivial⟩
      · rw [take_snoc hwj, goesAll_snoc]; exact fun w s => Ent.kept .auto w s
    · refine GoC.exit ?_
      refine GoE.then_exit (GoE.then_exit (GoE.block_here ?_))
      rw [show d.moved l = ({ d with s := whyAll d.s d.waits } : Dng).goesAll (l.take k) from by rw [List.take_of_length_le (by omega)]; rfl]
      refine GoE.end0 rfl fun w s => ⟨(), ?_, trivial, finE .auto s⟩
      rfl

set_option maxRecDepth 20000 in
theorem dng_call {W : World} {bd b p : Nat} {ps : List (Option Nat)} {d : Dng} {t : Thr} (hp : ps[d.n]? = some (some p)) (ht : d.s.thr[d.n]? = some (some t)) (hk : CallOk ps d t) : Fn Tryz.prog W 65 [ptr bd] [dngX bd b p ps d] (List (Option Nat)) (fun _ => .tuple #[]) (fun _ => True) (fun qs => [dngX bd b p qs d.call]) := by
  refine Fn.intro (N := 124) Tryz.func65 rfl Tryz.ntmps65 rfl fun F => ?_
  show GoC _ _ _ _ _ _ [dngX bd b p ps d, F]
  refine GoC.o2 (C := dngX bd b p ps (d)) .auto rfl ?_
  rintro vw ve -
  have hnn := hk.nn
  have hn0 := hk.I.n
  have hIa := hk.I.a
  have hRl := hk.R.l
  refine GoC.seq ?_
  refine GoC.region ?_
  refine GoL.y rfl (Y.move rfl) ?_
  refine GoL.y rfl (Y.nilCheck rfl) ?_
  refine GoL.y rfl (Y.fieldAddr0 3 123 Tryz.underlying138 rfl Tryz.sizeOf123 rfl) ?_
  refine GoL.y rfl (Y.fieldAddrZ 3 Tryz.underlying123 rfl Tryz.sizeOf3 rfl) ?_
  refine GoL.y rfl (Y.load Tryz.isAgg3 rfl (Cell.a (by rfl))) ?_
  refine GoL.nil ?_
  refine GoE.then_normal ?_
  refine GoC.block ?_
  refine GoC.seq ?_
  refine GoC.region ?_
  refine GoL.y rfl (Y.eql rfl rfl) ?_
  refine GoL.y rfl (Y.assign rfl) ?_
  refine GoL.nil ?_
  refine GoE.then_normal ?_
  refine GoC.condD rfl (fun h11 => ?_) (fun h11 => ?_)
  · refine GoC.region ?_
    refine GoL.y rfl (Y.move rfl) ?_
    refine GoL.does rfl (Does.callE rfl Tryz.call88 rfl (dng_spawn hp ht hk) .auto) ?_
    rintro _ _ ⟨qs, -, rfl, rfl⟩
    refine GoL.nil ?_
    refine GoE.block_normal ?_
    rw [show d.call = d.spawn from by unfold Dng.call; repeat (first | rw [if_neg (by omega)] | rw [if_pos (by omega)])]
    refine GoE.end0 rfl fun w s => ⟨qs, ?_, trivial, finE .auto s⟩
    rfl
  · refine GoC.seq ?_
    refine GoC.region ?_
    refine GoL.y rfl (Y.eql rfl rfl) ?_
    refine GoL.y rfl (Y.assign rfl) ?_
    refine GoL.nil ?_
    refine GoE.then_normal ?_
    refine GoC.condD rfl (fun h15 => ?_) (fun h15 => ?_)
    · refine GoC.seq ?_
      refine GoC.o10 (C := spcX b ps (d).s) .auto rfl ?_
      rintro fv sv pv bt vm bg vt bk bw vr -
      refine GoC.fr .auto (thrs_out hp ht) ?_
      refine GoC.draw [arr bd 0 (dngC b p d vw ve)] [1, 1, 1, 1, 1, 1, 1, 1, 1, 1, 1, 1, 1, 1, 1, 1, 1, 1, 1, 1, 3] rfl (by kernel_rfl) ?_
      refine GoK.s rfl (Y.move rfl) ?_
      refine GoK.s rfl (Y.nilCheck rfl) ?_
      refine GoK.s rfl (Y.fieldAddr0 2 114 Tryz.underlying138 rfl Tryz.sizeOf114 rfl) ?_
      refine GoK.s rfl (Y.load Tryz.isAgg114 rfl (Cell.a (by rfl))) ?_
      refine GoK.s rfl (Y.move rfl) ?_
      refine GoK.s rfl (Y.nilCheck rfl) ?_
      refine GoK.s rfl (Y.fieldAddr0 3 123 Tryz.underlying138 rfl Tryz.sizeOf123 rfl) ?_
      refine GoK.s rfl (Y.fieldAddr 1 3 Tryz.underlying123 rfl Tryz.sizeOf3 rfl) ?_
      refine GoK.s rfl (Y.load Tryz.isAgg3 rfl (Cell.a (by rfl))) ?_
      refine GoK.s rfl (Y.move rfl) ?_
      refine GoK.s rfl (Y.nilCheck rfl) ?_
      refine GoK.s rfl (Y.fieldAddr0 2 114 Tryz.underlying138 rfl Tryz.sizeOf114 rfl) ?_
      refine GoK.s rfl (Y.load Tryz.isAgg114 rfl (Cell.a (by rfl))) ?_
      refine GoK.s rfl (Y.nilCheck rfl) ?_
      refine GoK.s rfl (Y.fieldAddr0 10 43 Tryz.underlying133 rfl Tryz.sizeOf43 rfl) ?_
      refine GoK.s rfl (Y.load Tryz.isAgg43 rfl (Cell.a (by rfl))) ?_
      refine GoK.s rfl (Y.nilCheck rfl) ?_
      refine GoK.s rfl (Y.fieldAddrZ 131 Tryz.underlying133 rfl Tryz.sizeOf131 rfl) ?_
      refine GoK.s rfl (Y.fieldAddr0 2 57 Tryz.underlying131 rfl Tryz.sizeOf57 rfl) ?_
      refine GoK.s rfl (Y.ixArr d.i.a.toNat Tryz.underlying57 Tryz.sizeOf43 rfl rfl (by omega) (by omega)) ?_
      refine GoK.d3 rfl (Does.st Tryz.sizeOf43 rfl rfl rfl (Nat.blt_eq.mpr (by show 2 + d.i.a.toNat * 1 < 18; omega))) ?_
      rintro _ _ ⟨rfl, rfl⟩
      rw [thr_setI _ (by omega) (by omega) hRl]
      refine GoK.nil ?_
      refine GoE.then_normal ?_
      refine GoC.region ?_
      refine GoL.y rfl (Y.move rfl) ?_
      refine GoL.y rfl (Y.move rfl) ?_
      refine GoL.y rfl (Y.nilCheck rfl) ?_
      refine GoL.y rfl (Y.fieldAddr0 2 114 Tryz.underlying138 rfl Tryz.sizeOf114 rfl) ?_
      refine GoL.y rfl (Y.load Tryz.isAgg114 rfl (Cell.a (by rfl))) ?_
      refine GoL.y rfl (Y.nilCheck rfl) ?_
      refine GoL.y rfl (Y.fieldAddr0 10 43 Tryz.underlying133 rfl Tryz.sizeOf43 rfl) ?_
      refine GoL.y rfl (Y.load Tryz.isAgg43 rfl (Cell.a (cs := thrC (t.put d.i.a t.handle)) rfl)) ?_
      refine GoL.to (A := thrsH ps (d.s.thr.set d.n (some (t.put d.i.a t.handle)))) (Bs := [arr p 0 (thrC (t.put d.i.a t.handle)), thrsH (ps.set d.n none) (d.s.thr.set d.n none)]) .auto (thrs_shut (List.getElem?_eq_some_iff.1 ht).1 hp) ?_
      refine GoL.does rfl (Does.callE rfl Tryz.call89 rfl (dng_pass (d := d.setT (t.put d.i.a t.handle)) (t := t.put d.i.a t.handle) hp (setT_same ht) (Nat.le_trans hk.recs (by decide)) (by decide) (by rw [put_len]; exact hRl)) .auto) ?_
      rintro _ _ ⟨⟨⟩, -, rfl, rfl⟩
      refine GoL.nil ?_
      refine GoE.block_normal ?_
      rw [show d.call = (d.setT (t.put d.i.a t.handle)).pass 0 t.handle 0 from by unfold Dng.call; rw [if_neg h11, if_pos h15, dng_t ht]]
      refine GoE.end0 rfl fun w s => ⟨ps, ?_, trivial, finE .auto s⟩
      rfl
    · refine GoC.seq ?_
      refine GoC.region ?_
      refine GoL.y rfl (Y.eql rfl rfl) ?_
      refine GoL.y rfl (Y.assign rfl) ?_
      refine GoL.nil ?_
      refine GoE.then_normal ?_
      refine GoC.condD rfl (fun h46 => ?_) (fun h46 => ?_)
      · refine GoC.seq ?_
        refine GoC.region ?_
        refine GoL.y rfl (Y.move rfl) ?_
        refine GoL.does rfl (Does.callE rfl Tryz.call89 rfl (dng_pass hp ht (Nat.le_trans hk.recs (by decide)) (by decide) hk.R.l) .auto) ?_
        rintro _ _ ⟨⟨⟩, -, rfl, rfl⟩
        refine GoL.nil ?_
        refine GoE.then_normal ?_
        refine GoC.region ?_
        refine GoL.o2 (C := dngX bd b p ps (d.pass 0 0 0)) .auto rfl ?_
        rintro vw ve -
        refine GoL.y rfl (Y.move rfl) ?_
        refine GoL.y rfl (Y.nilCheck rfl) ?_
        refine GoL.y rfl (Y.fieldAddr0 9 36 Tryz.underlying138 rfl Tryz.sizeOf36 rfl) ?_
        refine GoL.y rfl (Y.fieldAddr 3 4 Tryz.underlying36 rfl Tryz.sizeOf4 rfl) ?_
        refine GoL.does rfl (Does.st Tryz.sizeOf4 rfl rfl rfl rfl) ?_
        rintro _ _ ⟨rfl, rfl⟩
        rw [dng_yld]
        refine GoL.nil ?_
        refine GoE.block_normal ?_
        rw [show d.call = { d.pass 0 0 0 with out := { d.out with yielded := true } } from by unfold Dng.call; repeat (first | rw [if_neg (by omega)] | rw [if_pos (by omega)])]
        refine GoE.end0 rfl fun w s => ⟨ps, ?_, trivial, finE .auto s⟩
        rfl
      · refine GoC.seq ?_
        refine GoC.region ?_
        refine GoL.y rfl (Y.eql rfl rfl) ?_
        refine GoL.y rfl (Y.assign rfl) ?_
        refine GoL.nil ?_
        refine GoE.then_normal ?_
        refine GoC.condD rfl (fun h54 => ?_) (fun h54 => ?_)
        · refine GoC.region ?_
          refine GoL.y rfl (Y.move rfl) ?_
          refine GoL.does rfl (Does.callE rfl Tryz.call90 rfl (dng_join hp ht hk) .auto) ?_
          rintro _ _ ⟨qs, -, rfl, rfl⟩
          refine GoL.nil ?_
          refine GoE.block_normal ?_
          rw [show d.call = d.join from by unfold Dng.call; repeat (first | rw [if_neg (by omega)] | rw [if_pos (by omega)])]
          refine GoE.end0 rfl fun w s => ⟨qs, ?_, trivial, finE .auto s⟩
          rfl
        · refine GoC.seq ?_
          refine GoC.region ?_
          refine GoL.y rfl (Y.eql rfl rfl) ?_
          refine GoL.y rfl (Y.assign rfl) ?_
          refine GoL.nil ?_
          refine GoE.then_normal ?_
          refine GoC.condD rfl (fun h58 => ?_) (fun h58 => ?_)
          · refine GoC.region ?_
            refine GoL.y rfl (Y.move rfl) ?_
            refine GoL.does rfl (Does.callE rfl Tryz.call91 rfl (dng_detach hp ht hk) .auto) ?_
            rintro _ _ ⟨qs, -, rfl, rfl⟩
            refine GoL.nil ?_
            refine GoE.block_normal ?_
            rw [show d.call = d.detach from by unfold Dng.call; repeat (first | rw [if_neg (by omega)] | rw [if_pos (by omega)])]
            refine GoE.end0 rfl fun w s => ⟨qs, ?_, trivial, finE .auto s⟩
            rfl
          · refine GoC.seq ?_
            refine GoC.region ?_
            refine GoL.y rfl (Y.eql rfl rfl) ?_
            refine GoL.y rfl (Y.assign rfl) ?_
            refine GoL.nil ?_
            refine GoE.then_normal ?_
            refine GoC.condD rfl (fun h62 => ?_) (fun h62 => ?_)
            · refine GoC.seq ?_
              refine GoC.region ?_
              refine GoL.y rfl (Y.move rfl) ?_
              refine GoL.y rfl (Y.move rfl) ?_
              refine GoL.does rfl (Does.callE rfl Tryz.call92 rfl (dng_a hp ht hk.I.a) .auto) ?_
              rintro _ _ ⟨⟨⟩, -, rfl, rfl⟩
              refine GoL.does rfl (Does.callE rfl Tryz.call61 rfl (dng_tell hp ht (Nat.le_trans hk.recs (by decide))) .auto) ?_
              rintro _ _ ⟨⟨⟩, -, rfl, rfl⟩
              refine GoL.nil ?_
              refine GoE.then_normal ?_
              refine GoC.region ?_
              refine GoL.y rfl (Y.move rfl) ?_
              refine GoL.y rfl (Y.move rfl) ?_
              refine GoL.does rfl (Does.callE rfl Tryz.call92 rfl (dng_a (d := d.tell d.a 0 0 true) hp ht hk.I.a) .auto) ?_
              rintro _ _ ⟨⟨⟩, -, rfl, rfl⟩
              rw [show (d.tell d.a 0 0 true).a = d.a from rfl]
              refine GoL.does rfl (Does.callE rfl Tryz.call62 rfl (dng_fin (d := d.tell d.a 0 0 true) hp ht hk.lt hk.lp hk.T hk.R (Nat.le_trans hk.ends (by decide)) (Nat.le_trans hk.wok (by decide)) hk.join) .auto) ?_
              rintro _ _ ⟨qs, -, rfl, rfl⟩
              refine GoL.nil ?_
              refine GoE.block_normal ?_
              rw [show d.call = (d.tell d.a 0 0 true).fin d.a from by unfold Dng.call; repeat (first | rw [if_neg (by omega)] | rw [if_pos (by omega)])]
              refine GoE.end0 rfl fun w s => ⟨qs, ?_, trivial, finE .auto s⟩
              rfl
            · refine GoC.seq ?_
              refine GoC.seq ?_
              refine GoC.region ?_
              refine GoL.y rfl (Y.eql rfl rfl) ?_
              refine GoL.y rfl (Y.assign rfl) ?_
              refine GoL.nil ?_
              refine GoE.then_normal ?_
              refine GoC.condD rfl (fun h72 => ?_) (fun h72 => ?_)
              · refine GoC.skip ?_
                refine GoE.then_normal ?_
                first | refine GoC.condD rfl (fun _ => ?_) (fun hc => absurd h72 hc) | refine GoC.cond rfl (fun _ => ?_) (fun hc => by rw [h72] at hc; cases hc)
                refine GoC.region ?_
                refine GoL.y rfl (Y.move rfl) ?_
                refine GoL.does rfl (Does.callE rfl Tryz.call93 rfl (dng_mutex hp ht hk) .auto) ?_
                rintro _ _ ⟨⟨⟩, -, rfl, rfl⟩
                refine GoL.nil ?_
                refine GoE.block_normal ?_
                rw [show d.call = d.mutex from by unfold Dng.call; repeat (first | rw [if_neg (by omega)] | rw [if_pos (by omega)])]
                refine GoE.end0 rfl fun w s => ⟨ps, ?_, trivial, finE .auto s⟩
                rfl
              · refine GoC.seq ?_
                refine GoC.region ?_
                refine GoL.y rfl (Y.eql rfl rfl) ?_
                refine GoL.y rfl (Y.assign rfl) ?_
                refine GoL.nil ?_
                refine GoE.then_normal ?_
                refine GoC.condD rfl (fun h72 => ?_) (fun h72 => ?_)
                · refine GoC.skip ?_
                  refine GoE.then_normal ?_
                  first | refine GoC.condD rfl (fun _ => ?_) (fun hc => absurd h72 hc) | refine GoC.cond rfl (fun _ => ?_) (fun hc => by rw [h72] at hc; cases hc)
                  refine GoC.region ?_
                  refine GoL.y rfl (Y.move rfl) ?_
                  refine GoL.does rfl (Does.callE rfl Tryz.call93 rfl (dng_mutex hp ht hk) .auto) ?_
                  rintro _ _ ⟨⟨⟩, -, rfl, rfl⟩
                  refine GoL.nil ?_
                  refine GoE.block_normal ?_
                  rw [show d.call = d.mutex from by unfold Dng.call; repeat (first | rw [if_neg (by omega)] | rw [if_pos (by omega)])]
                  refine GoE.end0 rfl fun w s => ⟨ps, ?_, trivial, finE .auto s⟩
                  rfl
                · refine GoC.region ?_
                  refine GoL.y rfl (Y.eql rfl rfl) ?_
                  refine GoL.y rfl (Y.assign rfl) ?_
                  refine GoL.nil ?_
                  refine GoE.then_normal ?_
                  refine GoC.condD rfl (fun h72c => ?_) (fun h72c => ?_)
                  · refine GoC.region ?_
                    refine GoL.y rfl (Y.move rfl) ?_
                    refine GoL.does rfl (Does.callE rfl Tryz.call93 rfl (dng_mutex hp ht hk) .auto) ?_
                    rintro _ _ ⟨⟨⟩, -, rfl, rfl⟩
                    refine GoL.nil ?_
                    refine GoE.block_normal ?_
                    rw [show d.call = d.mutex from by unfold Dng.call; repeat (first | rw [if_neg (by omega)] | rw [if_pos (by omega)])]
                    refine GoE.end0 rfl fun w s => ⟨ps, ?_, trivial, finE .auto s⟩
                    rfl
                  · refine GoC.seq ?_
                    refine GoC.seq ?_
                    refine GoC.region ?_
                    refine GoL.y rfl (Y.eql rfl rfl) ?_
                    refine GoL.y rfl (Y.assign rfl) ?_
                    refine GoL.nil ?_
                    refine GoE.then_normal ?_
                    refine GoC.condD rfl (fun h78 => ?_) (fun h78 => ?_)
                    · refine GoC.skip ?_
                      refine GoE.then_normal ?_
                      first | refine GoC.condD rfl (fun _ => ?_) (fun hc => absurd h78 hc) | refine GoC.cond rfl (fun _ => ?_) (fun hc => by rw [h78] at hc; cases hc)
                      refine GoC.seq ?_
                      refine GoC.o10 (C := spcX b ps (d).s) .auto rfl ?_
                      rintro fv sv pv bt vm bg vt bk bw vr -
                      refine GoC.draw [arr bd 0 (dngC b p d vw ve), arr b 0 (spcC fv sv pv d.s.prg bt ps vm bg vt bk bw vr)] [1, 1, 1, 1, 1, 1, 1, 1, 1, 1, 1, 1, 1, 1, 1, 1, 1, 1, 1, 1, 1, 1, 1, 3, 1, 1, 1, 1, 1] rfl (by kernel_rfl) ?_
                      refine GoK.s rfl (Y.move rfl) ?_
                      refine GoK.s rfl (Y.nilCheck rfl) ?_
                      refine GoK.s rfl (Y.fieldAddrZ 27 Tryz.underlying138 rfl Tryz.sizeOf27 rfl) ?_
                      refine GoK.s rfl (Y.load Tryz.isAgg27 rfl (Cell.a (by rfl))) ?_
                      refine GoK.s rfl (Y.nilCheck rfl) ?_
                      refine GoK.s rfl (Y.fieldAddr0 26 108 Tryz.underlying118 rfl Tryz.sizeOf108 rfl) ?_
                      refine GoK.s rfl (Y.load Tryz.isAgg108 rfl (Cell.a (by rfl))) ?_
                      refine GoK.s rfl (Y.move rfl) ?_
                      refine GoK.s rfl (Y.nilCheck rfl) ?_
                      refine GoK.s rfl (Y.fieldAddr0 3 123 Tryz.underlying138 rfl Tryz.sizeOf123 rfl) ?_
                      refine GoK.s rfl (Y.fieldAddr 4 43 Tryz.underlying123 rfl Tryz.sizeOf43 rfl) ?_
                      refine GoK.s rfl (Y.load Tryz.isAgg43 rfl (Cell.a (by rfl))) ?_
                      refine GoK.s rfl (Y.convI Tryz.underlying43 Tryz.underlying3 rfl (by omega)) ?_
                      refine GoK.s rfl (Y.move rfl) ?_
                      refine GoK.s rfl (Y.nilCheck rfl) ?_
                      refine GoK.s rfl (Y.fieldAddr0 8 3 Tryz.underlying138 rfl Tryz.sizeOf3 rfl) ?_
                      refine GoK.s rfl (Y.load Tryz.isAgg3 rfl (Cell.a (by rfl))) ?_
                      refine GoK.s rfl (Y.move rfl) ?_
                      refine GoK.s rfl (Y.nilCheck rfl) ?_
                      refine GoK.s rfl (Y.fieldAddr0 3 123 Tryz.underlying138 rfl Tryz.sizeOf123 rfl) ?_
                      refine GoK.s rfl (Y.fieldAddrZ 3 Tryz.underlying123 rfl Tryz.sizeOf3 rfl) ?_
                      refine GoK.s rfl (Y.load Tryz.isAgg3 rfl (Cell.a (by rfl))) ?_
                      refine GoK.s rfl (Y.eql rfl rfl) ?_
                      refine GoK.d3 rfl (Does.callE rfl Tryz.call94 rfl (gate_Signal hk.gl hk.gcnd) .auto) ?_
                      rintro _ _ ⟨u105, -, rfl, rfl⟩
                      refine GoK.s rfl (Y.move rfl) ?_
                      refine GoK.s rfl (Y.extract (v := u105) rfl rfl) ?_
                      refine GoK.s rfl (Y.extract (v := .int .i64 (d.s.gates.signal d.i.n d.choice (decide (d.i.op = 29))).2.1) rfl rfl) ?_
                      refine GoK.s rfl (Y.assign rfl) ?_
                      refine GoK.s rfl (Y.assign rfl) ?_
                      refine GoK.nil ?_
                      refine GoE.then_normal ?_
                      refine GoC.seq ?_
                      refine GoC.region ?_
                      refine GoL.y rfl (Y.move rfl) ?_
                      refine GoL.y rfl (Y.move rfl) ?_
                      refine GoL.y rfl (Y.nilCheck rfl) ?_
                      refine GoL.y rfl (Y.fieldAddr0 3 123 Tryz.underlying138 rfl Tryz.sizeOf123 rfl) ?_
                      refine GoL.y rfl (Y.fieldAddr 4 43 Tryz.underlying123 rfl Tryz.sizeOf43 rfl) ?_
                      refine GoL.y rfl (Y.load Tryz.isAgg43 rfl (Cell.a (by rfl))) ?_
                      refine GoL.y rfl (Y.move rfl) ?_
                      refine GoL.does rfl (Does.callE rfl Tryz.call89 rfl (dng_pass (d := (d.withG (d.s.gates.signal d.i.n d.choice (decide (d.i.op = 29))).2.2)) hp ht (Nat.le_trans hk.recs (by decide)) signal_bd hk.R.l) .auto) ?_
                      rintro _ _ ⟨⟨⟩, -, rfl, rfl⟩
                      have sigw : ∀ w ∈ ((d.withG (d.s.gates.signal d.i.n d.choice (decide (d.i.op = 29))).2.2).pass d.i.n 0 (d.s.gates.signal d.i.n d.choice (decide (d.i.op = 29))).2.1).waits, d.s.gates.has w := fun w h => by
                        obtain ⟨x, hx, hw⟩ := List.mem_flatMap.1 h
                        obtain ⟨y, hy, rfl⟩ := List.mem_map.1 hw
                        exact (signal_mtx hk.gsm.1 hk.gsm.2 x (List.mem_of_mem_take hx)).2 y hy
                      refine GoL.nil ?_
                      refine GoE.then_normal ?_
                      refine GoC.region ?_
                      refine GoL.y rfl (Y.move rfl) ?_
                      refine GoL.y rfl (Y.move rfl) ?_
                      refine GoL.does rfl (Does.callE rfl Tryz.call95 rfl (dng_moved (d := ((d.withG (d.s.gates.signal d.i.n d.choice (decide (d.i.op = 29))).2.2).pass d.i.n 0 (d.s.gates.signal d.i.n d.choice (decide (d.i.op = 29))).2.1)) (l := (d.s.gates.signal d.i.n d.choice (decide (d.i.op = 29))).1) (fun w h => ⟨(hk.glive w (signal_has w h)).1, ((hk.glive w (signal_has w h)).2.of (s' := (d.withG (d.s.gates.signal d.i.n d.choice (decide (d.i.op = 29))).2.2).s) rfl).pass (d := (d.withG (d.s.gates.signal d.i.n d.choice (decide (d.i.op = 29))).2.2)) ht hk.R signal_bd⟩) (fun w h => ⟨(hk.glive w (sigw w h)).1, ((hk.glive w (sigw w h)).2.of (s' := (d.withG (d.s.gates.signal d.i.n d.choice (decide (d.i.op = 29))).2.2).s) rfl).pass (d := (d.withG (d.s.gates.signal d.i.n d.choice (decide (d.i.op = 29))).2.2)) ht hk.R signal_bd⟩) (by show d.s.prg.mutexes ≤ ((d.s.gates.signal d.i.n d.choice (decide (d.i.op = 29))).2.2.mtx.length : Int); rw [signal_mlen]; exact hk.gsum) (by show ((d.s.gates.signal d.i.n d.choice (decide (d.i.op = 29))).2.2.mtx.length) ≤ _; rw [signal_mlen]; exact hk.gl.m) (fun x h => (signal_mtx hk.gsm.1 hk.gsm.2 x h).1) (by have := signal_len (c := d.i.n) (ch := d.choice) (all := decide (d.i.op = 29)) hk.gsm.2; have := hk.ends; have := hk.wok; exact ⟨by show d.ends.length + _ ≤ _; omega, by show d.out.woken.length + _ ≤ _; omega⟩)) .auto) ?_
                      rintro _ _ ⟨⟨⟩, -, rfl, rfl⟩
                      refine GoL.nil ?_
                      refine GoE.block_normal ?_
                      rw [show d.call = ((d.withG (d.s.gates.signal d.i.n d.choice (decide (d.i.op = 29))).2.2).pass d.i.n 0 (d.s.gates.signal d.i.n d.choice (decide (d.i.op = 29))).2.1).moved (d.s.gates.signal d.i.n d.choice (decide (d.i.op = 29))).1 from by unfold Dng.call; repeat (first | rw [if_neg (by omega)] | rw [if_pos (by omega)])]
                      refine GoE.end0 rfl fun w s => ⟨ps, ?_, trivial, finE .auto s⟩
                      rfl
                    · refine GoC.region ?_
                      refine GoL.y rfl (Y.eql rfl rfl) ?_
                      refine GoL.y rfl (Y.assign rfl) ?_
                      refine GoL.nil ?_
                      refine GoE.then_normal ?_
                      refine GoC.condD rfl (fun h78 => ?_) (fun h78 => ?_)
                      · refine GoC.seq ?_
                        refine GoC.o10 (C := spcX b ps (d).s) .auto rfl ?_
                        rintro fv sv pv bt vm bg vt bk bw vr -
                        refine GoC.draw [arr bd 0 (dngC b p d vw ve), arr b 0 (spcC fv sv pv d.s.prg bt ps vm bg vt bk bw vr)] [1, 1, 1, 1, 1, 1, 1, 1, 1, 1, 1, 1, 1, 1, 1, 1, 1, 1, 1, 1, 1, 1, 1, 3, 1, 1, 1, 1, 1] rfl (by kernel_rfl) ?_
                        refine GoK.s rfl (Y.move rfl) ?_
                        refine GoK.s rfl (Y.nilCheck rfl) ?_
                        refine GoK.s rfl (Y.fieldAddrZ 27 Tryz.underlying138 rfl Tryz.sizeOf27 rfl) ?_
                        refine GoK.s rfl (Y.load Tryz.isAgg27 rfl (Cell.a (by rfl))) ?_
                        refine GoK.s rfl (Y.nilCheck rfl) ?_
                        refine GoK.s rfl (Y.fieldAddr0 26 108 Tryz.underlying118 rfl Tryz.sizeOf108 rfl) ?_
                        refine GoK.s rfl (Y.load Tryz.isAgg108 rfl (Cell.a (by rfl))) ?_
                        refine GoK.s rfl (Y.move rfl) ?_
                        refine GoK.s rfl (Y.nilCheck rfl) ?_
                        refine GoK.s rfl (Y.fieldAddr0 3 123 Tryz.underlying138 rfl Tryz.sizeOf123 rfl) ?_
                        refine GoK.s rfl (Y.fieldAddr 4 43 Tryz.underlying123 rfl Tryz.sizeOf43 rfl) ?_
                        refine GoK.s rfl (Y.load Tryz.isAgg43 rfl (Cell.a (by rfl))) ?_
                        refine GoK.s rfl (Y.convI Tryz.underlying43 Tryz.underlying3 rfl (by omega)) ?_
                        refine GoK.s rfl (Y.move rfl) ?_
                        refine GoK.s rfl (Y.nilCheck rfl) ?_
                        refine GoK.s rfl (Y.fieldAddr0 8 3 Tryz.underlying138 rfl Tryz.sizeOf3 rfl) ?_
                        refine GoK.s rfl (Y.load Tryz.isAgg3 rfl (Cell.a (by rfl))) ?_
                        refine GoK.s rfl (Y.move rfl) ?_
                        refine GoK.s rfl (Y.nilCheck rfl) ?_
                        refine GoK.s rfl (Y.fieldAddr0 3 123 Tryz.underlying138 rfl Tryz.sizeOf123 rfl) ?_
                        refine GoK.s rfl (Y.fieldAddrZ 3 Tryz.underlying123 rfl Tryz.sizeOf3 rfl) ?_
                        refine GoK.s rfl (Y.load Tryz.isAgg3 rfl (Cell.a (by rfl))) ?_
                        refine GoK.s rfl (Y.eql rfl rfl) ?_
                        refine GoK.d3 rfl (Does.callE rfl Tryz.call94 rfl (gate_Signal hk.gl hk.gcnd) .auto) ?_
                        rintro _ _ ⟨u105, -, rfl, rfl⟩
                        refine GoK.s rfl (Y.move rfl) ?_
                        refine GoK.s rfl (Y.extract (v := u105) rfl rfl) ?_
                        refine GoK.s rfl (Y.extract (v := .int .i64 (d.s.gates.signal d.i.n d.choice (decide (d.i.op = 29))).2.1) rfl rfl) ?_
                        refine GoK.s rfl (Y.assign rfl) ?_
                        refine GoK.s rfl (Y.assign rfl) ?_
                        refine GoK.nil ?_
                        refine GoE.then_normal ?_
                        refine GoC.seq ?_
                        refine GoC.region ?_
                        refine GoL.y rfl (Y.move rfl) ?_
                        refine GoL.y rfl (Y.move rfl) ?_
                        refine GoL.y rfl (Y.nilCheck rfl) ?_
                        refine GoL.y rfl (Y.fieldAddr0 3 123 Tryz.underlying138 rfl Tryz.sizeOf123 rfl) ?_
                        refine GoL.y rfl (Y.fieldAddr 4 43 Tryz.underlying123 rfl Tryz.sizeOf43 rfl) ?_
                        refine GoL.y rfl (Y.load Tryz.isAgg43 rfl (Cell.a (by rfl))) ?_
                        refine GoL.y rfl (Y.move rfl) ?_
                        refine GoL.does rfl (Does.callE rfl Tryz.call89 rfl (dng_pass (d := (d.withG (d.s.gates.signal d.i.n d.choice (decide (d.i.op = 29))).2.2)) hp ht (Nat.le_trans hk.recs (by decide)) signal_bd hk.R.l) .auto) ?_
                        rintro _ _ ⟨⟨⟩, -, rfl, rfl⟩
                        have sigw : ∀ w ∈ ((d.withG (d.s.gates.signal d.i.n d.choice (decide (d.i.op = 29))).2.2).pass d.i.n 0 (d.s.gates.signal d.i.n d.choice (decide (d.i.op = 29))).2.1).waits, d.s.gates.has w := fun w h => by
                          obtain ⟨x, hx, hw⟩ := List.mem_flatMap.1 h
                          obtain ⟨y, hy, rfl⟩ := List.mem_map.1 hw
                          exact (signal_mtx hk.gsm.1 hk.gsm.2 x (List.mem_of_mem_take hx)).2 y hy
                        refine GoL.nil ?_
                        refine GoE.then_normal ?_
                        refine GoC.region ?_
                        refine GoL.y rfl (Y.move rfl) ?_
                        refine GoL.y rfl (Y.move rfl) ?_
                        refine GoL.does rfl (Does.callE rfl Tryz.call95 rfl (dng_moved (d := ((d.withG (d.s.gates.signal d.i.n d.choice (decide (d.i.op = 29))).2.2).pass d.i.n 0 (d.s.gates.signal d.i.n d.choice (decide (d.i.op = 29))).2.1)) (l := (d.s.gates.signal d.i.n d.choice (decide (d.i.op = 29))).1) (fun w h => ⟨(hk.glive w (signal_has w h)).1, ((hk.glive w (signal_has w h)).2.of (s' := (d.withG (d.s.gates.signal d.i.n d.choice (decide (d.i.op = 29))).2.2).s) rfl).pass (d := (d.withG (d.s.gates.signal d.i.n d.choice (decide (d.i.op = 29))).2.2)) ht hk.R signal_bd⟩) (fun w h => ⟨(hk.glive w (sigw w h)).1, ((hk.glive w (sigw w h)).2.of (s' := (d.withG (d.s.gates.signal d.i.n d.choice (decide (d.i.op = 29))).2.2).s) rfl).pass (d := (d.withG (d.s.gates.signal d.i.n d.choice (decide (d.i.op = 29))).2.2)) ht hk.R signal_bd⟩) (by show d.s.prg.mutexes ≤ ((d.s.gates.signal d.i.n d.choice (decide (d.i.op = 29))).2.2.mtx.length : Int); rw [signal_mlen]; exact hk.gsum) (by show ((d.s.gates.signal d.i.n d.choice (decide (d.i.op = 29))).2.2.mtx.length) ≤ _; rw [signal_mlen]; exact hk.gl.m) (fun x h => (signal_mtx hk.gsm.1 hk.gsm.2 x h).1) (by have := signal_len (c := d.i.n) (ch := d.choice) (all := decide (d.i.op = 29)) hk.gsm.2; have := hk.ends; have := hk.wok; exact ⟨by show d.ends.length + _ ≤ _; omega, by show d.out.woken.length + _ ≤ _; omega⟩)) .auto) ?_
                        rintro _ _ ⟨⟨⟩, -, rfl, rfl⟩
                        refine GoL.nil ?_
                        refine GoE.block_normal ?_
                        rw [show d.call = ((d.withG (d.s.gates.signal d.i.n d.choice (decide (d.i.op = 29))).2.2).pass d.i.n 0 (d.s.gates.signal d.i.n d.choice (decide (d.i.op = 29))).2.1).moved (d.s.gates.signal d.i.n d.choice (decide (d.i.op = 29))).1 from by unfold Dng.call; repeat (first | rw [if_neg (by omega)] | rw [if_pos (by omega)])]
                        refine GoE.end0 rfl fun w s => ⟨ps, ?_, trivial, finE .auto s⟩
                        rfl
                      · refine GoC.seq ?_
                        refine GoC.seq ?_
                        refine GoC.region ?_
                        refine GoL.y rfl (Y.eql rfl rfl) ?_
                        refine GoL.y rfl (Y.assign rfl) ?_
                        refine GoL.nil ?_
                        refine GoE.then_normal ?_
                        refine GoC.condD rfl (fun h119 => ?_) (fun h119 => ?_)
                        · refine GoC.skip ?_
                          refine GoE.then_normal ?_
                          first | refine GoC.condD rfl (fun _ => ?_) (fun hc => absurd h119 hc) | refine GoC.cond rfl (fun _ => ?_) (fun hc => by rw [h119] at hc; cases hc)
                          refine GoC.region ?_
                          refine GoL.y rfl (Y.move rfl) ?_
                          refine GoL.does rfl (Does.callE rfl Tryz.call96 rfl (dng_sem hp ht hk) .auto) ?_
                          rintro _ _ ⟨⟨⟩, -, rfl, rfl⟩
                          refine GoL.nil ?_
                          refine GoE.block_normal ?_
                          rw [show d.call = d.sem from by unfold Dng.call; repeat (first | rw [if_neg (by omega)] | rw [if_pos (by omega)])]
                          refine GoE.end0 rfl fun w s => ⟨ps, ?_, trivial, finE .auto s⟩
                          rfl
                        · refine GoC.region ?_
                          refine GoL.y rfl (Y.eql rfl rfl) ?_
                          refine GoL.y rfl (Y.assign rfl) ?_
                          refine GoL.nil ?_
                          refine GoE.then_normal ?_
                          refine GoC.condD rfl (fun h119 => ?_) (fun h119 => ?_)
                          · refine GoC.region ?_
                            refine GoL.y rfl (Y.move rfl) ?_
                            refine GoL.does rfl (Does.callE rfl Tryz.call96 rfl (dng_sem hp ht hk) .auto) ?_
                            rintro _ _ ⟨⟨⟩, -, rfl, rfl⟩
                            refine GoL.nil ?_
                            refine GoE.block_normal ?_
                            rw [show d.call = d.sem from by unfold Dng.call; repeat (first | rw [if_neg (by omega)] | rw [if_pos (by omega)])]
                            refine GoE.end0 rfl fun w s => ⟨ps, ?_, trivial, finE .auto s⟩
                            rfl
                          · refine GoC.region ?_
                            refine GoL.y rfl (Y.move rfl) ?_
                            refine GoL.does rfl (Does.callE rfl Tryz.call97 rfl (dng_kernel hp ht hk) .auto) ?_
                            rintro _ _ ⟨⟨⟩, -, rfl, rfl⟩
                            refine GoL.nil ?_
                            refine GoE.block_normal ?_
                            rw [show d.call = d.kernel from by unfold Dng.call; repeat (first | rw [if_neg (by omega)] | rw [if_pos (by omega)])]
                            refine GoE.end0 rfl fun w s => ⟨ps, ?_, trivial, finE .auto s⟩
                            rfl

end Go.SLYtpcjdohmjmeehaaGreat
namespace Go.SLYtpcjdohmjmeehaaGreat
open Go Go.RowKit

structure SpcOk (s : Spc) : Prop where
  lt : s.thr.length = 16
  T : TakeOk s.table
  R : ∀ (n : Nat) (t : Thr), s.thr[n]? = some (some t) → ThrR t ∧ 0 ≤ t.pc ∧ t.pc ≤ 257
  slot : ∀ (h : Int) (m : Nat), slotFind s.table h = some m → ∃ t, s.thr[m]? = some (some t)
  free : ∀ n : Nat, slotFree? s.table 0 = some n → s.thr[n]? = some none
  join : ∀ (n : Nat) (t : Thr), s.thr[n]? = some (some t) → t.why = 0 → ¬ t.joiner = -1 → 0 ≤ t.joiner ∧ t.joiner.toNat ≠ n ∧ ∃ u, s.thr[t.joiner.toNat]? = some (some u)
  recs : s.recs.length ≤ 80000000
  mem : s.mem.length ≤ 1000000
  gl : GatesLen s.gates
  gsem : ∀ x ∈ s.gates.sem, 0 ≤ x.count ∧ x.count ≤ 1048576
  gcnd : ∀ r ∈ s.gates.cnd, ∀ w ∈ r, 0 ≤ w.mutex ∧ w.mutex < (s.gates.mtx.length : Int)
  glive : ∀ w, s.gates.has w → 0 ≤ w ∧ ∃ u, s.thr[w.toNat]? = some (some u)
  gsum : s.prg.mutexes ≤ (s.gates.mtx.length : Int)
  gsm : (∀ x ∈ s.gates.mtx, x.wait.length ≤ 400000) ∧ ∀ r ∈ s.gates.cnd, r.length ≤ 400000
  code : ∀ f ∈ s.prg.funcs, ∀ i ∈ f, InsOk i ∧ (cls i.op ≠ 1 → i.n ≤ 1099511627776) ∧ (i.op = 35 ∨ i.op = 36 → i.n < (s.tubes.length : Int))
  codel : s.prg.funcs.length ≤ 1000000 ∧ ∀ f ∈ s.prg.funcs, f.length ≤ 256
  tl : ∀ u ∈ s.tubes, TubLen u
  tlive : ∀ u ∈ s.tubes, (∀ w ∈ u.gets, 0 ≤ w ∧ ∃ v, s.thr[w.toNat]? = some (some v)) ∧ (∀ x ∈ u.puts, 0 ≤ x.who ∧ ∃ v, s.thr[x.who.toNat]? = some (some v))
  tw : ∀ u ∈ s.tubes, ∀ w ∈ u.words, 0 ≤ w ∧ w ≤ 18446744073709551615
  dw : s.disk.wait.length ≤ 1000000
  db : ∀ r ∈ s.disk.wait, 0 ≤ r.block ∧ r.block < (s.disk.blocks.length : Int)
  dlive : ∀ r ∈ s.disk.wait, 0 ≤ r.who ∧ ∃ v, s.thr[r.who.toNat]? = some (some v)
  wn : 0 ≤ s.wheel.now ∧ s.wheel.now ≤ 1099511627776
  wl : s.wheel.till.length ≤ 1000000
  wlive : ∀ x ∈ s.wheel.till, 0 ≤ x.1 ∧ ∃ v, s.thr[x.1.toNat]? = some (some v)

theorem SpcOk.live {s : Spc} (h : SpcOk s) {ps : List (Option Nat)} (hs : Same ps s.thr) {m : Nat} {t : Thr} (e : s.thr[m]? = some (some t)) : LiveAt ps s m := by
  obtain ⟨q, hq⟩ := hs.2.1 m t e
  exact ⟨h.lt ▸ (List.getElem?_eq_some_iff.1 e).1, q, t, hq, e, (h.R m t e).1⟩
theorem ThrR.frm {t : Thr} (h : ThrR t) (hp : 0 ≤ t.pc ∧ t.pc ≤ 257) : FrmOk t.frm := ⟨h.l, by show 0 ≤ t.pc ∧ t.pc ≤ _; omega, h.r⟩
theorem SpcOk.call {s : Spc} (h : SpcOk s) {ps : List (Option Nat)} (hs : Same ps s.thr) {k : Nat} {t : Thr} {i : Ins} {choice : Int} (ht : s.thr[k]? = some (some t)) (hw : t.why = 0) (hI : InsOk i) (hn : i.n ≤ 1099511627776) (htub : i.op = 35 ∨ i.op = 36 → i.n < (s.tubes.length : Int)) :
    CallOk ps ((s.doing k i choice).setT { t with pc := t.pc + 1 }) { t with pc := t.pc + 1 } := by
  have hk16 : k < 16 := h.lt ▸ (List.getElem?_eq_some_iff.1 ht).1
  have hR := (h.R k t ht).1
  have hR2 : ThrR { t with pc := t.pc + 1 } := ⟨hR.l, hR.r, hR.i, hR.v, hR.h⟩
  have lv : ∀ {m : Nat} {u : Thr}, s.thr[m]? = some (some u) → LiveAt ps (s.setT k { t with pc := t.pc + 1 }) m := fun e => (h.live hs e).setT hR2
  refine ⟨hk16, hR2, ?_, hs.1.trans h.lt, h.T, fun x m e => ?_, fun n e => ?_, fun hj => ?_, hI, hn, Nat.le_trans h.recs (by decide), Nat.zero_le _, Nat.zero_le _, h.mem, h.gl, h.gsem, h.gcnd, fun w hw => ?_, h.gsum, h.gsm, htub, h.tl, fun u hu => ⟨fun w hw => ?_, fun x hx => ?_⟩, h.tw, h.dw, h.wn⟩
  · show (s.thr.set k _).length = 16
    rw [List.length_set]; exact h.lt
  · obtain ⟨u, hu⟩ := h.slot x m e; exact lv hu
  · have := h.free n e
    show (s.thr.set k _)[n]? = _
    rw [List.getElem?_set_ne (fun e => by rw [e, this] at ht; cases ht)]; exact this
  · obtain ⟨a, b, u, hu⟩ := h.join k t ht hw hj
    exact ⟨a, b, lv hu⟩
  · obtain ⟨a, u, hu⟩ := h.glive w hw; exact ⟨a, lv hu⟩
  · obtain ⟨a, u, hu⟩ := (h.tlive u hu).1 w hw; exact ⟨a, lv hu⟩
  · obtain ⟨a, u, hu⟩ := (h.tlive u hu).2 x hx; exact ⟨a, lv hu⟩
theorem SpcOk.joins {s : Spc} (h : SpcOk s) {ps : List (Option Nat)} (hs : Same ps s.thr) {k : Nat} {t : Thr} (ht : s.thr[k]? = some (some t)) (hw : t.why = 0) : ¬ t.joiner = -1 → 0 ≤ t.joiner ∧ t.joiner.toNat ≠ k ∧ LiveAt ps s t.joiner.toNat := fun hj => by
  obtain ⟨a, b, u, hu⟩ := h.join k t ht hw hj
  exact ⟨a, b, h.live hs hu⟩
theorem next_code {s : Spc} (h : SpcOk s) {f : Frm} {i : Ins} (e : nextI s.prg f = some i) : InsOk i ∧ (cls i.op ≠ 1 → i.n ≤ 1099511627776) ∧ (i.op = 35 ∨ i.op = 36 → i.n < (s.tubes.length : Int)) := by
  unfold nextI at e
  split at e
  · cases e
  · have hi := List.mem_of_getElem? e
    cases hf : s.prg.funcs[f.fn.toNat]? with
    | none => rw [List.getD_eq_getElem?_getD, hf] at hi; cases hi
    | some g => rw [List.getD_eq_getElem?_getD, hf] at hi; exact h.code g (List.mem_of_getElem? hf) i hi
theorem at_no {s : Spc} {ps : List (Option Nat)} (hs : Same ps s.thr) {n : Int} (h : atP ps n = none) (hl : s.thr.length = 16) : s.at n = none := by
  unfold atP at h
  unfold Spc.at geti
  split
  · rfl
  · rename_i h0
    by_cases hn : n < 16
    · rw [if_pos ⟨by omega, hn⟩] at h
      obtain ⟨x, hx⟩ := at_some (show n.toNat < s.thr.length by omega)
      rw [hx]
      cases x with
      | none => rfl
      | some t => obtain ⟨q, hq⟩ := hs.2.1 _ t hx; rw [getD_of hq] at h; cases h
    · rw [List.getElem?_eq_none (by omega)]; rfl
theorem at_yes {s : Spc} {ps : List (Option Nat)} (hs : Same ps s.thr) {n : Int} {p : Nat} (h : atP ps n = some p) (hl : s.thr.length = 16) : ∃ k : Nat, ∃ t, n = (k : Int) ∧ k < 16 ∧ ps[k]? = some (some p) ∧ s.thr[k]? = some (some t) ∧ s.at n = some t := by
  unfold atP at h
  split at h
  · rename_i h0
    have hp : ps[n.toNat]? = some (some p) := by
      rw [List.getD_eq_getElem?_getD] at h
      cases e : ps[n.toNat]? with
      | none => rw [e] at h; cases h
      | some x => rw [e] at h; simp only [Option.getD_some] at h; rw [h]
    obtain ⟨x, hx⟩ := at_some (show n.toNat < s.thr.length by omega)
    cases x with
    | none => have := hs.2.2 _ hx; rw [hp] at this; cases this
    | some t => exact ⟨n.toNat, t, by omega, by omega, hp, hx, by unfold Spc.at geti; rw [if_neg (by omega), hx]; rfl⟩
  · cases h

section
variable {P : Program} {W : World}
theorem Fn.byX1 {f : FuncId} {args : List Value} {X X1 : Type} {val : X → Value} {fact : X → Prop} {p : X1 → Prop} {A : X1 → List HProp} (h : ∀ x, p x → Fn P W f args [seps (A x)] X val fact (fun _ => [seps (A x)])) : Fn P W f args [exP1 p A] X val fact (fun _ => [exP1 p A]) := fun F w hs => by
  have h1 : Sat W w (sep (ex fun x : { x // p x } => seps (A x.1)) F) := hs.mono (sep_mono (fun g b => by
    obtain ⟨x, hx, b⟩ : exP1 p A g := by simpa only [seps, sep_emp] using b
    exact ⟨⟨x, hx⟩, b⟩) (fun g b => b))
  obtain ⟨x, h2⟩ := h1.exists
  refine (h x.1 x.2 F w (by simpa only [seps, sep_emp] using h2)).mono ?_
  rintro e w' ⟨y, e1, e2, s⟩
  exact ⟨y, e1, e2, s.mono (sep_mono (fun g b => by
    have b' : seps (A x.1) g := by simpa only [seps, sep_emp] using b
    show seps [exP1 p A] g
    simp only [seps, sep_emp]
    exact ⟨x.1, x.2, b'⟩) (fun g b => b))⟩
end
theorem run_none {s : Spc} {n c : Int} (h : s.at n = none) : s.run n c = (Eff.z, 1, s) := by unfold Spc.run; rw [h]
theorem run_wait {s : Spc} {n c : Int} {t : Thr} (h : s.at n = some t) (hw : t.why ≠ 0) : s.run n c = (Eff.z, 4, s) := by unfold Spc.run; rw [h]; simp only; rw [if_pos hw]
theorem run_end {s : Spc} {k : Nat} {c : Int} {t : Thr} (h : s.at (k : Int) = some t) (hw : ¬ t.why ≠ 0) (hn : nextI s.prg t.frm = none) {z : Dng} (hz : z = ((s.doing k ⟨23, 0, 0, 0, 0⟩ c).tell 0 0 0 true).fin 0) : s.run (k : Int) c = (z.finish.1, 0, z.finish.2) := by
  unfold Spc.run; rw [h]; simp only; rw [if_neg hw, hn]; subst hz; rfl
theorem run_plain {s : Spc} {k : Nat} {c : Int} {t : Thr} {i : Ins} (h : s.at (k : Int) = some t) (hw : ¬ t.why ≠ 0) (hn : nextI s.prg t.frm = some i) (hc : cls i.op = 1) {z : Dng} (hz : z = (s.doing k i c).plain) : s.run (k : Int) c = (z.finish.1, 0, z.finish.2) := by
  unfold Spc.run; rw [h]; simp only; rw [if_neg hw, hn]; simp only; rw [if_pos hc]; subst hz; rfl
theorem run_call {s : Spc} {k : Nat} {c : Int} {t : Thr} {i : Ins} (h : s.at (k : Int) = some t) (hw : ¬ t.why ≠ 0) (hn : nextI s.prg t.frm = some i) (hc : ¬ cls i.op = 1) {z : Dng} (hz : z = ((s.doing k i c).setT { t with pc := t.pc + 1 }).call) : s.run (k : Int) c = (z.finish.1, 0, z.finish.2) := by
  unfold Spc.run; rw [h]; simp only; rw [if_neg hw, hn]; simp only; rw [if_neg hc]; subst hz; rfl
theorem thr_pc (t : Thr) (x : Int) : (thrC t).set 1 (.int .i64 x) = thrC { t with pc := x } := rfl
def prgCells (fv sv pv : Value) (p : Prg) : List Value := [fv, .int .i64 p.words, .int .i64 p.mutexes, .int .i64 p.conds, sv, pv, .int .i64 p.blocks, .int .i64 p.prio]
end Go.SLYtpcjdohmjmeehaaGreat
namespace Go.SLYtpcjdohmjmeehaaGreat
open Go Go.RowKit

/-- At most so many more records, so many more ends. -/
def Grew (d e : Dng) (a n : Nat) : Prop := e.s.recs.length ≤ d.s.recs.length + a ∧ e.ends.length ≤ d.ends.length + n
theorem Grew.refl {d : Dng} : Grew d d 0 0 := ⟨Nat.le_refl _, Nat.le_refl _⟩
theorem Grew.up {d e : Dng} {a n a' n' : Nat} (h : Grew d e a n) (ha : a ≤ a') (hn : n ≤ n') : Grew d e a' n' := ⟨Nat.le_trans h.1 (by omega), Nat.le_trans h.2 (by omega)⟩
theorem Grew.trans {d e f : Dng} {a n a' n' : Nat} (h : Grew d e a n) (k : Grew e f a' n') : Grew d f (a + a') (n + n') := ⟨by have := h.1; have := k.1; omega, by have := h.2; have := k.2; omega⟩
theorem Grew.same {d e : Dng} (h1 : e.s.recs = d.s.recs) (h2 : e.ends = d.ends) : Grew d e 0 0 := ⟨by rw [h1]; exact Nat.le_refl _, by rw [h2]; exact Nat.le_refl _⟩
theorem grew_tell {d : Dng} {x y e : Int} {f : Bool} : Grew d (d.tell x y e f) 1 0 := ⟨by simp [Dng.tell, Spc.tell], Nat.le_refl _⟩
theorem grew_pass {d : Dng} {x y e : Int} : Grew d (d.pass x y e) 1 0 := ⟨by simp [Dng.pass, Dng.setT, Spc.setT, Dng.tell, Spc.tell], Nat.le_refl _⟩
theorem grew_block {d : Dng} {w i x y : Int} : Grew d (d.block w i x y) 1 0 := ⟨by simp [Dng.block, Dng.setT, Spc.setT, Dng.tell, Spc.tell], Nat.le_refl _⟩
theorem grew_goes {d : Dng} {n : Nat} {y : Int} : Grew d (d.goes n y) 0 1 := ⟨by simp [Dng.goes, Spc.wake, Spc.setT], by simp [Dng.goes]⟩
theorem grew_fin {d : Dng} {v : Int} : Grew d (d.fin v) 0 1 := by
  unfold Dng.fin
  split
  · exact (Grew.same rfl rfl).up (Nat.le_refl _) (by decide)
  · split
    · exact (Grew.same rfl rfl).up (Nat.le_refl _) (by decide)
    · exact (Grew.same (d := d) (e := d.ended) rfl rfl).trans (grew_goes.trans (Grew.same rfl rfl))
theorem grew_plain {d : Dng} : Grew d d.plain 1 1 := by
  unfold Dng.plain
  split
  · have : ∀ e : Dng, Grew d e 1 0 → ∀ s : Spc, s.recs = e.s.recs → Grew d { e with s := s } 1 1 := fun e h s hs => ⟨by show s.recs.length ≤ _; rw [hs]; exact h.1, Nat.le_trans h.2 (by omega)⟩
    simp only
    refine this _ ?_ _ rfl
    split
    · exact grew_tell
    · split
      · exact grew_tell
      · exact Grew.refl.up (by decide) (by decide)
  · split
    · exact grew_tell.trans grew_fin
    · exact grew_tell.trans grew_fin
theorem grew_given {d : Dng} {n : Int} {ok : Bool} : Grew d (d.given n ok) 0 1 := by
  unfold Dng.given
  split
  · exact grew_goes
  · exact Grew.refl.up (by decide) (by decide)
theorem grew_of {d e f : Dng} {a n : Nat} (h : Grew e f a n) (h1 : e.s.recs = d.s.recs) (h2 : e.ends = d.ends) : Grew d f a n := ⟨by rw [← h1]; exact h.1, by rw [← h2]; exact h.2⟩
theorem begin_recs {s : Spc} {f a : Int} : (s.begin f a).2.2.recs = s.recs := by
  unfold Spc.begin
  split <;> rfl
theorem grew_spawn {d : Dng} : Grew d d.spawn 1 1 := by
  unfold Dng.spawn
  refine Grew.up (a := 1) (n := 0) ?_ (Nat.le_refl _) (by decide)
  exact grew_of grew_pass (begin_recs (s := d.s) (f := d.i.n) (a := d.b)) rfl
theorem grew_join {d : Dng} : Grew d d.join 1 1 := by
  unfold Dng.join
  simp only
  repeat' split
  · exact grew_pass.up (Nat.le_refl _) (by decide)
  · exact (grew_of grew_pass rfl rfl).up (Nat.le_refl _) (by decide)
  · exact (grew_of grew_block rfl rfl).up (Nat.le_refl _) (by decide)
theorem grew_detach {d : Dng} : Grew d d.detach 1 1 := by
  unfold Dng.detach
  simp only
  repeat' split
  · exact grew_pass.up (Nat.le_refl _) (by decide)
  · exact (grew_of grew_pass rfl rfl).up (Nat.le_refl _) (by decide)
  · exact (grew_of grew_pass rfl rfl).up (Nat.le_refl _) (by decide)
theorem grew_mutex {d : Dng} : Grew d d.mutex 1 1 := by
  unfold Dng.mutex
  simp only
  repeat' split
  · exact (grew_of grew_block rfl rfl).up (Nat.le_refl _) (by decide)
  · exact (grew_of grew_pass rfl rfl).up (Nat.le_refl _) (by decide)
  · exact grew_of (grew_pass.trans grew_given) rfl rfl
  · exact (grew_of grew_pass rfl rfl).up (Nat.le_refl _) (by decide)
  · exact grew_of (grew_block.trans grew_given) rfl rfl
theorem grew_sem {d : Dng} : Grew d d.sem 1 1 := by
  unfold Dng.sem
  simp only
  repeat' split
  · exact grew_of (grew_pass.trans grew_given) rfl rfl
  · exact (grew_of grew_block rfl rfl).up (Nat.le_refl _) (by decide)
  · exact (grew_of grew_pass rfl rfl).up (Nat.le_refl _) (by decide)
theorem grew_ask {d : Dng} {b y i : Int} : Grew d (d.ask b y i) 1 1 := by
  unfold Dng.ask
  simp only
  repeat' split
  · exact (grew_of grew_pass rfl rfl).up (Nat.le_refl _) (by decide)
  · exact (grew_of grew_block rfl rfl).up (Nat.le_refl _) (by decide)
  · exact grew_pass.up (Nat.le_refl _) (by decide)
theorem grew_put {d : Dng} : Grew d d.put 1 1 := by
  unfold Dng.put
  simp only
  repeat' split
  · exact (grew_of grew_block rfl rfl).up (Nat.le_refl _) (by decide)
  · exact grew_of (grew_pass.trans grew_goes) rfl rfl
  · exact (grew_of grew_pass rfl rfl).up (Nat.le_refl _) (by decide)
theorem grew_get {d : Dng} : Grew d d.get 1 1 := by
  unfold Dng.get
  simp only
  repeat' split
  · exact (grew_of grew_block rfl rfl).up (Nat.le_refl _) (by decide)
  · exact grew_of (grew_pass.trans grew_goes) rfl rfl
  · exact (grew_of grew_pass rfl rfl).up (Nat.le_refl _) (by decide)
theorem grew_sleep {d : Dng} : Grew d d.sleep 1 1 := by
  unfold Dng.sleep
  simp only
  repeat' split
  · exact grew_pass.up (Nat.le_refl _) (by decide)
  · exact grew_pass.up (Nat.le_refl _) (by decide)
  · exact (grew_of grew_block rfl rfl).up (Nat.le_refl _) (by decide)
theorem grew_kernel {d : Dng} : Grew d d.kernel 1 1 := by
  unfold Dng.kernel
  repeat' split
  · exact grew_ask
  · exact grew_ask
  · exact grew_put
  · exact grew_get
  · exact grew_sleep
  · exact grew_pass.up (Nat.le_refl _) (by decide)
theorem whyAll_recs (s : Spc) (a : List Int) : (whyAll s a).recs = s.recs := by
  induction a generalizing s with
  | nil => rfl
  | cons x l ih => exact (ih _).trans rfl
theorem goesAll_recs (d : Dng) (a : List Int) : (d.goesAll a).s.recs = d.s.recs := by
  induction a generalizing d with
  | nil => rfl
  | cons x l ih => exact (ih _).trans rfl
theorem grew_moved {d : Dng} {l : List Int} : Grew d (d.moved l) 0 l.length := by
  unfold Dng.moved
  refine ⟨?_, ?_⟩
  · rw [goesAll_recs]; show (whyAll d.s d.waits).recs.length ≤ _; rw [whyAll_recs]; exact Nat.le_refl _
  · rw [(goesAll_len _ _).1]; exact Nat.le_refl _
theorem grew_call {d : Dng} (h : ∀ r ∈ d.s.gates.cnd, r.length ≤ 400000) : Grew d d.call 1 400001 := by
  unfold Dng.call
  simp only
  repeat' split
  · exact grew_spawn.up (Nat.le_refl _) (by decide)
  · exact (grew_of grew_pass rfl rfl).up (Nat.le_refl _) (by decide)
  · exact (grew_pass (d := d)).up (Nat.le_refl _) (by decide)
  · exact grew_join.up (Nat.le_refl _) (by decide)
  · exact grew_detach.up (Nat.le_refl _) (by decide)
  · exact (grew_tell.trans grew_fin).up (Nat.le_refl _) (by decide)
  · exact grew_mutex.up (Nat.le_refl _) (by decide)
  · exact (grew_of (grew_pass.trans grew_moved) rfl rfl).up (Nat.le_refl _) (by have := signal_len (c := d.i.n) (ch := d.choice) (all := decide (d.i.op = 29)) h; omega)
  · exact grew_sem.up (Nat.le_refl _) (by decide)
  · exact grew_kernel.up (Nat.le_refl _) (by decide)
end Go.SLYtpcjdohmjmeehaaGreat
namespace Go.SLYtpcjdohmjmeehaaGreat
open Go Go.RowKit Go.Proofs

theorem next_codeH {W : World} {fv c1 c2 c3 c4 c5 c6 c7 : Value} {p : Prg} {f : Frm} (hl : p.funcs.length ≤ 1000000) (hl2 : ∀ g ∈ p.funcs, g.length ≤ 256) : Fn Tryz.prog W 60 [.agg #[fv, c1, c2, c3, c4, c5, c6, c7], .agg (frmE f).toArray] [codeH fv p.funcs] Unit (fun _ => nextR (nextI p f)) (fun _ => True) (fun _ => [codeH fv p.funcs]) :=
  Fn.byX1 fun fs hfs => frame_Next (A := seps [sl fstE 1 fv fs, allH (fun x => sl insE 5 x.1 x.2) fs]) (Rd.grp (Rd.sl .here)) (fun x hx => Rd.grp (rd_one (f := fun x : Value × List Ins => x.1) (g := fun x => x.2) hx (.there .here))) hfs (by rw [← List.length_map (f := (·.2)), hfs]; exact hl) (fun x hx => Nat.le_trans (hl2 _ (by rw [← hfs]; exact List.mem_map_of_mem hx)) (by decide))

set_option maxRecDepth 20000 in
theorem core_Run {W : World} {b : Nat} {s : Spc} {n choice : Int} (hO : SpcOk s) : Fn Tryz.prog W 17 [ptr b, .int .i64 n, .int .i64 choice] [spcH b s] Value (fun u => .tuple #[.agg (effE u (s.run n choice).1).toArray, .int .i64 (s.run n choice).2.1]) (fun _ => True) (fun u => [sl intE 1 u (s.run n choice).1.woken, spcH b (s.run n choice).2.2]) := by
  refine Fn.intro (N := 76) Tryz.func17 rfl Tryz.ntmps17 rfl fun F => ?_
  show GoC _ _ _ _ _ _ [spcH b s, F]
  refine GoC.o1 (C := spcH b s) .auto rfl ?_
  rintro ps -
  refine GoC.o10 (C := spcX b ps s) .auto rfl ?_
  rintro fv sv pv bt vm bg vt bk bw vr -
  refine GoC.know (fun w st => st.fact .auto thrs_same) fun hs => ?_
  refine GoC.seq ?_
  refine GoC.region ?_
  refine GoL.does rfl (Does.alloc rfl Tryz.zeroValue36 rfl) ?_
  rintro _ _ ⟨b6, rfl, rfl⟩
  refine GoL.y rfl (Y.assign rfl) ?_
  refine GoL.nil ?_
  refine GoE.then_normal ?_
  refine GoC.seq ?_
  refine GoC.region ?_
  refine GoL.y rfl (Y.move rfl) ?_
  refine GoL.y rfl (Y.move rfl) ?_
  refine GoL.does rfl (Does.callE rfl Tryz.call59 rfl core_at .auto) ?_
  rintro _ _ ⟨⟨⟩, -, rfl, rfl⟩
  refine GoL.y rfl (Y.assign rfl) ?_
  refine GoL.nil ?_
  refine GoE.then_normal ?_
  refine GoC.seq ?_
  refine GoC.block ?_
  refine GoC.seq ?_
  refine GoC.region ?_
  refine GoL.y rfl (Y.move rfl) ?_
  refine GoL.y rfl (Y.eqPtrNil Tryz.underlying114 rfl rfl) ?_
  refine GoL.y rfl (Y.assign rfl) ?_
  refine GoL.nil ?_
  refine GoE.then_normal ?_
  refine GoC.cond rfl (fun h15 => ?_) (fun h15 => ?_)
  · have hap : atP ps n = none := by
      cases hh : atP ps n with
      | none => rfl
      | some p => rw [hh] at h15; cases h15
    refine GoC.seq ?_
    refine GoC.region ?_
    refine GoL.y rfl (Y.bld0 ([(.slice none 0 0), (.bool false), (.bool false), (.bool false)]) (by kernel_rfl)) ?_
    refine GoL.does rfl (Does.sta (by exact Tryz.sizeOf36) rfl rfl rfl (by rfl)) ?_
    rintro _ _ ⟨rfl, rfl⟩
    refine GoL.y rfl (Y.assign rfl) ?_
    refine GoL.nil ?_
    refine GoE.then_normal ?_
    refine GoC.ret ?_
    refine GoE.block_ret (GoE.then_ret ?_)
    rw [run_none (at_no hs hap hO.lt)]
    refine GoE.retCT rfl rfl Tryz.isAgg36 (by exact Tryz.sizeOf36) Cells.a rfl fun w s => ⟨(.slice none 0 0), ?_, trivial, finE .auto s⟩
    rfl
  · obtain ⟨p, hap⟩ : ∃ p, atP ps n = some p := by
      cases hh : atP ps n with
      | none => rw [hh] at h15; cases h15
      | some p => exact ⟨p, rfl⟩
    rw [hap]
    obtain ⟨k, t, rfl, hk16, hp, ht, hat⟩ := at_yes hs hap hO.lt
    have hR := (hO.R k t ht).1
    have hpc := (hO.R k t ht).2
    refine GoC.seq ?_
    refine GoC.region ?_
    refine GoL.o10 (C := spcX b ps s) .auto rfl ?_
    rintro fv sv pv bt vm bg vt bk bw vr -
    refine GoL.fr .auto (thrs_out hp ht) ?_
    refine GoL.y rfl (Y.move rfl) ?_
    refine GoL.y rfl (Y.nilCheck rfl) ?_
    refine GoL.y rfl (Y.fieldAddr0 11 3 Tryz.underlying133 rfl Tryz.sizeOf3 rfl) ?_
    refine GoL.y rfl (Y.load Tryz.isAgg3 rfl (Cell.a (by rfl))) ?_
    refine GoL.y rfl (Y.neq rfl rfl) ?_
    refine GoL.y rfl (Y.assign rfl) ?_
    refine GoL.nil ?_
    refine GoE.then_normal ?_
    refine GoC.condD rfl (fun h19 => ?_) (fun h19 => ?_)
    · refine GoC.seq ?_
      refine GoC.region ?_
      refine GoL.y rfl (Y.bld0 ([(.slice none 0 0), (.bool false), (.bool false), (.bool false)]) (by kernel_rfl)) ?_
      refine GoL.does rfl (Does.sta (by exact Tryz.sizeOf36) rfl rfl rfl (by rfl)) ?_
      rintro _ _ ⟨rfl, rfl⟩
      refine GoL.y rfl (Y.assign rfl) ?_
      refine GoL.nil ?_
      refine GoE.then_normal ?_
      refine GoC.ret ?_
      refine GoE.block_ret (GoE.then_ret ?_)
      refine GoE.to (A := thrsH ps s.thr) (Bs := [arr p 0 (thrC t), thrsH (ps.set k none) (s.thr.set k none)]) .auto (thrs_keep hp ht) ?_
      rw [run_wait hat h19]
      refine GoE.retCT rfl rfl Tryz.isAgg36 (by exact Tryz.sizeOf36) Cells.a rfl fun w s => ⟨(.slice none 0 0), ?_, trivial, finE .auto s⟩
      rfl
    · have hw0 : t.why = 0 := Decidable.not_not.mp h19
      refine GoC.skip ?_
      refine GoE.block_normal (GoE.then_normal ?_)
      refine GoC.seq ?_
      refine GoC.drawF [arr b 0 (spcC fv sv pv s.prg bt ps vm bg vt bk bw vr), arr p 0 (thrC t)] [0, 0, 0, 0, 0, 0, 0, 0, 2, 0, 0, 0, 4, 2, 0] [0, 1, 2, 3, 4, 5, 6, 7, 8, 9, 10, 11, 12, 13, 14] rfl (by kernel_rfl) ?_
      refine GoF.q rfl rfl rfl Kept.auto (Y.move rfl) ?_
      refine GoF.q rfl rfl rfl Kept.auto (Y.nilCheck rfl) ?_
      refine GoF.q rfl rfl rfl Kept.auto (Y.fieldAddrZ 25 Tryz.underlying118 rfl Tryz.sizeOf25 rfl) ?_
      refine GoF.q rfl rfl rfl Kept.auto (Y.lda Tryz.isAgg25 rfl (Cells.part0 (ds := prgCells fv sv pv s.prg) (Cells.a (cs := spcC fv sv pv s.prg bt ps vm bg vt bk bw vr)) rfl) (by exact Tryz.sizeOf25)) ?_
      refine GoF.q rfl rfl rfl Kept.auto (Y.move rfl) ?_
      refine GoF.q rfl rfl rfl Kept.auto (Y.nilCheck rfl) ?_
      refine GoF.q rfl rfl rfl Kept.auto (Y.fieldAddrZ 131 Tryz.underlying133 rfl Tryz.sizeOf131 rfl) ?_
      refine GoF.q rfl rfl rfl Kept.auto (Y.lda Tryz.isAgg131 rfl (Cells.part0 (ds := frmE t.frm) (Cells.a (cs := thrC t)) rfl) (by exact Tryz.sizeOf131)) ?_
      refine GoF.callE rfl (.inl rfl) rfl (fun _ => Kept.auto) Tryz.call60 rfl (next_codeH (p := s.prg) (f := t.frm) hO.codel.1 hO.codel.2) .auto (fun _ _ => Kept.auto) ?_
      rintro ⟨⟩ -
      refine GoF.q rfl rfl rfl Kept.auto (Y.move rfl) ?_
      refine GoF.q rfl rfl rfl Kept.auto (Y.extract (v := .agg (insE ((nextI s.prg t.frm).getD Ins.z)).toArray) rfl rfl) ?_
      refine GoF.q rfl rfl rfl Kept.auto (Y.extract (v := .bool (nextI s.prg t.frm).isSome) rfl rfl) ?_
      refine GoF.fresh rfl rfl rfl (by decide) Kept.auto (fresh_alloc Tryz.zeroValue123 rfl) ?_
      rintro b9
      refine GoF.sta2 rfl rfl (by exact Tryz.sizeOf123) rfl rfl rfl (by rfl) Kept.auto Kept.auto ?_
      refine GoF.q rfl rfl rfl Kept.auto (Y.assign rfl) ?_
      refine GoF.nil ?_
      refine GoE.then_normal ?_
      refine GoC.seq ?_
      refine GoC.region ?_
      refine GoL.y rfl (Y.move rfl) ?_
      refine GoL.y rfl (Y.move rfl) ?_
      refine GoL.y rfl (Y.move rfl) ?_
      refine GoL.y rfl (Y.lda Tryz.isAgg123 rfl Cells.a (by exact Tryz.sizeOf123)) ?_
      refine GoL.y rfl (Y.move rfl) ?_
      refine GoL.y rfl (Y.bld5 (fun _ _ _ _ _ => dngC b p (s.doing k ((nextI s.prg t.frm).getD Ins.z) choice) (.slice none 0 0) (.slice none 0 0)) rfl rfl rfl rfl rfl (by kernel_rfl)) ?_
      refine GoL.does rfl (Does.box rfl rfl rfl) ?_
      rintro _ _ ⟨b44, rfl, rfl⟩
      refine GoL.y rfl (Y.assign rfl) ?_
      refine GoL.nil ?_
      refine GoE.then_normal ?_
      refine GoC.seq ?_
      refine GoC.block ?_
      refine GoC.seq ?_
      refine GoC.region ?_
      refine GoL.y rfl (Y.move rfl) ?_
      refine GoL.y rfl (Y.not rfl) ?_
      refine GoL.y rfl (Y.assign rfl) ?_
      refine GoL.nil ?_
      refine GoE.then_normal ?_
      refine GoC.cond rfl (fun h56 => ?_) (fun h56 => ?_)
      · have hn : (nextI s.prg t.frm) = none := Option.isNone_iff_eq_none.mp (by simpa using h56)
        refine GoC.seq ?_
        refine GoC.region ?_
        refine GoL.y rfl (Y.move rfl) ?_
        refine GoL.y rfl (Y.bld1 (fun v1 => [v1, (.int .i64 0), (.int .i64 0), (.int .i64 0), (.int .u64 0)]) rfl (by kernel_rfl)) ?_
        refine GoL.y rfl (Y.nilCheck rfl) ?_
        refine GoL.y rfl (Y.fieldAddr0 3 123 Tryz.underlying138 rfl Tryz.sizeOf123 rfl) ?_
        refine GoL.does rfl (Does.stp (vs := insE ⟨23, 0, 0, 0, 0⟩) (by exact Tryz.sizeOf123) rfl rfl rfl rfl) ?_
        rintro _ _ ⟨rfl, rfl⟩
        rw [show setFrom (dngC b p (s.doing k ((nextI s.prg t.frm).getD Ins.z) choice) (.slice none 0 0) (.slice none 0 0)) 3 (insE ⟨23, 0, 0, 0, 0⟩) = dngC b p (s.doing k ⟨23, 0, 0, 0, 0⟩ choice) (.slice none 0 0) (.slice none 0 0) from rfl]
        refine GoL.nil ?_
        refine GoE.then_normal ?_
        refine GoC.seq ?_
        refine GoC.region ?_
        refine GoL.y rfl (Y.move rfl) ?_
        refine GoL.to (A := thrsH ps s.thr) (Bs := [arr p 0 (thrC t), thrsH (ps.set k none) (s.thr.set k none)]) .auto (thrs_keep hp ht) ?_
        refine GoL.does rfl (Does.callE rfl Tryz.call61 rfl (dng_tell (d := (s.doing k ⟨23, 0, 0, 0, 0⟩ choice)) hp ht (Nat.le_trans hO.recs (by decide))) .auto) ?_
        rintro _ _ ⟨⟨⟩, -, rfl, rfl⟩
        refine GoL.nil ?_
        refine GoE.then_normal ?_
        refine GoC.region ?_
        refine GoL.y rfl (Y.move rfl) ?_
        refine GoL.does rfl (Does.callE rfl Tryz.call62 rfl (dng_fin (d := (s.doing k ⟨23, 0, 0, 0, 0⟩ choice).tell 0 0 0 true) hp ht hO.lt (hs.1.trans hO.lt) hO.T hR (Nat.zero_le _) (Nat.zero_le _) (hO.joins hs ht hw0)) .auto) ?_
        rintro _ _ ⟨qs, -, rfl, rfl⟩
        refine GoL.nil ?_
        refine GoE.block_normal (GoE.then_normal ?_)
        refine GoC.seq ?_
        refine GoC.region ?_
        refine GoL.y rfl (Y.move rfl) ?_
        refine GoL.does rfl (Does.callE rfl Tryz.call66 rfl (dng_finish (d := (((s.doing k ⟨23, 0, 0, 0, 0⟩ choice).tell 0 0 0 true).fin 0)) (Nat.le_trans (grew_tell.trans grew_fin).1 (by have := hO.recs; show s.recs.length + _ ≤ _; omega)) (Nat.le_trans (grew_tell.trans grew_fin).2 (by show 0 + _ ≤ _; decide))) .auto) ?_
        rintro _ _ ⟨u75, -, rfl, rfl⟩
        refine GoL.does rfl (Does.staS (vs := [.bool (((s.doing k ⟨23, 0, 0, 0, 0⟩ choice).tell 0 0 0 true).fin 0).finish.1.stopped, .bool (((s.doing k ⟨23, 0, 0, 0, 0⟩ choice).tell 0 0 0 true).fin 0).finish.1.ended, .bool (((s.doing k ⟨23, 0, 0, 0, 0⟩ choice).tell 0 0 0 true).fin 0).finish.1.yielded]) (by exact Tryz.sizeOf36) rfl rfl rfl rfl) ?_
        rintro _ _ ⟨rfl, rfl⟩
        refine GoL.y rfl (Y.assign rfl) ?_
        refine GoL.nil ?_
        refine GoE.then_normal ?_
        refine GoC.ret ?_
        rw [run_end hat h19 hn rfl]
        refine GoE.retCT rfl rfl Tryz.isAgg36 (by exact Tryz.sizeOf36) Cells.a rfl fun w s => ⟨u75, ?_, trivial, finE .auto s⟩
        rfl
      · obtain ⟨i, hn⟩ : ∃ i, (nextI s.prg t.frm) = some i := Option.isSome_iff_exists.mp (by simpa using h56)
        rw [show ((nextI s.prg t.frm).getD Ins.z) = i from by rw [hn]; rfl]
        obtain ⟨hI, hIn, hIt⟩ := next_code hO hn
        refine GoC.seq ?_
        refine GoC.region ?_
        refine GoL.y rfl (Y.fieldAddrZ 3 Tryz.underlying123 rfl Tryz.sizeOf3 rfl) ?_
        refine GoL.y rfl (Y.load Tryz.isAgg3 rfl (Cell.a (by rfl))) ?_
        refine GoL.does rfl (Does.callE rfl Tryz.call63 rfl inst_Class .auto) ?_
        rintro _ _ ⟨⟨⟩, -, rfl, rfl⟩
        refine GoL.y rfl (Y.eql rfl rfl) ?_
        refine GoL.y rfl (Y.assign rfl) ?_
        refine GoL.nil ?_
        refine GoE.then_normal ?_
        refine GoC.condD rfl (fun h67 => ?_) (fun h67 => ?_)
        · refine GoC.region ?_
          refine GoL.y rfl (Y.move rfl) ?_
          refine GoL.to (A := thrsH ps s.thr) (Bs := [arr p 0 (thrC t), thrsH (ps.set k none) (s.thr.set k none)]) .auto (thrs_keep hp ht) ?_
          refine GoL.does rfl (Does.callE rfl Tryz.call64 rfl (dng_plain (d := (s.doing k i choice)) hp ht hI (hR.frm hpc) h67 hO.mem (Nat.le_trans hO.recs (by decide)) hO.lt (hs.1.trans hO.lt) hO.T hR (Nat.zero_le _) (Nat.zero_le _) (hO.joins hs ht hw0)) .auto) ?_
          rintro _ _ ⟨qs, -, rfl, rfl⟩
          refine GoL.nil ?_
          refine GoE.block_normal (GoE.then_normal ?_)
          refine GoC.seq ?_
          refine GoC.region ?_
          refine GoL.y rfl (Y.move rfl) ?_
          refine GoL.does rfl (Does.callE rfl Tryz.call66 rfl (dng_finish (d := (s.doing k i choice).plain) (Nat.le_trans (grew_plain).1 (by have := hO.recs; show s.recs.length + _ ≤ _; omega)) (Nat.le_trans (grew_plain).2 (by show 0 + _ ≤ _; decide))) .auto) ?_
          rintro _ _ ⟨u75, -, rfl, rfl⟩
          refine GoL.does rfl (Does.staS (vs := [.bool (s.doing k i choice).plain.finish.1.stopped, .bool (s.doing k i choice).plain.finish.1.ended, .bool (s.doing k i choice).plain.finish.1.yielded]) (by exact Tryz.sizeOf36) rfl rfl rfl rfl) ?_
          rintro _ _ ⟨rfl, rfl⟩
          refine GoL.y rfl (Y.assign rfl) ?_
          refine GoL.nil ?_
          refine GoE.then_normal ?_
          refine GoC.ret ?_
          rw [run_plain hat h19 hn h67 rfl]
          refine GoE.retCT rfl rfl Tryz.isAgg36 (by exact Tryz.sizeOf36) Cells.a rfl fun w s => ⟨u75, ?_, trivial, finE .auto s⟩
          rfl
        · refine GoC.seq ?_
          refine GoC.region ?_
          refine GoL.y rfl (Y.move rfl) ?_
          refine GoL.y rfl (Y.nilCheck rfl) ?_
          refine GoL.y rfl (Y.fieldAddrZ 131 Tryz.underlying133 rfl Tryz.sizeOf131 rfl) ?_
          refine GoL.y rfl (Y.fieldAddr0 1 3 Tryz.underlying131 rfl Tryz.sizeOf3 rfl) ?_
          refine GoL.y rfl (Y.load Tryz.isAgg3 rfl (Cell.a (by rfl))) ?_
          refine GoL.y rfl (Y.add rfl rfl (by omega)) ?_
          refine GoL.y rfl (Y.nilCheck rfl) ?_
          refine GoL.y rfl (Y.fieldAddrZ 131 Tryz.underlying133 rfl Tryz.sizeOf131 rfl) ?_
          refine GoL.y rfl (Y.fieldAddr0 1 3 Tryz.underlying131 rfl Tryz.sizeOf3 rfl) ?_
          refine GoL.does rfl (Does.st Tryz.sizeOf3 rfl rfl rfl rfl) ?_
          rintro _ _ ⟨rfl, rfl⟩
          rw [thr_pc]
          refine GoL.nil ?_
          refine GoE.then_normal ?_
          refine GoC.region ?_
          refine GoL.y rfl (Y.move rfl) ?_
          refine GoL.to (A := thrsH ps (s.thr.set k (some ({ t with pc := t.pc + 1 })))) (Bs := [arr p 0 (thrC ({ t with pc := t.pc + 1 })), thrsH (ps.set k none) (s.thr.set k none)]) .auto (thrs_shut (List.getElem?_eq_some_iff.1 ht).1 hp) ?_
          refine GoL.does rfl (Does.callE rfl Tryz.call65 rfl (dng_call (d := ((s.doing k i choice).setT { t with pc := t.pc + 1 })) hp (setT_same ht) (hO.call hs ht hw0 hI (hIn h67) hIt)) .auto) ?_
          rintro _ _ ⟨qs, -, rfl, rfl⟩
          refine GoL.nil ?_
          refine GoE.block_normal (GoE.then_normal ?_)
          refine GoC.seq ?_
          refine GoC.region ?_
          refine GoL.y rfl (Y.move rfl) ?_
          refine GoL.does rfl (Does.callE rfl Tryz.call66 rfl (dng_finish (d := ((s.doing k i choice).setT { t with pc := t.pc + 1 }).call) (Nat.le_trans (grew_call hO.gsm.2).1 (by have := hO.recs; show s.recs.length + _ ≤ _; omega)) (Nat.le_trans (grew_call hO.gsm.2).2 (by show 0 + _ ≤ _; decide))) .auto) ?_
          rintro _ _ ⟨u75, -, rfl, rfl⟩
          refine GoL.does rfl (Does.staS (vs := [.bool ((s.doing k i choice).setT { t with pc := t.pc + 1 }).call.finish.1.stopped, .bool ((s.doing k i choice).setT { t with pc := t.pc + 1 }).call.finish.1.ended, .bool ((s.doing k i choice).setT { t with pc := t.pc + 1 }).call.finish.1.yielded]) (by exact Tryz.sizeOf36) rfl rfl rfl rfl) ?_
          rintro _ _ ⟨rfl, rfl⟩
          refine GoL.y rfl (Y.assign rfl) ?_
          refine GoL.nil ?_
          refine GoE.then_normal ?_
          refine GoC.ret ?_
          rw [run_call hat h19 hn h67 rfl]
          refine GoE.retCT rfl rfl Tryz.isAgg36 (by exact Tryz.sizeOf36) Cells.a rfl fun w s => ⟨u75, ?_, trivial, finE .auto s⟩
          rfl

end Go.SLYtpcjdohmjmeehaaGreat
namespace Go.SLYtpcjdohmjmeehaaGreat
open Go Go.RowKit

section
variable {P : Program}
end
def thdE (t : Thr) : List Value := [.int .u64 t.handle, .int .i64 t.why, .int .i64 t.fn, .int .i64 t.pc, .int .u64 (t.regs.getD 0 0), .int .u64 (t.regs.getD 1 0), .int .u64 (t.regs.getD 2 0), .int .u64 (t.regs.getD 3 0), .int .u64 (t.regs.getD 4 0), .int .u64 (t.regs.getD 5 0), .int .u64 (t.regs.getD 6 0), .int .u64 (t.regs.getD 7 0), .int .u64 t.value]
def thrY : Thr := ⟨0, 0, [], 0, 0, 0, false, 0, 0, 0⟩
theorem spc_done_no {s : Spc} {k : Int} (h : (s.disk.done k).2.2.1 = false) : s.done k = (Eff.z, 3, s) := by unfold Spc.done; simp only; rw [if_pos h]
theorem spc_done_ok {s : Spc} {k : Int} {t : Thr} (h : (s.disk.done k).2.2.1 = true) (ht : s.thr[(s.disk.done k).1.who.toNat]? = some (some t)) :
    s.done k = (⟨[(s.disk.done k).1.who], false, false, false⟩, 0, (({ s with disk := (s.disk.done k).2.2.2 } : Spc).wake (s.disk.done k).1.who.toNat (s.disk.done k).2.1).tell (t.woke (s.disk.done k).2.1)) := by
  unfold Spc.done; simp only; rw [if_neg (by rw [h]; simp), show ({ s with disk := (s.disk.done k).2.2.2 } : Spc).t (s.disk.done k).1.who.toNat = t from spc_t ht]
theorem wakeAll_recs (s : Spc) (a : List Int) : (wakeAll s a).recs.length = s.recs.length + a.length := by
  induction a generalizing s with
  | nil => rfl
  | cons x l ih =>
    show (wakeAll _ l).recs.length = _
    rw [ih]; simp [Spc.tell, Spc.wake, Spc.setT]; omega
theorem sortI_len (l : List Int) : (sortI l).length = l.length := by
  induction l with
  | nil => rfl
  | cons a l ih =>
    have hi : ∀ (m : List Int), (insSorted a m).length = m.length + 1 := by
      intro m
      induction m with
      | nil => rfl
      | cons b m ihm => unfold insSorted; split <;> simp [ihm]
    show (insSorted a (sortI l)).length = _
    rw [hi, ih, List.length_cons]
theorem due_len2 (w : Whl) : w.due.length ≤ w.till.length := by
  unfold Whl.due; rw [sortI_len, List.length_map]; exact List.length_filter_le ..
end Go.SLYtpcjdohmjmeehaaGreat
namespace Go.SLYtpcjdohmjmeehaaGreat
open Go Go.RowKit Go.Proofs

set_option maxRecDepth 20000 in
theorem core_atN {W : World} {n : Int} : Fn Tryz.prog W 59 [.pointer none, .int .i64 n] [] Unit (fun _ => .pointer none) (fun _ => True) (fun _ => []) := by
  refine Fn.intro (N := 21) Tryz.func59 rfl Tryz.ntmps59 rfl fun F => ?_
  show GoC _ _ _ _ _ _ [F]
  refine GoC.seq ?_
  refine GoC.region ?_
  refine GoL.y rfl (Y.assign rfl) ?_
  refine GoL.nil ?_
  refine GoE.then_normal ?_
  refine GoC.seq ?_
  refine GoC.seq ?_
  refine GoC.region ?_
  refine GoL.y rfl (Y.move rfl) ?_
  refine GoL.y rfl (Y.eqPtrNil Tryz.underlying27 rfl rfl) ?_
  refine GoL.y rfl (Y.move rfl) ?_
  refine GoL.skip rfl rfl rfl rfl ?_
  refine GoL.skip rfl rfl rfl rfl ?_
  refine GoL.y rfl (Y.pickT rfl rfl) ?_
  refine GoL.y rfl (Y.move rfl) ?_
  refine GoL.skip rfl rfl rfl rfl ?_
  refine GoL.skip rfl rfl rfl rfl ?_
  refine GoL.y rfl (Y.pickT rfl rfl) ?_
  refine GoL.nil ?_
  refine GoE.then_normal ?_
  refine GoC.condT rfl ?_
  refine GoC.seq ?_
  refine GoC.region ?_
  refine GoL.y rfl (Y.assign rfl) ?_
  refine GoL.nil ?_
  refine GoE.then_normal ?_
  refine GoC.ret ?_
  refine GoE.then_ret ?_
  refine GoE.ret1 rfl rfl fun w s => ⟨(), ?_, trivial, finE .auto s⟩
  rfl

set_option maxRecDepth 20000 in
theorem core_RunN {W : World} {n c : Int} : Fn Tryz.prog W 17 [.pointer none, .int .i64 n, .int .i64 c] [] Unit (fun _ => .tuple #[.agg (effE (.slice none 0 0) Eff.z).toArray, .int .i64 1]) (fun _ => True) (fun _ => []) := by
  refine Fn.intro (N := 76) Tryz.func17 rfl Tryz.ntmps17 rfl fun F => ?_
  show GoC _ _ _ _ _ _ [F]
  refine GoC.seq ?_
  refine GoC.region ?_
  refine GoL.does rfl (Does.alloc rfl Tryz.zeroValue36 rfl) ?_
  rintro _ _ ⟨b6, rfl, rfl⟩
  refine GoL.y rfl (Y.assign rfl) ?_
  refine GoL.nil ?_
  refine GoE.then_normal ?_
  refine GoC.seq ?_
  refine GoC.region ?_
  refine GoL.y rfl (Y.move rfl) ?_
  refine GoL.y rfl (Y.move rfl) ?_
  refine GoL.does rfl (Does.callE rfl Tryz.call59 rfl core_atN .auto) ?_
  rintro _ _ ⟨⟨⟩, -, rfl, rfl⟩
  refine GoL.y rfl (Y.assign rfl) ?_
  refine GoL.nil ?_
  refine GoE.then_normal ?_
  refine GoC.seq ?_
  refine GoC.block ?_
  refine GoC.seq ?_
  refine GoC.region ?_
  refine GoL.y rfl (Y.move rfl) ?_
  refine GoL.y rfl (Y.eqPtrNil Tryz.underlying114 rfl rfl) ?_
  refine GoL.y rfl (Y.assign rfl) ?_
  refine GoL.nil ?_
  refine GoE.then_normal ?_
  refine GoC.condT rfl ?_
  refine GoC.seq ?_
  refine GoC.region ?_
  refine GoL.y rfl (Y.bld0 ([(.slice none 0 0), (.bool false), (.bool false), (.bool false)]) (by kernel_rfl)) ?_
  refine GoL.does rfl (Does.sta (by exact Tryz.sizeOf36) rfl rfl rfl (by rfl)) ?_
  rintro _ _ ⟨rfl, rfl⟩
  refine GoL.y rfl (Y.assign rfl) ?_
  refine GoL.nil ?_
  refine GoE.then_normal ?_
  refine GoC.ret ?_
  refine GoE.block_ret (GoE.then_ret ?_)
  refine GoE.retCT rfl rfl Tryz.isAgg36 (by exact Tryz.sizeOf36) Cells.a rfl fun w s => ⟨(), ?_, trivial, finE .auto s⟩
  rfl

set_option maxRecDepth 20000 in
theorem core_DoneN {W : World} {c : Int} : Fn Tryz.prog W 18 [.pointer none, .int .i64 c] [] Unit (fun _ => .tuple #[.agg (effE (.slice none 0 0) Eff.z).toArray, .int .i64 1]) (fun _ => True) (fun _ => []) := by
  refine Fn.intro (N := 43) Tryz.func18 rfl Tryz.ntmps18 rfl fun F => ?_
  show GoC _ _ _ _ _ _ [F]
  refine GoC.seq ?_
  refine GoC.region ?_
  refine GoL.does rfl (Does.alloc rfl Tryz.zeroValue36 rfl) ?_
  rintro _ _ ⟨b4, rfl, rfl⟩
  refine GoL.y rfl (Y.assign rfl) ?_
  refine GoL.nil ?_
  refine GoE.then_normal ?_
  refine GoC.seq ?_
  refine GoC.seq ?_
  refine GoC.region ?_
  refine GoL.y rfl (Y.move rfl) ?_
  refine GoL.y rfl (Y.eqPtrNil Tryz.underlying27 rfl rfl) ?_
  refine GoL.nil ?_
  refine GoE.then_normal ?_
  refine GoC.condT rfl ?_
  refine GoC.seq ?_
  refine GoC.region ?_
  refine GoL.y rfl (Y.bld0 ([(.slice none 0 0), (.bool false), (.bool false), (.bool false)]) (by kernel_rfl)) ?_
  refine GoL.does rfl (Does.sta (by exact Tryz.sizeOf36) rfl rfl rfl (by rfl)) ?_
  rintro _ _ ⟨rfl, rfl⟩
  refine GoL.y rfl (Y.assign rfl) ?_
  refine GoL.nil ?_
  refine GoE.then_normal ?_
  refine GoC.ret ?_
  refine GoE.then_ret ?_
  refine GoE.retCT rfl rfl Tryz.isAgg36 (by exact Tryz.sizeOf36) Cells.a rfl fun w s => ⟨(), ?_, trivial, finE .auto s⟩
  rfl

set_option maxRecDepth 20000 in
theorem core_TickN {W : World}  : Fn Tryz.prog W 19 [.pointer none] [] Unit (fun _ => .agg (effE (.slice none 0 0) Eff.z).toArray) (fun _ => True) (fun _ => []) := by
  refine Fn.intro (N := 35) Tryz.func19 rfl Tryz.ntmps19 rfl fun F => ?_
  show GoC _ _ _ _ _ _ [F]
  refine GoC.seq ?_
  refine GoC.region ?_
  refine GoL.does rfl (Does.alloc rfl Tryz.zeroValue36 rfl) ?_
  rintro _ _ ⟨b2, rfl, rfl⟩
  refine GoL.nil ?_
  refine GoE.then_normal ?_
  refine GoC.seq ?_
  refine GoC.seq ?_
  refine GoC.region ?_
  refine GoL.y rfl (Y.move rfl) ?_
  refine GoL.y rfl (Y.eqPtrNil Tryz.underlying27 rfl rfl) ?_
  refine GoL.nil ?_
  refine GoE.then_normal ?_
  refine GoC.condT rfl ?_
  refine GoC.seq ?_
  refine GoC.region ?_
  refine GoL.y rfl (Y.bld0 ([(.slice none 0 0), (.bool false), (.bool false), (.bool false)]) (by kernel_rfl)) ?_
  refine GoL.does rfl (Does.sta (by exact Tryz.sizeOf36) rfl rfl rfl (by rfl)) ?_
  rintro _ _ ⟨rfl, rfl⟩
  refine GoL.nil ?_
  refine GoE.then_normal ?_
  refine GoC.ret ?_
  refine GoE.then_ret ?_
  refine GoE.retC rfl rfl Tryz.isAgg36 (by exact Tryz.sizeOf36) Cells.a fun w s => ⟨(), ?_, trivial, finE .auto s⟩
  rfl

set_option maxRecDepth 20000 in
theorem core_LookN {W : World} {n : Int} : Fn Tryz.prog W 30 [.pointer none, .int .i64 n] [] Unit (fun _ => .tuple #[.agg (thdE thrY).toArray, .bool false]) (fun _ => True) (fun _ => []) := by
  refine Fn.intro (N := 41) Tryz.func30 rfl Tryz.ntmps30 rfl fun F => ?_
  show GoC _ _ _ _ _ _ [F]
  refine GoC.seq ?_
  refine GoC.region ?_
  refine GoL.does rfl (Does.alloc rfl Tryz.zeroValue59 rfl) ?_
  rintro _ _ ⟨b4, rfl, rfl⟩
  refine GoL.y rfl (Y.assign rfl) ?_
  refine GoL.nil ?_
  refine GoE.then_normal ?_
  refine GoC.seq ?_
  refine GoC.region ?_
  refine GoL.y rfl (Y.move rfl) ?_
  refine GoL.y rfl (Y.move rfl) ?_
  refine GoL.does rfl (Does.callE rfl Tryz.call59 rfl core_atN .auto) ?_
  rintro _ _ ⟨⟨⟩, -, rfl, rfl⟩
  refine GoL.y rfl (Y.assign rfl) ?_
  refine GoL.nil ?_
  refine GoE.then_normal ?_
  refine GoC.seq ?_
  refine GoC.seq ?_
  refine GoC.region ?_
  refine GoL.y rfl (Y.move rfl) ?_
  refine GoL.y rfl (Y.eqPtrNil Tryz.underlying114 rfl rfl) ?_
  refine GoL.nil ?_
  refine GoE.then_normal ?_
  refine GoC.condT rfl ?_
  refine GoC.seq ?_
  refine GoC.region ?_
  refine GoL.y rfl (Y.bld0 ([(.int .u64 0), (.int .i64 0), (.int .i64 0), (.int .i64 0), (.int .u64 0), (.int .u64 0), (.int .u64 0), (.int .u64 0), (.int .u64 0), (.int .u64 0), (.int .u64 0), (.int .u64 0), (.int .u64 0)]) (by kernel_rfl)) ?_
  refine GoL.does rfl (Does.sta (by exact Tryz.sizeOf59) rfl rfl rfl (by rfl)) ?_
  rintro _ _ ⟨rfl, rfl⟩
  refine GoL.y rfl (Y.assign rfl) ?_
  refine GoL.nil ?_
  refine GoE.then_normal ?_
  refine GoC.ret ?_
  refine GoE.then_ret ?_
  refine GoE.retCT rfl rfl Tryz.isAgg59 (by exact Tryz.sizeOf59) Cells.a rfl fun w s => ⟨(), ?_, trivial, finE .auto s⟩
  rfl

set_option maxRecDepth 20000 in
theorem core_ClassN {W : World} {n : Int} : Fn Tryz.prog W 32 [.pointer none, .int .i64 n] [] Unit (fun _ => .int .i64 0) (fun _ => True) (fun _ => []) := by
  refine Fn.intro (N := 37) Tryz.func32 rfl Tryz.ntmps32 rfl fun F => ?_
  show GoC _ _ _ _ _ _ [F]
  refine GoC.seq ?_
  refine GoC.region ?_
  refine GoL.y rfl (Y.assign rfl) ?_
  refine GoL.nil ?_
  refine GoE.then_normal ?_
  refine GoC.seq ?_
  refine GoC.region ?_
  refine GoL.y rfl (Y.move rfl) ?_
  refine GoL.y rfl (Y.move rfl) ?_
  refine GoL.does rfl (Does.callE rfl Tryz.call59 rfl core_atN .auto) ?_
  rintro _ _ ⟨⟨⟩, -, rfl, rfl⟩
  refine GoL.y rfl (Y.assign rfl) ?_
  refine GoL.nil ?_
  refine GoE.then_normal ?_
  refine GoC.seq ?_
  refine GoC.seq ?_
  refine GoC.region ?_
  refine GoL.y rfl (Y.move rfl) ?_
  refine GoL.y rfl (Y.eqPtrNil Tryz.underlying114 rfl rfl) ?_
  refine GoL.y rfl (Y.move rfl) ?_
  refine GoL.skip rfl rfl rfl rfl ?_
  refine GoL.skip rfl rfl rfl rfl ?_
  refine GoL.skip rfl rfl rfl rfl ?_
  refine GoL.skip rfl rfl rfl rfl ?_
  refine GoL.skip rfl rfl rfl rfl ?_
  refine GoL.y rfl (Y.pickT rfl rfl) ?_
  refine GoL.nil ?_
  refine GoE.then_normal ?_
  refine GoC.condT rfl ?_
  refine GoC.seq ?_
  refine GoC.region ?_
  refine GoL.y rfl (Y.assign rfl) ?_
  refine GoL.nil ?_
  refine GoE.then_normal ?_
  refine GoC.ret ?_
  refine GoE.then_ret ?_
  refine GoE.ret1 rfl rfl fun w s => ⟨(), ?_, trivial, finE .auto s⟩
  rfl

set_option maxRecDepth 20000 in
theorem core_ReadyN {W : World}  : Fn Tryz.prog W 22 [.pointer none] [] Unit (fun _ => (.slice none 0 0)) (fun _ => True) (fun _ => []) := by
  refine Fn.intro (N := 31) Tryz.func22 rfl Tryz.ntmps22 rfl fun F => ?_
  show GoC _ _ _ _ _ _ [F]
  refine GoC.seq ?_
  refine GoC.region ?_
  refine GoL.y rfl (Y.assign rfl) ?_
  refine GoL.nil ?_
  refine GoE.then_normal ?_
  refine GoC.seq ?_
  refine GoC.seq ?_
  refine GoC.region ?_
  refine GoL.y rfl (Y.move rfl) ?_
  refine GoL.y rfl (Y.eqPtrNil Tryz.underlying27 rfl rfl) ?_
  refine GoL.nil ?_
  refine GoE.then_normal ?_
  refine GoC.condT rfl ?_
  refine GoC.seq ?_
  refine GoC.region ?_
  refine GoL.y rfl (Y.assign rfl) ?_
  refine GoL.nil ?_
  refine GoE.then_normal ?_
  refine GoC.ret ?_
  refine GoE.then_ret ?_
  refine GoE.ret1 rfl rfl fun w s => ⟨(), ?_, trivial, finE .auto s⟩
  rfl

set_option maxRecDepth 20000 in
theorem core_RecordsN {W : World}  : Fn Tryz.prog W 20 [.pointer none] [] Unit (fun _ => (.slice none 0 0)) (fun _ => True) (fun _ => []) := by
  refine Fn.intro (N := 11) Tryz.func20 rfl Tryz.ntmps20 rfl fun F => ?_
  show GoC _ _ _ _ _ _ [F]
  refine GoC.seq ?_
  refine GoC.region ?_
  refine GoL.y rfl (Y.assign rfl) ?_
  refine GoL.nil ?_
  refine GoE.then_normal ?_
  refine GoC.seq ?_
  refine GoC.seq ?_
  refine GoC.region ?_
  refine GoL.y rfl (Y.move rfl) ?_
  refine GoL.y rfl (Y.eqPtrNil Tryz.underlying27 rfl rfl) ?_
  refine GoL.nil ?_
  refine GoE.then_normal ?_
  refine GoC.condT rfl ?_
  refine GoC.seq ?_
  refine GoC.region ?_
  refine GoL.y rfl (Y.assign rfl) ?_
  refine GoL.nil ?_
  refine GoE.then_normal ?_
  refine GoC.ret ?_
  refine GoE.then_ret ?_
  refine GoE.ret1 rfl rfl fun w s => ⟨(), ?_, trivial, finE .auto s⟩
  rfl

set_option maxRecDepth 20000 in
theorem core_MemoryN {W : World}  : Fn Tryz.prog W 26 [.pointer none] [] Unit (fun _ => (.slice none 0 0)) (fun _ => True) (fun _ => []) := by
  refine Fn.intro (N := 11) Tryz.func26 rfl Tryz.ntmps26 rfl fun F => ?_
  show GoC _ _ _ _ _ _ [F]
  refine GoC.seq ?_
  refine GoC.region ?_
  refine GoL.y rfl (Y.assign rfl) ?_
  refine GoL.nil ?_
  refine GoE.then_normal ?_
  refine GoC.seq ?_
  refine GoC.seq ?_
  refine GoC.region ?_
  refine GoL.y rfl (Y.move rfl) ?_
  refine GoL.y rfl (Y.eqPtrNil Tryz.underlying27 rfl rfl) ?_
  refine GoL.nil ?_
  refine GoE.then_normal ?_
  refine GoC.condT rfl ?_
  refine GoC.seq ?_
  refine GoC.region ?_
  refine GoL.y rfl (Y.assign rfl) ?_
  refine GoL.nil ?_
  refine GoE.then_normal ?_
  refine GoC.ret ?_
  refine GoE.then_ret ?_
  refine GoE.ret1 rfl rfl fun w s => ⟨(), ?_, trivial, finE .auto s⟩
  rfl

set_option maxRecDepth 20000 in
theorem core_Look {W : World} {b : Nat} {s : Spc} {n : Int} (hO : SpcOk s) : Fn Tryz.prog W 30 [ptr b, .int .i64 n] [spcH b s] Unit (fun _ => .tuple #[.agg (thdE ((s.at n).getD thrY)).toArray, .bool (s.at n).isSome]) (fun _ => True) (fun _ => [spcH b s]) := by
  refine Fn.intro (N := 41) Tryz.func30 rfl Tryz.ntmps30 rfl fun F => ?_
  show GoC _ _ _ _ _ _ [spcH b s, F]
  refine GoC.o1 (C := spcH b s) .auto rfl ?_
  rintro ps -
  refine GoC.o10 (C := spcX b ps s) .auto rfl ?_
  rintro fv sv pv bt vm bg vt bk bw vr -
  refine GoC.know (fun w st => st.fact .auto thrs_same) fun hs => ?_
  refine GoC.seq ?_
  refine GoC.region ?_
  refine GoL.does rfl (Does.alloc rfl Tryz.zeroValue59 rfl) ?_
  rintro _ _ ⟨b4, rfl, rfl⟩
  refine GoL.y rfl (Y.assign rfl) ?_
  refine GoL.nil ?_
  refine GoE.then_normal ?_
  refine GoC.seq ?_
  refine GoC.region ?_
  refine GoL.y rfl (Y.move rfl) ?_
  refine GoL.y rfl (Y.move rfl) ?_
  refine GoL.does rfl (Does.callE rfl Tryz.call59 rfl core_at .auto) ?_
  rintro _ _ ⟨⟨⟩, -, rfl, rfl⟩
  refine GoL.y rfl (Y.assign rfl) ?_
  refine GoL.nil ?_
  refine GoE.then_normal ?_
  refine GoC.seq ?_
  refine GoC.seq ?_
  refine GoC.region ?_
  refine GoL.y rfl (Y.move rfl) ?_
  refine GoL.y rfl (Y.eqPtrNil Tryz.underlying114 rfl rfl) ?_
  refine GoL.nil ?_
  refine GoE.then_normal ?_
  refine GoC.cond rfl (fun h11 => ?_) (fun h11 => ?_)
  · have hap : atP ps n = none := by
      cases hh : atP ps n with
      | none => rfl
      | some p => rw [hh] at h11; cases h11
    refine GoC.seq ?_
    refine GoC.region ?_
    refine GoL.y rfl (Y.bld0 ([(.int .u64 0), (.int .i64 0), (.int .i64 0), (.int .i64 0), (.int .u64 0), (.int .u64 0), (.int .u64 0), (.int .u64 0), (.int .u64 0), (.int .u64 0), (.int .u64 0), (.int .u64 0), (.int .u64 0)]) (by kernel_rfl)) ?_
    refine GoL.does rfl (Does.sta (by exact Tryz.sizeOf59) rfl rfl rfl (by rfl)) ?_
    rintro _ _ ⟨rfl, rfl⟩
    refine GoL.y rfl (Y.assign rfl) ?_
    refine GoL.nil ?_
    refine GoE.then_normal ?_
    refine GoC.ret ?_
    refine GoE.then_ret ?_
    rw [at_no hs hap hO.lt]
    refine GoE.retCT rfl rfl Tryz.isAgg59 (by exact Tryz.sizeOf59) Cells.a rfl fun w s => ⟨(), ?_, trivial, finE .auto s⟩
    rfl
  · obtain ⟨p, hap⟩ : ∃ p, atP ps n = some p := by
      cases hh : atP ps n with
      | none => rw [hh] at h11; cases h11
      | some p => exact ⟨p, rfl⟩
    rw [hap]
    obtain ⟨k, t, rfl, hk16, hp, ht, hat⟩ := at_yes hs hap hO.lt
    refine GoC.o10 (C := spcX b ps s) .auto rfl ?_
    rintro fv sv pv bt vm bg vt bk bw vr -
    refine GoC.fr .auto (thrs_out hp ht) ?_
    refine GoC.skip ?_
    refine GoE.then_normal ?_
    refine GoC.seq ?_
    refine GoC.draw [arr p 0 (thrC t)] [1, 1, 1, 1, 1, 1, 1, 1, 1, 1, 1, 1, 1, 1, 1, 1, 1, 1, 1, 1, 1, 1, 1, 1, 1, 1, 1, 1, 3, 1] rfl (by kernel_rfl) ?_
    refine GoK.s rfl (Y.move rfl) ?_
    refine GoK.s rfl (Y.nilCheck rfl) ?_
    refine GoK.s rfl (Y.fieldAddr0 10 43 Tryz.underlying133 rfl Tryz.sizeOf43 rfl) ?_
    refine GoK.s rfl (Y.load Tryz.isAgg43 rfl (Cell.a (by rfl))) ?_
    refine GoK.s rfl (Y.move rfl) ?_
    refine GoK.s rfl (Y.nilCheck rfl) ?_
    refine GoK.s rfl (Y.fieldAddr0 11 3 Tryz.underlying133 rfl Tryz.sizeOf3 rfl) ?_
    refine GoK.s rfl (Y.load Tryz.isAgg3 rfl (Cell.a (by rfl))) ?_
    refine GoK.s rfl (Y.move rfl) ?_
    refine GoK.s rfl (Y.nilCheck rfl) ?_
    refine GoK.s rfl (Y.fieldAddrZ 131 Tryz.underlying133 rfl Tryz.sizeOf131 rfl) ?_
    refine GoK.s rfl (Y.fieldAddrZ 3 Tryz.underlying131 rfl Tryz.sizeOf3 rfl) ?_
    refine GoK.s rfl (Y.load Tryz.isAgg3 rfl (Cell.a (by rfl))) ?_
    refine GoK.s rfl (Y.move rfl) ?_
    refine GoK.s rfl (Y.nilCheck rfl) ?_
    refine GoK.s rfl (Y.fieldAddrZ 131 Tryz.underlying133 rfl Tryz.sizeOf131 rfl) ?_
    refine GoK.s rfl (Y.fieldAddr0 1 3 Tryz.underlying131 rfl Tryz.sizeOf3 rfl) ?_
    refine GoK.s rfl (Y.load Tryz.isAgg3 rfl (Cell.a (by rfl))) ?_
    refine GoK.s rfl (Y.move rfl) ?_
    refine GoK.s rfl (Y.nilCheck rfl) ?_
    refine GoK.s rfl (Y.fieldAddrZ 131 Tryz.underlying133 rfl Tryz.sizeOf131 rfl) ?_
    refine GoK.s rfl (Y.fieldAddr0 2 57 Tryz.underlying131 rfl Tryz.sizeOf57 rfl) ?_
    refine GoK.s rfl (Y.lda Tryz.isAgg57 rfl (Cells.part0 (ds := [.int .u64 (t.regs.getD 0 0), .int .u64 (t.regs.getD 1 0), .int .u64 (t.regs.getD 2 0), .int .u64 (t.regs.getD 3 0), .int .u64 (t.regs.getD 4 0), .int .u64 (t.regs.getD 5 0), .int .u64 (t.regs.getD 6 0), .int .u64 (t.regs.getD 7 0)]) (Cells.a (cs := thrC t)) rfl) (by exact Tryz.sizeOf57)) ?_
    refine GoK.s rfl (Y.move rfl) ?_
    refine GoK.s rfl (Y.nilCheck rfl) ?_
    refine GoK.s rfl (Y.fieldAddr0 12 43 Tryz.underlying133 rfl Tryz.sizeOf43 rfl) ?_
    refine GoK.s rfl (Y.load Tryz.isAgg43 rfl (Cell.a (by rfl))) ?_
    refine GoK.s rfl (Y.bld6 (fun _ _ _ _ _ _ => thdE t) rfl rfl rfl rfl rfl rfl (by kernel_rfl)) ?_
    refine GoK.d3 rfl (Does.sta (by exact Tryz.sizeOf59) rfl rfl rfl (by rfl)) ?_
    rintro _ _ ⟨rfl, rfl⟩
    refine GoK.s rfl (Y.assign rfl) ?_
    refine GoK.nil ?_
    refine GoE.then_normal ?_
    refine GoC.ret ?_
    refine GoE.to (A := thrsH ps s.thr) (Bs := [arr p 0 (thrC t), thrsH (ps.set k none) (s.thr.set k none)]) .auto (thrs_keep hp ht) ?_
    rw [hat]
    refine GoE.retCT rfl rfl Tryz.isAgg59 (by exact Tryz.sizeOf59) Cells.a rfl fun w s => ⟨(), ?_, trivial, finE .auto s⟩
    rfl

end Go.SLYtpcjdohmjmeehaaGreat
namespace Go.SLYtpcjdohmjmeehaaGreat
open Go Go.RowKit Go.Proofs

set_option maxRecDepth 20000 in
theorem core_Records {W : World} {b : Nat} {s : Spc} (hl : s.recs.length ≤ 1000000000) : Fn Tryz.prog W 20 [ptr b] [spcH b s] Value (fun u => u) (fun _ => True) (fun u => [sl recE 6 u s.recs, spcH b s]) := by
  refine Fn.intro (N := 11) Tryz.func20 rfl Tryz.ntmps20 rfl fun F => ?_
  show GoC _ _ _ _ _ _ [spcH b s, F]
  refine GoC.o1 (C := spcH b s) .auto rfl ?_
  rintro ps -
  refine GoC.o10 (C := spcX b ps s) .auto rfl ?_
  rintro fv sv pv bt vm bg vt bk bw vr -
  refine GoC.seq ?_
  refine GoC.region ?_
  refine GoL.y rfl (Y.assign rfl) ?_
  refine GoL.nil ?_
  refine GoE.then_normal ?_
  refine GoC.seq ?_
  refine GoC.seq ?_
  refine GoC.region ?_
  refine GoL.y rfl (Y.move rfl) ?_
  refine GoL.y rfl (Y.eqPtrNil Tryz.underlying27 rfl rfl) ?_
  refine GoL.nil ?_
  refine GoE.then_normal ?_
  refine GoC.condF rfl ?_
  refine GoC.skip ?_
  refine GoE.then_normal ?_
  refine GoC.seq ?_
  refine GoC.region ?_
  refine GoL.y rfl (Y.move rfl) ?_
  refine GoL.y rfl (Y.nilCheck rfl) ?_
  refine GoL.y rfl (Y.fieldAddr0 30 32 Tryz.underlying118 rfl Tryz.sizeOf32 rfl) ?_
  refine GoL.y rfl (Y.load Tryz.isAgg32 rfl (Cell.a (by rfl))) ?_
  refine GoL.does rfl (Does.callE rfl Tryz.call71 rfl (CloneR (A := sl recE 6 vr s.recs) (Rd.sl .here) hl) .auto) ?_
  rintro _ _ ⟨u9, -, rfl, rfl⟩
  refine GoL.does rfl (Does.callE rfl Tryz.call70 rfl ClipR .auto) ?_
  rintro _ _ ⟨u10, -, rfl, rfl⟩
  refine GoL.y rfl (Y.assign rfl) ?_
  refine GoL.nil ?_
  refine GoE.then_normal ?_
  refine GoC.ret ?_
  refine GoE.ret1 rfl rfl fun w s => ⟨u10, ?_, trivial, finE .auto s⟩
  rfl

end Go.SLYtpcjdohmjmeehaaGreat
namespace Go.SLYtpcjdohmjmeehaaGreat
open Go Go.RowKit

def sumN {α : Type} (f : α → Nat) (l : List α) : Nat := (l.map f).sum
theorem sumN_set {α : Type} {f : α → Nat} : ∀ {l : List α} {i : Nat} {x : α} (y : α), l[i]? = some x → sumN f (l.set i y) + f x = sumN f l + f y
  | a :: l, 0, x, y, h => by
    obtain rfl : a = x := by simpa using h
    simp [sumN]; omega
  | a :: l, i + 1, x, y, h => by
    have := sumN_set (f := f) (l := l) (i := i) y (by simpa using h)
    simp [sumN] at this ⊢; omega
theorem sumN_ge {α : Type} {f : α → Nat} : ∀ {l : List α} {x : α}, x ∈ l → f x ≤ sumN f l
  | a :: l, x, h => by
    rcases List.mem_cons.1 h with rfl | h
    · simp [sumN]
    · have := sumN_ge (f := f) h
      simp [sumN] at this ⊢; omega
theorem sumN_zero {α : Type} {f : α → Nat} {l : List α} (h : ∀ x ∈ l, f x = 0) : sumN f l = 0 := by
  induction l with
  | nil => rfl
  | cons a l ih =>
    have := ih (fun x hx => h x (List.mem_cons_of_mem _ hx))
    have := h a List.mem_cons_self
    simp [sumN] at *; omega
theorem countP_erase {α : Type} {P : α → Bool} : ∀ {l : List α} {i : Nat} {x : α}, l[i]? = some x → (l.eraseIdx i).countP P + (if P x = true then 1 else 0) = l.countP P
  | a :: l, 0, x, h => by
    obtain rfl : a = x := by simpa using h
    simp [List.countP_cons]
  | a :: l, i + 1, x, h => by
    have := countP_erase (P := P) (l := l) (i := i) (x := x) (by simpa using h)
    simp [List.countP_cons] at this ⊢; omega

def isW (w : Int) (x : Wtr) : Bool := decide (x.who = w)
def cRow (w : Int) (l : List Wtr) : Nat := l.countP (isW w)
def cG (g : Gates) (w : Int) : Nat := sumN (fun m : Mtx => cRow w m.wait) g.mtx + sumN (cRow w) g.cnd + sumN (fun m : Smp => cRow w m.wait) g.sem
def cU (w : Int) (u : Tub) : Nat := u.gets.count w + u.puts.countP fun x => decide (x.who = w)
def cT (l : List Tub) (w : Int) : Nat := sumN (cU w) l
def cD (d : Dsk) (w : Int) : Nat := d.wait.countP fun r => decide (r.who = w)
def cL (u : Whl) (w : Int) : Nat := u.till.countP fun x => decide (x.1 = w)
def jn (w : Int) : Option Thr → Nat
  | none => 0
  | some t => if t.joiner = w ∧ ¬ w = -1 then 1 else 0
def cJ (l : List (Option Thr)) (w : Int) : Nat := sumN (jn w) l
/-- At how many places someone waits. -/
def cnt (s : Spc) (w : Int) : Nat := cG s.gates w + cT s.tubes w + cD s.disk w + cL s.wheel w + cJ s.thr w
def bT (t : Thr) : Nat := if t.why = 0 ∨ t.why = 9 then 0 else 1
def bO : Option Thr → Nat
  | none => 0
  | some t => bT t
def rO : Option Thr → Nat
  | none => 0
  | some t => if t.why = 0 then 1 else 0
def blkS (s : Spc) (w : Int) : Nat := bO (s.at w)
def rdy (s : Spc) (w : Int) : Nat := rO (s.at w)
def W64 (x : Int) : Prop := 0 ≤ x ∧ x ≤ 18446744073709551615
structure GOk (p : Prg) (g : Gates) : Prop where
  m : g.mtx.length = p.mutexes.toNat
  c : g.cnd.length = p.conds.toNat
  s : g.sem.length = p.sems.length
  sc : ∀ x ∈ g.sem, 0 ≤ x.count ∧ x.count ≤ 1048576
  cm : ∀ r ∈ g.cnd, ∀ w ∈ r, 0 ≤ w.mutex ∧ w.mutex < (g.mtx.length : Int)
structure TOk (u : Tub) : Prop where
  r : u.room ≤ 8
  l : u.words.length ≤ 8
  w : ∀ x ∈ u.words, W64 x
  p : ∀ x ∈ u.puts, W64 x.x
structure DkOk (d : Dsk) : Prop where
  l : d.blocks.length ≤ 64
  b : ∀ x ∈ d.blocks, W64 x
  w : ∀ r ∈ d.wait, 0 ≤ r.block ∧ r.block < (d.blocks.length : Int) ∧ W64 r.x
structure HOk (o : Bool × Int) (n : Nat) (t : Thr) : Prop where
  h : t.handle = slotH o.2 n
  R : ThrR t
  pc : 0 ≤ t.pc ∧ t.pc ≤ 257
  d : t.detached = true → t.joiner = -1
  f : t.why = 9 → t.joiner = -1
/-- A program that may be, of words. -/
def PrgOk (p : Prg) : Prop := checkI p = 0 ∧ ∀ f ∈ p.funcs, ∀ i ∈ f, W64 i.n
structure Ok (k : Nat) (s : Spc) (p q : List Int) : Prop where
  chk : PrgOk s.prg
  lt : s.thr.length = 16
  ll : s.table.length = 16
  tk : ∀ o ∈ s.table, 0 ≤ o.2 ∧ o.2 ≤ (k : Int)
  us : ∀ n : Nat, n < 16 → ((s.table.getD n (false, 0)).1 = true ↔ ∃ t, s.thr[n]? = some (some t))
  th : ∀ (n : Nat) (t : Thr), s.thr[n]? = some (some t) → HOk (s.table.getD n (false, 0)) n t
  me : s.mem.length = s.prg.words.toNat ∧ ∀ x ∈ s.mem, W64 x
  gt : GOk s.prg s.gates
  tb : s.tubes.length = s.prg.pipes.length ∧ ∀ u ∈ s.tubes, TOk u
  dk : DkOk s.disk
  wl : 0 ≤ s.wheel.now ∧ s.wheel.now ≤ 1099511627776
  bal : ∀ w, cnt s w + p.count w = blkS s w + q.count w

/-! who is at a place -/
theorem at_nat {s : Spc} {n : Nat} : s.at (n : Int) = (s.thr[n]?).getD none := by
  unfold Spc.at geti; rw [if_neg (by omega), Int.toNat_natCast]
theorem at_neg {s : Spc} {w : Int} (h : w < 0) : s.at w = none := by unfold Spc.at geti; rw [if_pos h]; rfl
theorem at_set {s : Spc} {n : Nat} {o : Option Thr} (hn : n < s.thr.length) (w : Int) : ({ s with thr := s.thr.set n o } : Spc).at w = if w = (n : Int) then o else s.at w := by
  by_cases h0 : w < 0
  · rw [at_neg h0, at_neg h0, if_neg (by omega)]
  · obtain ⟨m, rfl⟩ : ∃ m : Nat, w = (m : Int) := ⟨w.toNat, by omega⟩
    rw [at_nat, at_nat]
    simp only
    by_cases e : m = n
    · subst e; rw [List.getElem?_set_self hn, if_pos rfl]; rfl
    · rw [List.getElem?_set_ne (fun h => e h.symm), if_neg (by omega)]
theorem at_of {s : Spc} {n : Nat} {t : Thr} (h : s.thr[n]? = some (some t)) : s.at (n : Int) = some t := by rw [at_nat, h]; rfl
theorem of_at {s : Spc} {w : Int} {t : Thr} (h : s.at w = some t) : 0 ≤ w ∧ s.thr[w.toNat]? = some (some t) := by
  by_cases h0 : w < 0
  · rw [at_neg h0] at h; cases h
  · obtain ⟨m, rfl⟩ : ∃ m : Nat, w = (m : Int) := ⟨w.toNat, by omega⟩
    rw [at_nat] at h
    refine ⟨by omega, ?_⟩
    rw [Int.toNat_natCast]
    cases e : s.thr[m]? with
    | none => rw [e] at h; cases h
    | some o => rw [e] at h; exact congrArg some h
theorem blk_pos {s : Spc} {w : Int} (h : 0 < blkS s w) : ∃ t, s.at w = some t ∧ t.why ≠ 0 ∧ t.why ≠ 9 := by
  unfold blkS bO at h
  cases e : s.at w with
  | none => rw [e] at h; exact absurd h (by simp)
  | some t =>
    rw [e] at h; simp only [bT] at h
    split at h
    · exact absurd h (by simp)
    · exact ⟨t, rfl, by omega, by omega⟩
theorem blk_le {s : Spc} {w : Int} : blkS s w ≤ 1 := by
  unfold blkS bO
  split
  · omega
  · unfold bT; split <;> omega
theorem bT_run {t : Thr} (h : t.why = 0) : bT t = 0 := by unfold bT; rw [if_pos (.inl h)]
theorem bT_blk {t : Thr} (h : t.why ≠ 0) (h9 : t.why ≠ 9) : bT t = 1 := by unfold bT; rw [if_neg (by omega)]

/-! steps that keep a space in order -/
section
variable {k : Nat} {s : Spc} {p q : List Int}
theorem Ok.recs (h : Ok k s p q) (l : List Rec) : Ok k { s with recs := l } p q := ⟨h.chk, h.lt, h.ll, h.tk, h.us, h.th, h.me, h.gt, h.tb, h.dk, h.wl, h.bal⟩
theorem Ok.bal' (h : Ok k s p q) {p' q' : List Int} (e : ∀ w, p'.count w + q.count w = p.count w + q'.count w) : Ok k s p' q' := ⟨h.chk, h.lt, h.ll, h.tk, h.us, h.th, h.me, h.gt, h.tb, h.dk, h.wl, fun w => by have := h.bal w; have := e w; omega⟩
theorem Ok.more (h : Ok k s p q) {k' : Nat} (hk : k ≤ k') : Ok k' s p q := ⟨h.chk, h.lt, h.ll, fun o ho => by have := h.tk o ho; omega, h.us, h.th, h.me, h.gt, h.tb, h.dk, h.wl, h.bal⟩
theorem Ok.mem (h : Ok k s p q) {m : List Int} (hl : m.length = s.mem.length) (hw : ∀ x ∈ m, W64 x) : Ok k { s with mem := m } p q := ⟨h.chk, h.lt, h.ll, h.tk, h.us, h.th, ⟨hl.trans h.me.1, hw⟩, h.gt, h.tb, h.dk, h.wl, h.bal⟩
theorem Ok.gates (h : Ok k s p q) {g : Gates} (hg : GOk s.prg g) {p' q' : List Int} (e : ∀ w, cG g w + p'.count w + q.count w = cG s.gates w + p.count w + q'.count w) : Ok k { s with gates := g } p' q' :=
  ⟨h.chk, h.lt, h.ll, h.tk, h.us, h.th, h.me, hg, h.tb, h.dk, h.wl, fun w => by
    have h1 := h.bal w; have h2 := e w
    have h3 : blkS { s with gates := g } w = blkS s w := rfl
    rw [h3]; unfold cnt at h1 ⊢; simp only; omega⟩
theorem Ok.tubes (h : Ok k s p q) {l : List Tub} (hl : l.length = s.tubes.length) (hu : ∀ u ∈ l, TOk u) {p' q' : List Int} (e : ∀ w, cT l w + p'.count w + q.count w = cT s.tubes w + p.count w + q'.count w) : Ok k { s with tubes := l } p' q' :=
  ⟨h.chk, h.lt, h.ll, h.tk, h.us, h.th, h.me, h.gt, ⟨hl.trans h.tb.1, hu⟩, h.dk, h.wl, fun w => by
    have h1 := h.bal w; have h2 := e w
    have h3 : blkS { s with tubes := l } w = blkS s w := rfl
    rw [h3]; unfold cnt at h1 ⊢; simp only; omega⟩
theorem Ok.disk (h : Ok k s p q) {d : Dsk} (hd : DkOk d) {p' q' : List Int} (e : ∀ w, cD d w + p'.count w + q.count w = cD s.disk w + p.count w + q'.count w) : Ok k { s with disk := d } p' q' :=
  ⟨h.chk, h.lt, h.ll, h.tk, h.us, h.th, h.me, h.gt, h.tb, hd, h.wl, fun w => by
    have h1 := h.bal w; have h2 := e w
    have h3 : blkS { s with disk := d } w = blkS s w := rfl
    rw [h3]; unfold cnt at h1 ⊢; simp only; omega⟩
theorem Ok.wheel (h : Ok k s p q) {u : Whl} (hu : 0 ≤ u.now ∧ u.now ≤ 1099511627776) {p' q' : List Int} (e : ∀ w, cL u w + p'.count w + q.count w = cL s.wheel w + p.count w + q'.count w) : Ok k { s with wheel := u } p' q' :=
  ⟨h.chk, h.lt, h.ll, h.tk, h.us, h.th, h.me, h.gt, h.tb, h.dk, hu, fun w => by
    have h1 := h.bal w; have h2 := e w
    have h3 : blkS { s with wheel := u } w = blkS s w := rfl
    rw [h3]; unfold cnt at h1 ⊢; simp only; omega⟩
theorem Ok.setT (h : Ok k s p q) {n : Nat} {t t' : Thr} (ht : s.thr[n]? = some (some t)) (hh : HOk (s.table.getD n (false, 0)) n t') {p' q' : List Int}
    (e : ∀ w, jn w (some t') + (if w = (n : Int) then bT t else 0) + p'.count w + q.count w = jn w (some t) + (if w = (n : Int) then bT t' else 0) + p.count w + q'.count w) : Ok k (s.setT n t') p' q' := by
  have hn : n < s.thr.length := (List.getElem?_eq_some_iff.1 ht).1
  refine ⟨h.chk, ?_, h.ll, h.tk, fun m hm => ?_, fun m u hu => ?_, h.me, h.gt, h.tb, h.dk, h.wl, fun w => ?_⟩
  · show (s.thr.set n _).length = 16; rw [List.length_set]; exact h.lt
  · refine (h.us m hm).trans ?_
    show (∃ t, s.thr[m]? = _) ↔ ∃ t, (s.thr.set n (some t'))[m]? = _
    by_cases e : n = m
    · subst e; rw [List.getElem?_set_self hn]; exact ⟨fun _ => ⟨_, rfl⟩, fun _ => ⟨_, ht⟩⟩
    · rw [List.getElem?_set_ne e]
  · have hu : (s.thr.set n (some t'))[m]? = some (some u) := hu
    by_cases e : n = m
    · subst e; rw [List.getElem?_set_self hn] at hu; cases hu; exact hh
    · rw [List.getElem?_set_ne e] at hu; exact h.th m u hu
  · have h1 := h.bal w; have h2 := e w
    have h3 : cJ (s.setT n t').thr w + jn w (some t) = cJ s.thr w + jn w (some t') := sumN_set (f := jn w) (some t') ht
    have h4 : blkS (s.setT n t') w + (if w = (n : Int) then bT t else 0) = blkS s w + (if w = (n : Int) then bT t' else 0) := by
      unfold blkS
      rw [show (s.setT n t').at w = _ from at_set hn w]
      by_cases e : w = (n : Int)
      · subst e; simp only [if_pos]; rw [at_of ht]; simp only [bO]; omega
      · simp only [if_neg e]
    have h5 : cnt (s.setT n t') w = cG s.gates w + cT s.tubes w + cD s.disk w + cL s.wheel w + cJ (s.setT n t').thr w := rfl
    rw [h5]; unfold cnt at h1; omega
end
end Go.SLYtpcjdohmjmeehaaGreat
namespace Go.SLYtpcjdohmjmeehaaGreat
open Go Go.RowKit

section
variable {k : Nat} {s : Spc} {p q : List Int}
theorem find_own {l : List (Bool × Int)} {n : Nat} (hn : n < 16) (hl : l.length = 16) (h1 : (l.getD n (false, 0)).1 = true) (h0 : 0 ≤ (l.getD n (false, 0)).2) : slotFind l (slotH (l.getD n (false, 0)).2 n) = some n := by
  unfold slotFind
  have e : slotH (l.getD n (false, 0)).2 n % 65536 = (n : Int) + 1 := by unfold slotH; omega
  rw [e, if_neg (by omega), show ((n : Int) + 1 - 1).toNat = n from by omega]
  have hx := getD_some (d := (false, (0 : Int))) (show n < l.length by omega)
  rw [hx]
  simp only
  rw [if_pos (by simp only [and_true]; exact h1)]
theorem Ok.freed (h : Ok k s p q) {n : Nat} {t : Thr} (ht : s.thr[n]? = some (some t)) : s.free n = { s with table := s.table.set n (false, (s.table.getD n (false, 0)).2), thr := s.thr.set n none } := by
  have hn : n < 16 := h.lt ▸ (List.getElem?_eq_some_iff.1 ht).1
  have hx := getD_some (d := (false, (0 : Int))) (show n < s.table.length by rw [h.ll]; exact hn)
  have h0 := h.tk _ (List.mem_of_getElem? hx)
  unfold Spc.free
  rw [spc_t ht, (h.th n t ht).h, freed_some (find_own hn h.ll ((h.us n hn).2 ⟨t, ht⟩) h0.1)]
  rfl
theorem Ok.free (h : Ok k s p q) {n : Nat} {t : Thr} (ht : s.thr[n]? = some (some t)) {p' q' : List Int}
    (e : ∀ w, (if w = (n : Int) then bT t else 0) + p'.count w + q.count w = jn w (some t) + p.count w + q'.count w) : Ok k (s.free n) p' q' := by
  have hn : n < s.thr.length := (List.getElem?_eq_some_iff.1 ht).1
  have hn16 : n < 16 := h.lt ▸ hn
  have hlt : n < s.table.length := by rw [h.ll]; exact hn16
  have hx := getD_some (d := (false, (0 : Int))) hlt
  rw [h.freed ht]
  refine ⟨h.chk, ?_, ?_, fun o ho => ?_, fun m hm => ?_, fun m u hu => ?_, h.me, h.gt, h.tb, h.dk, h.wl, fun w => ?_⟩
  · show (s.thr.set n _).length = 16; rw [List.length_set]; exact h.lt
  · show (s.table.set n _).length = 16; rw [List.length_set]; exact h.ll
  · rcases List.mem_or_eq_of_mem_set ho with ho | rfl
    · exact h.tk o ho
    · show 0 ≤ (s.table.getD n (false, 0)).2 ∧ _
      exact h.tk _ (List.mem_of_getElem? hx)
  · show ((s.table.set n _).getD m (false, 0)).1 = true ↔ ∃ t, (s.thr.set n none)[m]? = _
    by_cases e : n = m
    · subst e
      rw [List.getElem?_set_self hn, List.getD_eq_getElem?_getD, List.getElem?_set_self hlt]
      exact ⟨fun h => (by cases h), fun ⟨t, h⟩ => (by cases h)⟩
    · rw [List.getElem?_set_ne e, List.getD_eq_getElem?_getD, List.getElem?_set_ne e, ← List.getD_eq_getElem?_getD]
      exact h.us m hm
  · have hu : (s.thr.set n none)[m]? = some (some u) := hu
    by_cases e : n = m
    · subst e; rw [List.getElem?_set_self hn] at hu; cases hu
    · rw [List.getElem?_set_ne e] at hu
      show HOk ((s.table.set n _).getD m (false, 0)) m u
      rw [List.getD_eq_getElem?_getD, List.getElem?_set_ne e, ← List.getD_eq_getElem?_getD]
      exact h.th m u hu
  · have h1 := h.bal w; have h2 := e w
    have h3 : cJ (s.thr.set n none) w + jn w (some t) = cJ s.thr w + 0 := sumN_set (f := jn w) none ht
    have h4 : blkS { s with thr := s.thr.set n none } w + (if w = (n : Int) then bT t else 0) = blkS s w := by
      unfold blkS
      rw [at_set hn w]
      by_cases e : w = (n : Int)
      · subst e; simp only [if_pos]; rw [at_of ht]; simp only [bO]; omega
      · simp only [if_neg e]; omega
    have h5 : blkS { s with table := s.table.set n (false, (s.table.getD n (false, 0)).2), thr := s.thr.set n none } w = blkS { s with thr := s.thr.set n none } w := rfl
    rw [h5]
    unfold cnt at h1 ⊢
    simp only
    omega
theorem Ok.begin (h : Ok k s p q) (hk : k ≤ 1000000) {f arg : Int} (ha : W64 arg) : Ok (k + 1) (s.begin f arg).2.2 p q := by
  cases hf : slotFree? s.table 0 with
  | none => rw [begin_no hf]; exact h.more (Nat.le_succ _)
  | some n =>
    have hfr : ∀ (l : List (Bool × Int)) (i n : Nat), slotFree? l i = some n → i ≤ n ∧ ∃ o, l[n - i]? = some o ∧ o.1 = false := by
      intro l
      induction l with
      | nil => intro i n h; cases h
      | cons o l ih =>
        intro i n h
        unfold slotFree? at h
        split at h
        · obtain ⟨a, o', b, c⟩ := ih (i + 1) n h
          exact ⟨by omega, o', by rw [show n - i = (n - (i + 1)) + 1 from by omega]; simpa using b, c⟩
        · cases h; rename_i hb
          exact ⟨Nat.le_refl _, o, by simp, by simpa using hb⟩
    obtain ⟨-, o, ho, ho1⟩ := hfr _ _ _ hf
    rw [Nat.sub_zero] at ho
    have hlt : n < s.table.length := (List.getElem?_eq_some_iff.1 ho).1
    have hn16 : n < 16 := h.ll ▸ hlt
    have hn : n < s.thr.length := by rw [h.lt]; exact hn16
    have hgd : s.table.getD n (false, 0) = o := by rw [List.getD_eq_getElem?_getD, ho]; rfl
    have hno : s.thr[n]? = some none := by
      obtain ⟨x, hx⟩ := at_some hn
      cases x with
      | none => exact hx
      | some t => have := (h.us n hn16).2 ⟨t, hx⟩; rw [hgd, ho1] at this; cases this
    have htk := h.tk o (List.mem_of_getElem? ho)
    rw [begin_ok hf, hgd]
    refine ⟨h.chk, ?_, ?_, fun o' ho' => ?_, fun m hm => ?_, fun m u hu => ?_, h.me, h.gt, h.tb, h.dk, h.wl, fun w => ?_⟩
    · show (s.thr.set n _).length = 16; rw [List.length_set]; exact h.lt
    · show (s.table.set n _).length = 16; rw [List.length_set]; exact h.ll
    · rcases List.mem_or_eq_of_mem_set ho' with ho' | rfl
      · have := h.tk o' ho'; omega
      · show 0 ≤ o.2 + 1 ∧ o.2 + 1 ≤ ((k + 1 : Nat) : Int); omega
    · show ((s.table.set n _).getD m (false, 0)).1 = true ↔ ∃ t, (s.thr.set n _)[m]? = _
      by_cases e : n = m
      · subst e
        rw [List.getElem?_set_self hn, List.getD_eq_getElem?_getD, List.getElem?_set_self hlt]
        exact ⟨fun _ => ⟨_, rfl⟩, fun _ => rfl⟩
      · rw [List.getElem?_set_ne e, List.getD_eq_getElem?_getD, List.getElem?_set_ne e, ← List.getD_eq_getElem?_getD]
        exact h.us m hm
    · have hu : (s.thr.set n _)[m]? = some (some u) := hu
      by_cases e : n = m
      · subst e; rw [List.getElem?_set_self hn] at hu; cases hu
        show HOk ((s.table.set n _).getD n (false, 0)) n _
        rw [List.getD_eq_getElem?_getD, List.getElem?_set_self hlt]
        refine ⟨rfl, ⟨rfl, fun m => ?_, by show (-1 : Int) ≤ -1 ∧ (-1 : Int) < 8; decide, by show (0 : Int) ≤ 0 ∧ (0 : Int) ≤ _; decide, ?_⟩, by show (0 : Int) ≤ 0 ∧ (0 : Int) ≤ 257; decide, fun h => (by cases h), fun h => rfl⟩
        · have h0 : (0 : Int) ≤ 0 ∧ (0 : Int) ≤ 18446744073709551615 := by decide
          show 0 ≤ ([arg, 0, 0, 0, 0, 0, 0, 0] : List Int).getD m 0 ∧ _
          match m with
          | 0 => exact ha
          | 1 => exact h0
          | 2 => exact h0
          | 3 => exact h0
          | 4 => exact h0
          | 5 => exact h0
          | 6 => exact h0
          | 7 => exact h0
          | m + 8 => exact h0
        · show 0 ≤ slotH (o.2 + 1) n ∧ slotH (o.2 + 1) n ≤ _; unfold slotH; omega
      · rw [List.getElem?_set_ne e] at hu
        show HOk ((s.table.set n _).getD m (false, 0)) m u
        rw [List.getD_eq_getElem?_getD, List.getElem?_set_ne e, ← List.getD_eq_getElem?_getD]
        exact h.th m u hu
    · have h1 := h.bal w
      have h3 : cJ (s.thr.set n (some (thr0 f arg (slotH (o.2 + 1) n)))) w + 0 = cJ s.thr w + jn w (some (thr0 f arg (slotH (o.2 + 1) n))) := sumN_set (f := jn w) _ hno
      have hj : jn w (some (thr0 f arg (slotH (o.2 + 1) n))) = 0 := by unfold jn; exact if_neg (by rintro ⟨a, b⟩; exact b a.symm)
      have h4 : blkS { s with thr := s.thr.set n (some (thr0 f arg (slotH (o.2 + 1) n))) } w = blkS s w := by
        unfold blkS
        rw [at_set hn w]
        by_cases e : w = (n : Int)
        · subst e; simp only [if_pos]; rw [at_nat, hno]; rfl
        · simp only [if_neg e]
      have h5 : blkS { s with table := s.table.set n (true, o.2 + 1), thr := s.thr.set n (some (thr0 f arg (slotH (o.2 + 1) n))) } w = blkS { s with thr := s.thr.set n (some (thr0 f arg (slotH (o.2 + 1) n))) } w := rfl
      rw [h5]
      unfold cnt at h1 ⊢
      simp only
      omega
end
end Go.SLYtpcjdohmjmeehaaGreat
namespace Go.SLYtpcjdohmjmeehaaGreat
open Go Go.RowKit

/-- From s0 on the way of an instruction: in order but for who has gone (p) and come (q); who may run. -/
structure GoI (k : Nat) (s0 : Spc) (d : Dng) (p q : List Int) : Prop where
  ok : Ok k d.s p q
  rd : ∀ w, rdy d.s w + (if (d.out.stopped = true ∨ d.out.ended = true) ∧ w = (d.n : Int) then 1 else 0) = rdy s0 w + d.out.woken.count w
section
variable {k : Nat} {s0 : Spc} {d : Dng} {p q : List Int} {t : Thr}
theorem jn_some {w : Int} {t : Thr} : jn w (some t) = if t.joiner = w ∧ ¬ w = -1 then 1 else 0 := rfl
theorem rO_some {t : Thr} : rO (some t) = if t.why = 0 then 1 else 0 := rfl
theorem rdy_setT {s : Spc} {n : Nat} {t t' : Thr} (ht : s.thr[n]? = some (some t)) (w : Int) : rdy (s.setT n t') w = if w = (n : Int) then rO (some t') else rdy s w := by
  unfold rdy
  rw [show (s.setT n t').at w = _ from at_set (List.getElem?_eq_some_iff.1 ht).1 w]
  split <;> rfl
theorem rdy_of {s : Spc} {n : Nat} {t : Thr} (ht : s.thr[n]? = some (some t)) : rdy s (n : Int) = rO (some t) := by unfold rdy; rw [at_of ht]
theorem GoI.bal (h : GoI k s0 d p q) {p' q' : List Int} (e : ∀ w, p'.count w + q.count w = p.count w + q'.count w) : GoI k s0 d p' q' := ⟨h.ok.bal' e, h.rd⟩
theorem GoI.tell (h : GoI k s0 d p q) {x y e : Int} {f : Bool} : GoI k s0 (d.tell x y e f) p q := ⟨h.ok.recs _, h.rd⟩
theorem GoI.own (h : GoI k s0 d p q) (ht : d.s.thr[d.n]? = some (some t)) {t' : Thr} (hR : ThrR t') (hpc : 0 ≤ t'.pc ∧ t'.pc ≤ 257) (e1 : t'.handle = t.handle) (e2 : t'.why = t.why) (e3 : t'.joiner = t.joiner) (e4 : t'.detached = t.detached) : GoI k s0 (d.setT t') p q := by
  have ho := h.ok.th d.n t ht
  refine ⟨h.ok.setT ht ⟨e1.trans ho.h, hR, hpc, fun a => by rw [e3]; exact ho.d (by rw [← e4]; exact a), fun a => by rw [e3]; exact ho.f (by rw [← e2]; exact a)⟩ (fun w => ?_), fun w => ?_⟩
  · have hjj : jn w (some t') = jn w (some t) := by rw [jn_some, jn_some, e3]
    have hbb : bT t' = bT t := by unfold bT; rw [e2]
    rw [hjj, hbb]
  · have := h.rd w
    have hr : rdy (d.setT t').s w = rdy d.s w := by
      show rdy (d.s.setT d.n t') w = _
      rw [rdy_setT ht]
      split
      · rename_i e; rw [e, rdy_of ht, rO_some, rO_some, e2]
      · rfl
    rw [hr]; exact this
theorem GoI.pass (h : GoI k s0 d p q) (ht : d.s.thr[d.n]? = some (some t)) {x y e : Int} (he : 0 ≤ e ∧ e ≤ 11) : GoI k s0 (d.pass x y e) p q := by
  have ho := h.ok.th d.n t ht
  unfold Dng.pass
  rw [dng_t ht]
  exact GoI.own (d := d.tell x y e true) h.tell ht (ho.R.put (by omega)) ho.pc rfl rfl rfl rfl
theorem GoI.block (h : GoI k s0 d p ((d.n : Int) :: q)) (ht : d.s.thr[d.n]? = some (some t)) (hw : t.why = 0) (hs : d.out.stopped = false) (hd : d.out.ended = false) {a i x y : Int} (ha : a ≠ 0 ∧ a ≠ 9) (hi : -1 ≤ i ∧ i < 8) : GoI k s0 (d.block a i x y) p q := by
  have ho := h.ok.th d.n t ht
  have hT := GoI.tell (x := x) (y := y) (e := 0) (f := false) h
  have ht2 : (d.tell x y 0 false).s.thr[d.n]? = some (some t) := ht
  unfold Dng.block
  rw [dng_t ht]
  refine ⟨hT.ok.setT ht2 (t' := { t with why := a, op := d.i.op, into := i }) ⟨ho.h, ho.R.with hi, ho.pc, ho.d, fun e => absurd e ha.2⟩ (fun w => ?_), fun w => ?_⟩
  · have e1 : bT t = 0 := bT_run hw
    have e2 : bT { t with why := a, op := d.i.op, into := i } = 1 := bT_blk ha.1 ha.2
    have e3 : jn w (some { t with why := a, op := d.i.op, into := i }) = jn w (some t) := rfl
    rw [e1, e2, e3, List.count_cons]
    simp only [beq_iff_eq]
    by_cases e : w = (d.n : Int)
    · rw [if_pos e, if_pos e, if_pos e.symm]; omega
    · rw [if_neg e, if_neg e, if_neg (fun h => e h.symm)]; omega
  · have h1 := h.rd w
    rw [if_neg (by rw [hs, hd]; simp)] at h1
    show rdy ((d.tell x y 0 false).s.setT d.n { t with why := a, op := d.i.op, into := i }) w + (if (true = true ∨ d.out.ended = true) ∧ w = (d.n : Int) then 1 else 0) = rdy s0 w + d.out.woken.count w
    rw [rdy_setT ht2]
    by_cases e : w = (d.n : Int)
    · rw [if_pos e, if_pos ⟨.inl rfl, e⟩]
      rw [e, rdy_of ht] at h1
      have : rO (some t) = 1 := by rw [rO_some, if_pos hw]
      have : rO (some { t with why := a, op := d.i.op, into := i }) = 0 := by rw [rO_some]; exact if_neg ha.1
      rw [e]; omega
    · rw [if_neg e, if_neg (fun h => e h.2)]
      exact h1
theorem wakes_joiner {u : Thr} {y : Int} : (u.wakes y).joiner = u.joiner := by show (if u.into = -1 then u else u.put u.into y).joiner = _; split <;> rfl
theorem Ok.wake {s : Spc} (h : Ok k s p q) {w0 : Int} {u : Thr} (hu : s.at w0 = some u) (hu0 : u.why ≠ 0) (hu9 : u.why ≠ 9) {y : Int} (hy : W64 y) : Ok k (s.wake w0.toNat y) p (w0 :: q) := by
  obtain ⟨h0, hat⟩ := of_at hu
  have ho := h.th _ u hat
  have hc : ((w0.toNat : Nat) : Int) = w0 := by omega
  unfold Spc.wake
  rw [spc_t hat]
  refine h.setT hat ⟨?_, ho.R.wakes hy, ?_, ?_, ?_⟩ (fun w => ?_)
  · rw [← ho.h]; show (if u.into = -1 then u else u.put u.into y).handle = _; split <;> rfl
  · show 0 ≤ (if u.into = -1 then u else u.put u.into y).pc ∧ (if u.into = -1 then u else u.put u.into y).pc ≤ 257; split <;> exact ho.pc
  · intro e
    rw [wakes_joiner]; refine ho.d ?_
    rw [← e]; show _ = (if u.into = -1 then u else u.put u.into y).detached; split <;> rfl
  · intro e; exact absurd (show (0 : Int) = 9 from e) (by decide)
  · have e1 : bT u = 1 := bT_blk hu0 hu9
    have e2 : bT (u.wakes y) = 0 := bT_run rfl
    have e3 : jn w (some (u.wakes y)) = jn w (some u) := by rw [jn_some, jn_some, wakes_joiner]
    rw [e1, e2, e3, List.count_cons, hc]
    simp only [beq_iff_eq]
    by_cases e : w = w0
    · rw [if_pos e, if_pos e, if_pos e.symm]; omega
    · rw [if_neg e, if_neg e, if_neg (fun h => e h.symm)]; omega
theorem rdy_wake {s : Spc} {w0 : Int} {u : Thr} (hu : s.at w0 = some u) {y : Int} (w : Int) : rdy (s.wake w0.toNat y) w = if w = w0 then 1 else rdy s w := by
  obtain ⟨h0, hat⟩ := of_at hu
  unfold Spc.wake
  rw [spc_t hat, rdy_setT hat, show ((w0.toNat : Nat) : Int) = w0 from by omega]
  rfl
theorem GoI.goesB (h : GoI k s0 d p q) {w0 : Int} {u : Thr} (hu : d.s.at w0 = some u) (hu0 : u.why ≠ 0) (hu9 : u.why ≠ 9) {y : Int} (hy : W64 y) : GoI k s0 (d.goes w0.toNat y) p (w0 :: q) := by
  refine ⟨h.ok.wake hu hu0 hu9 hy, fun w => ?_⟩
  have h1 := h.rd w
  have h0 := (of_at hu).1
  show rdy (d.s.wake w0.toNat y) w + (if (d.out.stopped = true ∨ d.out.ended = true) ∧ w = (d.n : Int) then 1 else 0) = rdy s0 w + (d.out.woken ++ [((w0.toNat : Nat) : Int)]).count w
  rw [rdy_wake hu, List.count_append, List.count_singleton, show ((w0.toNat : Nat) : Int) = w0 from by omega]
  simp only [beq_iff_eq]
  have hr : rdy d.s w0 = 0 := by unfold rdy; rw [hu, rO_some]; exact if_neg hu0
  generalize (if (d.out.stopped = true ∨ d.out.ended = true) ∧ w = (d.n : Int) then 1 else 0) = B at h1 ⊢
  by_cases e : w = w0
  · rw [if_pos e, if_pos e.symm]
    rw [e] at h1 ⊢
    omega
  · rw [if_neg e, if_neg (fun h => e h.symm)]; omega
theorem GoI.goes (h : GoI k s0 d p q) {w0 : Int} (hpq : q.count w0 < p.count w0) {y : Int} (hy : W64 y) : GoI k s0 (d.goes w0.toNat y) p (w0 :: q) := by
  have hb := h.ok.bal w0
  obtain ⟨u, hu, hu0, hu9⟩ := blk_pos (show 0 < blkS d.s w0 by omega)
  exact h.goesB hu hu0 hu9 hy
theorem GoI.withG (h : GoI k s0 d p q) {g : Gates} (hg : GOk d.s.prg g) {p' q' : List Int} (e : ∀ w, cG g w + p'.count w + q.count w = cG d.s.gates w + p.count w + q'.count w) : GoI k s0 (d.withG g) p' q' := ⟨h.ok.gates hg e, h.rd⟩
theorem GoI.withU (h : GoI k s0 d p q) {i : Nat} {u v : Tub} (hi : d.s.tubes[i]? = some u) (hv : TOk v) {p' q' : List Int} (e : ∀ w, cU w v + p'.count w + q.count w = cU w u + p.count w + q'.count w) : GoI k s0 (d.withU i v) p' q' := by
  refine ⟨h.ok.tubes (by rw [List.length_set]) (fun x hx => ?_) (fun w => ?_), h.rd⟩
  · rcases List.mem_or_eq_of_mem_set hx with hx | rfl
    · exact h.ok.tb.2 x hx
    · exact hv
  · have h1 : cT (d.s.tubes.set i v) w + cU w u = cT d.s.tubes w + cU w v := sumN_set (f := cU w) v hi
    have := e w; omega
theorem GoI.withD (h : GoI k s0 d p q) {u : Dsk} (hu : DkOk u) {p' q' : List Int} (e : ∀ w, cD u w + p'.count w + q.count w = cD d.s.disk w + p.count w + q'.count w) : GoI k s0 (d.withD u) p' q' := ⟨h.ok.disk hu e, h.rd⟩
theorem GoI.withW (h : GoI k s0 d p q) {u : Whl} (hu : 0 ≤ u.now ∧ u.now ≤ 1099511627776) {p' q' : List Int} (e : ∀ w, cL u w + p'.count w + q.count w = cL d.s.wheel w + p.count w + q'.count w) : GoI k s0 (d.withW u) p' q' := ⟨h.ok.wheel hu e, h.rd⟩
theorem rdy_free (h : Ok k d.s p q) {n : Nat} (ht : d.s.thr[n]? = some (some t)) (w : Int) : rdy (d.s.free n) w = if w = (n : Int) then 0 else rdy d.s w := by
  rw [h.freed ht]
  unfold rdy
  rw [show ({ d.s with table := d.s.table.set n (false, (d.s.table.getD n (false, 0)).2), thr := d.s.thr.set n none } : Spc).at w = ({ d.s with thr := d.s.thr.set n none } : Spc).at w from rfl, at_set (List.getElem?_eq_some_iff.1 ht).1 w]
  split <;> rfl
/-- One that is over, or never was anybody's to wait for, is let go. -/
theorem GoI.free (h : GoI k s0 d p q) {m : Nat} (ht : d.s.thr[m]? = some (some t)) (h9 : t.why = 9) : GoI k s0 (d.free m) p q := by
  have ho := h.ok.th m t ht
  refine ⟨h.ok.free ht (fun w => ?_), fun w => ?_⟩
  · have e1 : bT t = 0 := by unfold bT; rw [if_pos (.inr h9)]
    have e2 : jn w (some t) = 0 := by rw [jn_some, ho.f h9]; exact if_neg (by rintro ⟨a, b⟩; exact b a.symm)
    rw [e1, e2]; split <;> omega
  · have h1 := h.rd w
    show rdy (d.s.free m) w + _ = _
    rw [rdy_free h.ok ht]
    by_cases e : w = (m : Int)
    · have h2 : rdy d.s w = 0 := by rw [e, rdy_of ht, rO_some]; exact if_neg (by omega)
      rw [if_pos e]; rw [h2] at h1; exact h1
    · rw [if_neg e]; exact h1
theorem GoI.fin (h : GoI k s0 d [] []) (ht : d.s.thr[d.n]? = some (some t)) (hw : t.why = 0) (hs : d.out.stopped = false) (hd : d.out.ended = false) {v : Int} (hv : W64 v) : GoI k s0 (d.fin v) [] [] := by
  have ho := h.ok.th d.n t ht
  have hr0 : rO (some t) = 1 := by rw [rO_some]; exact if_pos hw
  have hbt : bT t = 0 := bT_run hw
  have h1 := h.rd
  have hend : ∀ w, (if (d.ended.out.stopped = true ∨ d.ended.out.ended = true) ∧ w = (d.ended.n : Int) then 1 else 0) = if w = (d.n : Int) then 1 else 0 := fun w => by
    by_cases e : w = (d.n : Int)
    · rw [if_pos (show (d.ended.out.stopped = true ∨ d.ended.out.ended = true) ∧ w = (d.ended.n : Int) from ⟨.inr rfl, e⟩), if_pos e]
    · rw [if_neg (show ¬ ((d.ended.out.stopped = true ∨ d.ended.out.ended = true) ∧ w = (d.ended.n : Int)) from fun h => e h.2), if_neg e]
  have hrd : ∀ w, rdy d.s w = rdy s0 w + d.out.woken.count w := fun w => by
    have := h1 w; rw [if_neg (by rw [hs, hd]; simp)] at this; exact this
  cases hdt : t.detached with
  | true =>
    rw [fin_det ht hdt]
    refine ⟨h.ok.free ht (fun w => ?_), fun w => ?_⟩
    · have e2 : jn w (some t) = 0 := by rw [jn_some, ho.d hdt]; exact if_neg (by rintro ⟨a, b⟩; exact b a.symm)
      rw [hbt, e2]; split <;> omega
    · show rdy (d.s.free d.n) w + (if (d.ended.out.stopped = true ∨ d.ended.out.ended = true) ∧ w = (d.ended.n : Int) then 1 else 0) = rdy s0 w + d.out.woken.count w
      rw [hend, rdy_free h.ok ht, ← hrd]
      by_cases e : w = (d.n : Int)
      · rw [if_pos e, if_pos e, e, rdy_of ht, hr0]
      · rw [if_neg e, if_neg e]; rfl
  | false =>
    by_cases hj : t.joiner = -1
    · rw [fin_none ht hdt hj]
      refine ⟨h.ok.setT (s := d.s) (t' := { t with why := 9, value := v }) ht ⟨ho.h, ⟨ho.R.l, ho.R.r, ho.R.i, hv, ho.R.h⟩, ho.pc, ho.d, fun _ => hj⟩ (fun w => ?_), fun w => ?_⟩
      · have e1 : bT { t with why := 9, value := v } = 0 := by unfold bT; exact if_pos (.inr rfl)
        have e3 : jn w (some { t with why := 9, value := v }) = jn w (some t) := rfl
        rw [hbt, e1, e3]
      · show rdy (d.s.setT d.n { t with why := 9, value := v }) w + (if (d.ended.out.stopped = true ∨ d.ended.out.ended = true) ∧ w = (d.ended.n : Int) then 1 else 0) = rdy s0 w + d.out.woken.count w
        rw [hend, rdy_setT ht, ← hrd]
        by_cases e : w = (d.n : Int)
        · rw [if_pos e, if_pos e, e, rdy_of ht, hr0, rO_some, if_neg (by show (9 : Int) ≠ 0; decide)]
        · rw [if_neg e, if_neg e]; rfl
    · rw [fin_join ht hdt hj]
      -- who joined goes on: it is counted by this thread's own word
      have hcj : 1 ≤ cnt d.s t.joiner := by
        have : jn t.joiner (some t) = 1 := by rw [jn_some]; exact if_pos ⟨rfl, hj⟩
        have h2 : jn t.joiner (some t) ≤ cJ d.s.thr t.joiner := sumN_ge (f := jn t.joiner) (List.mem_of_getElem? ht)
        unfold cnt; omega
      have hb := h.ok.bal t.joiner
      obtain ⟨u, hu, hu0, hu9⟩ := blk_pos (s := d.s) (w := t.joiner) (by simp at hb; omega)
      obtain ⟨h0, hat⟩ := of_at hu
      have hne : t.joiner.toNat ≠ d.n := fun e => by rw [e, ht] at hat; cases hat; exact hu0 hw
      have hc : ((t.joiner.toNat : Nat) : Int) = t.joiner := by omega
      have hk := h.ok.wake hu hu0 hu9 hv
      have ht2 : (d.s.wake t.joiner.toNat v).thr[d.n]? = some (some t) := by
        unfold Spc.wake; exact setT_thr ht hne
      refine ⟨hk.free (n := d.n) ht2 (fun w => ?_), fun w => ?_⟩
      · rw [hbt, jn_some, List.count_cons]
        simp only [beq_iff_eq, List.count_nil]
        by_cases e : t.joiner = w
        · rw [if_pos (show t.joiner = w ∧ ¬ w = -1 from ⟨e, by rw [← e]; exact hj⟩), if_pos e]; split <;> omega
        · rw [if_neg (show ¬ (t.joiner = w ∧ ¬ w = -1) from fun h => e h.1), if_neg e]; split <;> omega
      · show rdy ((d.s.wake t.joiner.toNat v).free d.n) w + (if (d.ended.out.stopped = true ∨ d.ended.out.ended = true) ∧ w = (d.ended.n : Int) then 1 else 0) = rdy s0 w + (d.out.woken ++ [((t.joiner.toNat : Nat) : Int)]).count w
        rw [hend, rdy_free (d := { d with s := d.s.wake t.joiner.toNat v }) hk ht2, hc, List.count_append, List.count_singleton]
        simp only [beq_iff_eq]
        rw [rdy_wake hu]
        have h2 := hrd w
        by_cases e : w = (d.n : Int)
        · rw [if_pos e, if_pos e, if_neg (show ¬ t.joiner = w by rw [e]; omega)]
          rw [e, rdy_of ht, hr0] at h2
          rw [e]; omega
        · rw [if_neg e, if_neg e]
          by_cases e2 : w = t.joiner
          · rw [if_pos e2, if_pos e2.symm]
            have : rdy d.s w = 0 := by rw [e2]; unfold rdy; rw [hu, rO_some]; exact if_neg hu0
            omega
          · rw [if_neg e2, if_neg (fun h => e2 h.symm)]; omega
end
end Go.SLYtpcjdohmjmeehaaGreat
namespace Go.SLYtpcjdohmjmeehaaGreat
open Go Go.RowKit

theorem w64_W {n : Int} : W64 (w64 n) := by unfold w64 W64; omega
theorem none_W : W64 fNone := by unfold fNone W64; decide
theorem clean_W {n : Int} (h : W64 n) : W64 (fClean n) := by unfold fClean; split; exact none_W; exact h
theorem out_W {o : Option Nat} (h : ∀ r, o = some r → r < 18446744073709551616) : W64 (fOut o) := by
  cases o with
  | none => exact none_W
  | some r => have := h r rfl; exact clean_W ⟨by omega, by omega⟩
theorem ite_W {c : Prop} [Decidable c] {a b : Int} (h1 : W64 a) (h2 : W64 b) : W64 (if c then a else b) := by split; exact h1; exact h2
theorem yes_W {b : Bool} : W64 (yesI b) := by unfold yesI; exact ite_W ⟨by decide, by decide⟩ ⟨by decide, by decide⟩
theorem pick_W {neg : Bool} {win : Ordering} {x y : Nat} (hx : x < 18446744073709551616) (hy : y < 18446744073709551616) : W64 ((archPick neg win x y : Nat) : Int) := by
  have h1 : Go.FloatKind.f64.encode (.infinity neg) < 18446744073709551616 := by cases neg <;> decide +kernel
  unfold archPick
  simp only
  unfold W64
  repeat' split
  all_goals omega
theorem arith_W {op a b : Int} (ha : W64 a) (hb : W64 b) : W64 (arithI op a b) := by
  have hx : a.toNat < 18446744073709551616 := by have := ha.1; have := ha.2; omega
  have hy : b.toNat < 18446744073709551616 := by have := hb.1; have := hb.2; omega
  have h0 : W64 0 := ⟨by decide, by decide⟩
  have hmin : W64 (fMinW a b) := by unfold fMinW; exact ite_W none_W (clean_W (pick_W hx hy))
  have hmax : W64 (fMaxW a b) := by unfold fMaxW; exact ite_W none_W (clean_W (pick_W hx hy))
  have hti : W64 (fToInt a) := by unfold fToInt; exact ite_W h0 (ite_W ⟨by decide, by decide⟩ (ite_W ⟨by decide, by decide⟩ w64_W))
  have htf : W64 (fToFloat a) := by
    unfold fToFloat
    refine clean_W ⟨by omega, ?_⟩
    have : Go.FloatKind.f64.nearest (Go.IntKind.i64.wrap a) < 18446744073709551616 := (Ieee.Format.write_lt Ieee.double (.number (decide (Go.IntKind.i64.wrap a < 0)) (Go.IntKind.i64.wrap a).natAbs 0) : _)
    omega
  unfold arithI
  refine ite_W ha (ite_W w64_W (ite_W w64_W (ite_W w64_W (ite_W yes_W (ite_W (out_W fun r h => Ieee.Format.add_lt _ h) (ite_W (out_W fun r h => Ieee.Format.sub_lt _ h) (ite_W (out_W fun r h => Ieee.Format.mul_lt _ h) (ite_W (out_W fun r h => Ieee.Format.div_lt _ h) (ite_W hmin (ite_W hmax (ite_W yes_W (ite_W hti (ite_W htf h0)))))))))))))
end Go.SLYtpcjdohmjmeehaaGreat
