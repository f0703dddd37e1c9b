/- Walks of functions, and what they compute. Conditions: none, this text proves no statement. -/
import Derived.Test.YtpcjdohmjmeehaaGreatProg
import Derived.Test.YtpcjdohmjmeehaaGreatG06
import Derived.KernelRfl
import Derived.Test.YtpcjdohmjmeehaaGreatG05
import Derived.MapKept
import Derived.Laws.NewFold
namespace Go.SLYtpcjdohmjmeehaaGreat
open Go Go.RowKit Go.Proofs

theorem dng_goesI {W : World} {bd b p q : Nat} {ps : List (Option Nat)} {d : Dng} {t : Thr} {n : Int} (h0 : 0 ≤ n) (hp : ps[n.toNat]? = some (some q)) (ht : d.s.thr[n.toNat]? = some (some t)) (hn16 : n.toNat < 16) (hR : ThrR t) (he : d.ends.length ≤ 1000000) (hw : d.out.woken.length ≤ 1000000) {y : Int} : Fn Tryz.prog W 86 [ptr bd, .int .i64 n, .int .u64 y] [dngX bd b p ps d] Unit (fun _ => .tuple #[]) (fun _ => True) (fun _ => [dngX bd b p ps (d.goes n.toNat y)]) := by
  have := dng_goes (W := W) (bd := bd) (b := b) (p := p) hp ht hn16 hR he hw (y := y)
  rwa [show ((n.toNat : Nat) : Int) = n from by omega] at this

set_option maxRecDepth 20000 in
theorem dng_fin {W : World} {bd b p : Nat} {ps : List (Option Nat)} {d : Dng} {t : Thr} (hp : ps[d.n]? = some (some p)) (ht : d.s.thr[d.n]? = some (some t)) {v : Int} (hl : d.s.thr.length = 16) (hpl : ps.length = 16) (hT : TakeOk d.s.table) (hR : ThrR t) (he : d.ends.length ≤ 1000000) (hw : d.out.woken.length ≤ 1000000) (hj : ¬ t.joiner = -1 → 0 ≤ t.joiner ∧ t.joiner.toNat ≠ d.n ∧ LiveAt ps d.s t.joiner.toNat) : Fn Tryz.prog W 62 [ptr bd, .int .u64 v] [dngX bd b p ps d] (List (Option Nat)) (fun _ => .tuple #[]) (fun _ => True) (fun qs => [dngX bd b p qs (d.fin v)]) := by
  refine Fn.intro (N := 66) Tryz.func62 rfl Tryz.ntmps62 rfl fun F => ?_
  show GoC _ _ _ _ _ _ [dngX bd b p ps d, F]
  refine GoC.o2 (C := dngX bd b p ps d) .auto rfl ?_
  rintro vw ve -
  refine GoC.o10 (C := spcX b ps d.s) .auto rfl ?_
  rintro fv sv pv bt vm bg vt bk bw vr -
  refine GoC.fr .auto (thrs_out hp ht) ?_
  refine GoC.seq ?_
  refine GoC.region ?_
  refine GoL.y rfl (Y.move rfl) ?_
  refine GoL.y rfl (Y.nilCheck rfl) ?_
  refine GoL.y rfl (Y.fieldAddr0 9 36 Tryz.underlying138 rfl Tryz.sizeOf36 rfl) ?_
  refine GoL.y rfl (Y.fieldAddr 2 4 Tryz.underlying36 rfl Tryz.sizeOf4 rfl) ?_
  refine GoL.does rfl (Does.st Tryz.sizeOf4 rfl rfl rfl rfl) ?_
  rintro _ _ ⟨rfl, rfl⟩
  rw [dng_ended]
  refine GoL.nil ?_
  refine GoE.then_normal ?_
  refine GoC.block ?_
  refine GoC.seq ?_
  refine GoC.region ?_
  refine GoL.y rfl (Y.move rfl) ?_
  refine GoL.y rfl (Y.nilCheck rfl) ?_
  refine GoL.y rfl (Y.fieldAddr0 2 114 Tryz.underlying138 rfl Tryz.sizeOf114 rfl) ?_
  refine GoL.y rfl (Y.load Tryz.isAgg114 rfl (Cell.a (by rfl))) ?_
  refine GoL.y rfl (Y.nilCheck rfl) ?_
  refine GoL.y rfl (Y.fieldAddr0 13 4 Tryz.underlying133 rfl Tryz.sizeOf4 rfl) ?_
  refine GoL.y rfl (Y.load Tryz.isAgg4 rfl (Cell.a (by rfl))) ?_
  refine GoL.y rfl (Y.assign rfl) ?_
  refine GoL.nil ?_
  refine GoE.then_normal ?_
  refine GoC.cond rfl (fun h21 => ?_) (fun h21 => ?_)
  · refine GoC.to (A := thrsH ps d.s.thr) (Bs := [arr p 0 (thrC t), thrsH (ps.set d.n none) (d.s.thr.set d.n none)]) .auto (thrs_keep hp ht) ?_
    refine GoC.draw [arr bd 0 (dngC b p (d.ended) vw ve)] [1, 1, 1, 1, 1, 1, 1, 1, 3] rfl (by kernel_rfl) ?_
    refine GoK.s rfl (Y.move rfl) ?_
    refine GoK.s rfl (Y.nilCheck rfl) ?_
    refine GoK.s rfl (Y.fieldAddrZ 27 Tryz.underlying138 rfl Tryz.sizeOf27 rfl) ?_
    refine GoK.s rfl (Y.load Tryz.isAgg27 rfl (Cell.a (by rfl))) ?_
    refine GoK.s rfl (Y.move rfl) ?_
    refine GoK.s rfl (Y.nilCheck rfl) ?_
    refine GoK.s rfl (Y.fieldAddr0 1 3 Tryz.underlying138 rfl Tryz.sizeOf3 rfl) ?_
    refine GoK.s rfl (Y.load Tryz.isAgg3 rfl (Cell.a (by rfl))) ?_
    refine GoK.d3 rfl (Does.callE rfl Tryz.call85 rfl (core_free hp ht hl hpl hT hR.h.1) .auto) ?_
    rintro _ _ ⟨⟨⟩, -, rfl, rfl⟩
    refine GoK.nil ?_
    refine GoE.block_normal ?_
    rw [fin_det ht h21]
    refine GoE.end0 rfl fun w s => ⟨ps.set d.n none, ?_, trivial, finE .auto s⟩
    rfl
  · refine GoC.seq ?_
    refine GoC.region ?_
    refine GoL.y rfl (Y.move rfl) ?_
    refine GoL.y rfl (Y.nilCheck rfl) ?_
    refine GoL.y rfl (Y.fieldAddr0 2 114 Tryz.underlying138 rfl Tryz.sizeOf114 rfl) ?_
    refine GoL.y rfl (Y.load Tryz.isAgg114 rfl (Cell.a (by rfl))) ?_
    refine GoL.y rfl (Y.nilCheck rfl) ?_
    refine GoL.y rfl (Y.fieldAddr0 14 3 Tryz.underlying133 rfl Tryz.sizeOf3 rfl) ?_
    refine GoL.y rfl (Y.load Tryz.isAgg3 rfl (Cell.a (by rfl))) ?_
    refine GoL.y rfl (Y.neq rfl rfl) ?_
    refine GoL.y rfl (Y.assign rfl) ?_
    refine GoL.nil ?_
    refine GoE.then_normal ?_
    refine GoC.condD rfl (fun h38 => ?_) (fun h38 => ?_)
    · refine GoC.seq ?_
      refine GoC.region ?_
      refine GoL.y rfl (Y.move rfl) ?_
      refine GoL.y rfl (Y.move rfl) ?_
      refine GoL.y rfl (Y.nilCheck rfl) ?_
      refine GoL.y rfl (Y.fieldAddr0 2 114 Tryz.underlying138 rfl Tryz.sizeOf114 rfl) ?_
      refine GoL.y rfl (Y.load Tryz.isAgg114 rfl (Cell.a (by rfl))) ?_
      refine GoL.y rfl (Y.nilCheck rfl) ?_
      refine GoL.y rfl (Y.fieldAddr0 14 3 Tryz.underlying133 rfl Tryz.sizeOf3 rfl) ?_
      refine GoL.y rfl (Y.load Tryz.isAgg3 rfl (Cell.a (by rfl))) ?_
      refine GoL.y rfl (Y.move rfl) ?_
      obtain ⟨hj0, hjn, hj16, q, tj, hq, htj, hRj⟩ := hj h38
      refine GoL.to (A := thrsH ps d.s.thr) (Bs := [arr p 0 (thrC t), thrsH (ps.set d.n none) (d.s.thr.set d.n none)]) .auto (thrs_keep hp ht) ?_
      refine GoL.does rfl (Does.callE rfl Tryz.call86 rfl (dng_goesI (d := d.ended) hj0 hq htj hj16 hRj he hw) .auto) ?_
      rintro _ _ ⟨⟨⟩, -, rfl, rfl⟩
      refine GoL.o2 (C := dngX bd b p ps (d.ended.goes t.joiner.toNat v)) .auto rfl ?_
      rintro vw ve -
      have ht2 : (d.ended.goes t.joiner.toNat v).s.thr[d.n]? = some (some t) := goes_thr ht hjn
      refine GoL.nil ?_
      refine GoE.then_normal ?_
      refine GoC.draw [arr bd 0 (dngC b p (d.ended.goes t.joiner.toNat v) vw ve)] [1, 1, 1, 1, 1, 1, 1, 1, 3] rfl (by kernel_rfl) ?_
      refine GoK.s rfl (Y.move rfl) ?_
      refine GoK.s rfl (Y.nilCheck rfl) ?_
      refine GoK.s rfl (Y.fieldAddrZ 27 Tryz.underlying138 rfl Tryz.sizeOf27 rfl) ?_
      refine GoK.s rfl (Y.load Tryz.isAgg27 rfl (Cell.a (by rfl))) ?_
      refine GoK.s rfl (Y.move rfl) ?_
      refine GoK.s rfl (Y.nilCheck rfl) ?_
      refine GoK.s rfl (Y.fieldAddr0 1 3 Tryz.underlying138 rfl Tryz.sizeOf3 rfl) ?_
      refine GoK.s rfl (Y.load Tryz.isAgg3 rfl (Cell.a (by rfl))) ?_
      refine GoK.d3 rfl (Does.callE rfl Tryz.call85 rfl (core_free (s := (d.ended.goes t.joiner.toNat v).s) hp ht2 (by simp [Dng.goes, Spc.wake, Spc.setT, Dng.ended, hl]) hpl hT hR.h.1) .auto) ?_
      rintro _ _ ⟨⟨⟩, -, rfl, rfl⟩
      refine GoK.nil ?_
      refine GoE.block_normal ?_
      rw [fin_join ht h21 h38]
      refine GoE.end0 rfl fun w s => ⟨ps.set d.n none, ?_, trivial, finE .auto s⟩
      rfl
    · have h38 : t.joiner = -1 := Decidable.byContradiction h38
      refine GoC.draw [arr bd 0 (dngC b p (d.ended) vw ve)] [1, 1, 1, 1, 1, 1, 1, 1, 0, 1, 1, 2, 1, 1, 3] rfl (by kernel_rfl) ?_
      refine GoK.s rfl (Y.move rfl) ?_
      refine GoK.s rfl (Y.nilCheck rfl) ?_
      refine GoK.s rfl (Y.fieldAddr0 2 114 Tryz.underlying138 rfl Tryz.sizeOf114 rfl) ?_
      refine GoK.s rfl (Y.load Tryz.isAgg114 rfl (Cell.a (by rfl))) ?_
      refine GoK.s rfl (Y.move rfl) ?_
      refine GoK.s rfl (Y.nilCheck rfl) ?_
      refine GoK.s rfl (Y.fieldAddr0 2 114 Tryz.underlying138 rfl Tryz.sizeOf114 rfl) ?_
      refine GoK.s rfl (Y.load Tryz.isAgg114 rfl (Cell.a (by rfl))) ?_
      refine GoK.k rfl Kept.auto (Y.move rfl) ?_
      refine GoK.s rfl (Y.nilCheck rfl) ?_
      refine GoK.s rfl (Y.fieldAddr0 11 3 Tryz.underlying133 rfl Tryz.sizeOf3 rfl) ?_
      refine GoK.d2 rfl Kept.auto (Does.st Tryz.sizeOf3 rfl rfl rfl rfl) (by rintro _ _ ⟨rfl, rfl⟩; exact Kept.auto) ?_
      rintro _ _ ⟨rfl, rfl⟩
      rw [thr_why]
      refine GoK.s rfl (Y.nilCheck rfl) ?_
      refine GoK.s rfl (Y.fieldAddr0 12 43 Tryz.underlying133 rfl Tryz.sizeOf43 rfl) ?_
      refine GoK.d3 rfl (Does.st Tryz.sizeOf43 rfl rfl rfl rfl) ?_
      rintro _ _ ⟨rfl, rfl⟩
      rw [thr_value]
      refine GoK.nil ?_
      refine GoE.block_normal ?_
      rw [fin_none ht h21 h38]
      refine GoE.to (A := thrsH ps (d.s.thr.set d.n (some ({ t with why := 9, value := v })))) (Bs := [arr p 0 (thrC ({ t with why := 9, value := v })), thrsH (ps.set d.n none) (d.s.thr.set d.n none)]) .auto (thrs_shut (List.getElem?_eq_some_iff.1 ht).1 hp) ?_
      refine GoE.end0 rfl fun w s => ⟨ps, ?_, trivial, finE .auto s⟩
      rfl

set_option maxRecDepth 20000 in
theorem dng_given {W : World} {bd b p : Nat} {ps : List (Option Nat)} {d : Dng} {n : Int} {ok : Bool} (hg : ok = true → 0 ≤ n ∧ LiveAt ps d.s n.toNat) (he : d.ends.length ≤ 1000000) (hw : d.out.woken.length ≤ 1000000) : Fn Tryz.prog W 124 [ptr bd, .int .i64 n, .bool ok] [dngX bd b p ps d] Unit (fun _ => .tuple #[]) (fun _ => True) (fun _ => [dngX bd b p ps (d.given n ok)]) := by
  refine Fn.intro (N := 10) Tryz.func124 rfl Tryz.ntmps124 rfl fun F => ?_
  show GoC _ _ _ _ _ _ [dngX bd b p ps d, F]
  refine GoC.seq ?_
  refine GoC.region ?_
  refine GoL.y rfl (Y.move rfl) ?_
  refine GoL.nil ?_
  refine GoE.then_normal ?_
  refine GoC.cond rfl (fun h6 => ?_) (fun h6 => ?_)
  · refine GoC.region ?_
    obtain ⟨h0, hn16, q, t, hq, ht, hR⟩ := hg h6
    refine GoL.y rfl (Y.move rfl) ?_
    refine GoL.y rfl (Y.move rfl) ?_
    refine GoL.does rfl (Does.callE rfl Tryz.call86 rfl (dng_goesI h0 hq ht hn16 hR he hw) .auto) ?_
    rintro _ _ ⟨⟨⟩, -, rfl, rfl⟩
    refine GoL.nil ?_
    rw [show d.given n ok = d.goes n.toNat 0 from by unfold Dng.given; rw [if_pos h6]]
    refine GoE.end0 rfl fun w s => ⟨(), ?_, trivial, finE .auto s⟩
    rfl
  · refine GoC.skip ?_
    rw [show d.given n ok = d from by unfold Dng.given; rw [if_neg (by rw [h6]; simp)]]
    refine GoE.end0 rfl fun w s => ⟨(), ?_, trivial, finE .auto s⟩
    rfl

set_option maxRecDepth 20000 in
theorem dng_plain {W : World} {bd b p : Nat} {ps : List (Option Nat)} {d : Dng} {t : Thr} (hp : ps[d.n]? = some (some p)) (ht : d.s.thr[d.n]? = some (some t)) (hI : InsOk d.i) (hF : FrmOk t.frm) (hc : cls d.i.op = 1) (hm : d.s.mem.length ≤ 1000000) (hr : d.s.recs.length ≤ 100000000) (hl : d.s.thr.length = 16) (hpl : ps.length = 16) (hT : TakeOk d.s.table) (hR : ThrR t) (he : d.ends.length ≤ 1000000) (hw : d.out.woken.length ≤ 1000000) (hj : ¬ t.joiner = -1 → 0 ≤ t.joiner ∧ t.joiner.toNat ≠ d.n ∧ LiveAt ps d.s t.joiner.toNat) : Fn Tryz.prog W 64 [ptr bd] [dngX bd b p ps d] (List (Option Nat)) (fun _ => .tuple #[]) (fun _ => True) (fun qs => [dngX bd b p qs d.plain]) := by
  refine Fn.intro (N := 124) Tryz.func64 rfl Tryz.ntmps64 rfl fun F => ?_
  show GoC _ _ _ _ _ _ [dngX bd b p ps d, F]
  refine GoC.o2 (C := dngX bd b p ps d) .auto rfl ?_
  rintro vw ve -
  refine GoC.o10 (C := spcX b ps d.s) .auto rfl ?_
  rintro fv sv pv bt vm bg vt bk bw vr -
  refine GoC.fr .auto (thrs_out hp ht) ?_
  have hIa := hI.a
  have hIb := hI.b
  have hb : d.b = t.regs.getD d.i.b.toNat 0 := by unfold Dng.b; rw [dng_t ht]; rfl
  have ha : d.a = t.regs.getD d.i.a.toNat 0 := by unfold Dng.a; rw [dng_t ht]; rfl
  have hbr := hR.r d.i.b.toNat
  refine GoC.seq ?_
  refine GoC.draw [] [1, 1, 1, 1, 1, 1, 1, 1, 1, 1, 1, 1, 1, 1, 1, 1, 1, 1, 1, 1, 1, 1, 1, 1, 1, 1, 1, 1, 1, 1] rfl (by kernel_rfl) ?_
  refine GoK.s rfl (Y.move rfl) ?_
  refine GoK.s rfl (Y.nilCheck rfl) ?_
  refine GoK.s rfl (Y.fieldAddr0 2 114 Tryz.underlying138 rfl Tryz.sizeOf114 rfl) ?_
  refine GoK.s rfl (Y.load Tryz.isAgg114 rfl (Cell.a (by rfl))) ?_
  refine GoK.s rfl (Y.move rfl) ?_
  refine GoK.s rfl (Y.nilCheck rfl) ?_
  refine GoK.s rfl (Y.fieldAddr0 3 123 Tryz.underlying138 rfl Tryz.sizeOf123 rfl) ?_
  refine GoK.s rfl (Y.fieldAddr 1 3 Tryz.underlying123 rfl Tryz.sizeOf3 rfl) ?_
  refine GoK.s rfl (Y.load Tryz.isAgg3 rfl (Cell.a (by rfl))) ?_
  refine GoK.s rfl (Y.nilCheck rfl) ?_
  refine GoK.s rfl (Y.fieldAddrZ 131 Tryz.underlying133 rfl Tryz.sizeOf131 rfl) ?_
  refine GoK.s rfl (Y.fieldAddr0 2 57 Tryz.underlying131 rfl Tryz.sizeOf57 rfl) ?_
  refine GoK.s rfl (Y.ixArr d.i.a.toNat Tryz.underlying57 Tryz.sizeOf43 rfl rfl (by omega) (by omega)) ?_
  refine GoK.s rfl (Y.load Tryz.isAgg43 rfl (Cell.a (thr_get (by omega)))) ?_
  refine GoK.s rfl (Y.move rfl) ?_
  refine GoK.s rfl (Y.nilCheck rfl) ?_
  refine GoK.s rfl (Y.fieldAddr0 2 114 Tryz.underlying138 rfl Tryz.sizeOf114 rfl) ?_
  refine GoK.s rfl (Y.load Tryz.isAgg114 rfl (Cell.a (by rfl))) ?_
  refine GoK.s rfl (Y.move rfl) ?_
  refine GoK.s rfl (Y.nilCheck rfl) ?_
  refine GoK.s rfl (Y.fieldAddr0 3 123 Tryz.underlying138 rfl Tryz.sizeOf123 rfl) ?_
  refine GoK.s rfl (Y.fieldAddr 2 3 Tryz.underlying123 rfl Tryz.sizeOf3 rfl) ?_
  refine GoK.s rfl (Y.load Tryz.isAgg3 rfl (Cell.a (by rfl))) ?_
  refine GoK.s rfl (Y.nilCheck rfl) ?_
  refine GoK.s rfl (Y.fieldAddrZ 131 Tryz.underlying133 rfl Tryz.sizeOf131 rfl) ?_
  refine GoK.s rfl (Y.fieldAddr0 2 57 Tryz.underlying131 rfl Tryz.sizeOf57 rfl) ?_
  refine GoK.s rfl (Y.ixArr d.i.b.toNat Tryz.underlying57 Tryz.sizeOf43 rfl rfl (by omega) (by omega)) ?_
  refine GoK.s rfl (Y.load Tryz.isAgg43 rfl (Cell.a (thr_get (by omega)))) ?_
  refine GoK.s rfl (Y.assign rfl) ?_
  refine GoK.s rfl (Y.assign rfl) ?_
  refine GoK.nil ?_
  refine GoE.then_normal ?_
  refine GoC.seq ?_
  refine GoC.drawF [arr bd 0 (dngC b p d vw ve), arr b 0 (spcC fv sv pv d.s.prg bt ps vm bg vt bk bw vr), arr p 0 (thrC t), sl wrdE 1 vm d.s.mem] [0, 0, 0, 0, 0, 0, 0, 0, 0, 0, 0, 0, 0, 0, 0, 0, 0, 0, 2, 0, 0, 0, 0, 4, 2, 0, 0] [0, 1, 2, 3, 4, 5, 6, 7, 8, 9, 10, 11, 12, 13, 14, 15, 16, 17, 18, 19, 20, 21, 22, 23, 24, 25, 26] rfl (by kernel_rfl) ?_
  refine GoF.q rfl rfl rfl Kept.auto (Y.move rfl) ?_
  refine GoF.q rfl rfl rfl Kept.auto (Y.nilCheck rfl) ?_
  refine GoF.q rfl rfl rfl Kept.auto (Y.fieldAddr0 2 114 Tryz.underlying138 rfl Tryz.sizeOf114 rfl) ?_
  refine GoF.q rfl rfl rfl Kept.auto (Y.load Tryz.isAgg114 rfl (Cell.a (by rfl))) ?_
  refine GoF.q rfl rfl rfl Kept.auto (Y.nilCheck rfl) ?_
  refine GoF.q rfl rfl rfl Kept.auto (Y.fieldAddrZ 131 Tryz.underlying133 rfl Tryz.sizeOf131 rfl) ?_
  refine GoF.q rfl rfl rfl Kept.auto (Y.lda Tryz.isAgg131 rfl (Cells.part0 (ds := frmE t.frm) (Cells.a (cs := thrC t)) rfl) (by exact Tryz.sizeOf131)) ?_
  refine GoF.q rfl rfl rfl Kept.auto (Y.move rfl) ?_
  refine GoF.q rfl rfl rfl Kept.auto (Y.nilCheck rfl) ?_
  refine GoF.q rfl rfl rfl Kept.auto (Y.fieldAddr0 3 123 Tryz.underlying138 rfl Tryz.sizeOf123 rfl) ?_
  refine GoF.q rfl rfl rfl Kept.auto (Y.lda Tryz.isAgg123 rfl (Cells.part0 (ds := insE d.i) (Cells.a (cs := dngC b p d vw ve)) rfl) (by exact Tryz.sizeOf123)) ?_
  refine GoF.q rfl rfl rfl Kept.auto (Y.move rfl) ?_
  refine GoF.q rfl rfl rfl Kept.auto (Y.nilCheck rfl) ?_
  refine GoF.q rfl rfl rfl Kept.auto (Y.fieldAddrZ 27 Tryz.underlying138 rfl Tryz.sizeOf27 rfl) ?_
  refine GoF.q rfl rfl rfl Kept.auto (Y.load Tryz.isAgg27 rfl (Cell.a (by rfl))) ?_
  refine GoF.q rfl rfl rfl Kept.auto (Y.nilCheck rfl) ?_
  refine GoF.q rfl rfl rfl Kept.auto (Y.fieldAddr0 25 51 Tryz.underlying118 rfl Tryz.sizeOf51 rfl) ?_
  refine GoF.q rfl rfl rfl Kept.auto (Y.load Tryz.isAgg51 rfl (Cell.a (by rfl))) ?_
  refine GoF.callE rfl (.inl rfl) rfl (fun _ => Kept.auto) Tryz.call87 rfl (frame_Plain (A := sl wrdE 1 vm d.s.mem) Rd.s hm hI hF hc) .auto (fun _ _ => Kept.auto) ?_
  rintro u5 -
  refine GoF.q rfl rfl rfl Kept.auto (Y.move rfl) ?_
  refine GoF.q rfl rfl rfl Kept.auto (Y.extract (v := .agg (frmE (plainR t.frm d.s.mem d.i).1).toArray) rfl rfl) ?_
  refine GoF.q rfl rfl rfl Kept.auto (Y.extract (v := u5) rfl rfl) ?_
  refine GoF.q rfl rfl rfl Kept.auto (Y.extract (v := .int .i64 (plainR t.frm d.s.mem d.i).2.2) rfl rfl) ?_
  refine GoF.fresh rfl rfl rfl (by decide) Kept.auto (fresh_alloc Tryz.zeroValue131 rfl) ?_
  rintro b4
  refine GoF.sta2 rfl rfl (by exact Tryz.sizeOf131) rfl rfl rfl (by rfl) Kept.auto Kept.auto ?_
  refine GoF.q rfl rfl rfl Kept.auto (Y.assign rfl) ?_
  refine GoF.q rfl rfl rfl Kept.auto (Y.assign rfl) ?_
  refine GoF.nil ?_
  refine GoE.then_normal ?_
  refine GoC.seq ?_
  refine GoC.block ?_
  refine GoC.seq ?_
  refine GoC.region ?_
  refine GoL.y rfl (Y.move rfl) ?_
  refine GoL.y rfl (Y.nilCheck rfl) ?_
  refine GoL.y rfl (Y.fieldAddr0 3 123 Tryz.underlying138 rfl Tryz.sizeOf123 rfl) ?_
  refine GoL.y rfl (Y.fieldAddrZ 3 Tryz.underlying123 rfl Tryz.sizeOf3 rfl) ?_
  refine GoL.y rfl (Y.load Tryz.isAgg3 rfl (Cell.a (by rfl))) ?_
  refine GoL.y rfl (Y.eql rfl rfl) ?_
  refine GoL.y rfl (Y.move rfl) ?_
  apply GoL.segAD 3 68 65 [65, 66, 67, 68] rfl
  · intro h65
    refine GoL.yg rfl rfl rfl (Y.move rfl) ?_
    refine GoL.yg rfl rfl rfl (Y.eql rfl rfl) ?_
    refine GoL.y rfl (Y.pickT rfl rfl) ?_
    refine GoL.nil ?_
    refine GoE.seg .auto rfl (by first | exact fun _ h => h | exact Ent.kept .auto)
  · intro h65
    refine GoL.skip rfl rfl rfl rfl ?_
    refine GoL.skip rfl rfl rfl rfl ?_
    refine GoL.y rfl (Y.pickF rfl rfl) ?_
    refine GoL.nil ?_
    refine GoE.seg .auto rfl (by first | exact fun _ h => h | exact Ent.kept .auto)
  refine GoL.y rfl (Y.assign rfl) ?_
  refine GoL.nil ?_
  refine GoE.then_normal ?_
  refine GoC.cond rfl (fun h58 => ?_) (fun h58 => ?_)
  · simp only [Bool.and_eq_true, Bool.or_eq_true, Bool.and_eq_false_iff, Bool.or_eq_false_iff, decide_eq_true_eq, decide_eq_false_iff_not, Bool.not_eq_true', Bool.not_eq_false'] at h58
    obtain ⟨h1, h0⟩ := h58
    obtain ⟨z, hz⟩ := plain_zero h0
    rw [plain_some hz]
    have hlt : t.regs.getD d.i.b.toNat 0 < d.s.mem.length := doI_load hz h1
    refine GoC.region ?_
    refine GoL.y rfl (Y.move rfl) ?_
    refine GoL.y rfl (Y.move rfl) ?_
    refine GoL.y rfl (Y.move rfl) ?_
    refine GoL.y rfl (Y.nilCheck rfl) ?_
    refine GoL.y rfl (Y.fieldAddrZ 27 Tryz.underlying138 rfl Tryz.sizeOf27 rfl) ?_
    refine GoL.y rfl (Y.load Tryz.isAgg27 rfl (Cell.a (by rfl))) ?_
    refine GoL.y rfl (Y.nilCheck rfl) ?_
    refine GoL.y rfl (Y.fieldAddr0 25 51 Tryz.underlying118 rfl Tryz.sizeOf51 rfl) ?_
    refine GoL.y rfl (Y.load Tryz.isAgg51 rfl (Cell.a (by rfl))) ?_
    refine GoL.y rfl (Y.move rfl) ?_
    refine GoL.y rfl (Y.ixRd (t.regs.getD d.i.b.toNat 0).toNat Tryz.underlying51 Tryz.sizeOf43 rfl rfl Rd.s (by omega) (by omega)) ?_
    refine GoL.y rfl (Y.load Tryz.isAgg43 rfl (Cell.rd0 Rd.s (getD_some (d := (0 : Int)) (show (t.regs.getD d.i.b.toNat 0).toNat < d.s.mem.length by omega)) (by rfl))) ?_
    refine GoL.to (A := thrsH ps d.s.thr) (Bs := [arr p 0 (thrC t), thrsH (ps.set d.n none) (d.s.thr.set d.n none)]) .auto (thrs_keep hp ht) ?_
    refine GoL.y rfl (Y.move rfl) ?_
    refine GoL.does rfl (Does.callE rfl Tryz.call61 rfl (dng_tell hp ht hr) .auto) ?_
    rintro _ _ ⟨⟨⟩, -, rfl, rfl⟩
    refine GoL.nil ?_
    refine GoE.block_normal (GoE.then_normal ?_)
    refine GoC.seq ?_
    refine GoC.seq ?_
    refine GoC.region ?_
    refine GoL.y rfl (Y.move rfl) ?_
    refine GoL.y rfl (Y.neq rfl rfl) ?_
    refine GoL.nil ?_
    refine GoE.then_normal ?_
    refine GoC.condF rfl ?_
    refine GoC.skip ?_
    refine GoE.then_normal ?_
    refine GoC.o2 (C := dngX bd b p ps (d.tell (t.regs.getD d.i.b.toNat 0) (d.s.mem.getD (t.regs.getD d.i.b.toNat 0).toNat 0) 0 true)) .auto rfl ?_
    rintro vw ve -
    refine GoC.o10 (C := spcX b ps (d.tell (t.regs.getD d.i.b.toNat 0) (d.s.mem.getD (t.regs.getD d.i.b.toNat 0).toNat 0) 0 true).s) .auto rfl ?_
    rintro fv sv pv bt vm bg vt bk bw vr -
    refine GoC.fr .auto (thrs_out hp (show (d.tell (t.regs.getD d.i.b.toNat 0) (d.s.mem.getD (t.regs.getD d.i.b.toNat 0).toNat 0) 0 true).s.thr[(d.tell (t.regs.getD d.i.b.toNat 0) (d.s.mem.getD (t.regs.getD d.i.b.toNat 0).toNat 0) 0 true).n]? = some (some t) from ht)) ?_
    refine GoC.draw [arr bd 0 (dngC b p (d.tell (t.regs.getD d.i.b.toNat 0) (d.s.mem.getD (t.regs.getD d.i.b.toNat 0).toNat 0) 0 true) vw ve), arr b4 0 (frmE z.1)] [1, 1, 1, 1, 1, 1, 1, 1, 1, 0, 1, 1, 2, 1, 1, 3] rfl (by kernel_rfl) ?_
    refine GoK.s rfl (Y.move rfl) ?_
    refine GoK.s rfl (Y.nilCheck rfl) ?_
    refine GoK.s rfl (Y.fieldAddr0 2 114 Tryz.underlying138 rfl Tryz.sizeOf114 rfl) ?_
    refine GoK.s rfl (Y.load Tryz.isAgg114 rfl (Cell.a (by rfl))) ?_
    refine GoK.s rfl (Y.move rfl) ?_
    refine GoK.s rfl (Y.nilCheck rfl) ?_
    refine GoK.s rfl (Y.fieldAddrZ 27 Tryz.underlying138 rfl Tryz.sizeOf27 rfl) ?_
    refine GoK.s rfl (Y.load Tryz.isAgg27 rfl (Cell.a (by rfl))) ?_
    refine GoK.s rfl (Y.lda Tryz.isAgg131 rfl Cells.a (by exact Tryz.sizeOf131)) ?_
    refine GoK.k rfl Kept.auto (Y.move rfl) ?_
    refine GoK.s rfl (Y.nilCheck rfl) ?_
    refine GoK.s rfl (Y.fieldAddrZ 131 Tryz.underlying133 rfl Tryz.sizeOf131 rfl) ?_
    refine GoK.d2 rfl Kept.auto (Does.stp (vs := frmE z.1) (by exact Tryz.sizeOf131) rfl rfl rfl rfl) (by rintro _ _ ⟨rfl, rfl⟩; exact Kept.auto) ?_
    rintro _ _ ⟨rfl, rfl⟩
    rw [thr_setF]
    refine GoK.s rfl (Y.nilCheck rfl) ?_
    refine GoK.s rfl (Y.fieldAddr0 25 51 Tryz.underlying118 rfl Tryz.sizeOf51 rfl) ?_
    refine GoK.d3 rfl (Does.stS Tryz.sizeOf51 rfl rfl rfl) ?_
    rintro _ _ ⟨rfl, rfl⟩
    rw [spc_mem]
    refine GoK.nil ?_
    refine GoE.to (A := thrsH ps ((d.tell (t.regs.getD d.i.b.toNat 0) (d.s.mem.getD (t.regs.getD d.i.b.toNat 0).toNat 0) 0 true).s.thr.set (d.tell (t.regs.getD d.i.b.toNat 0) (d.s.mem.getD (t.regs.getD d.i.b.toNat 0).toNat 0) 0 true).n (some (t.setF z.1)))) (Bs := [arr p 0 (thrC (t.setF z.1)), thrsH (ps.set (d.tell (t.regs.getD d.i.b.toNat 0) (d.s.mem.getD (t.regs.getD d.i.b.toNat 0).toNat 0) 0 true).n none) ((d.tell (t.regs.getD d.i.b.toNat 0) (d.s.mem.getD (t.regs.getD d.i.b.toNat 0).toNat 0) 0 true).s.thr.set (d.tell (t.regs.getD d.i.b.toNat 0) (d.s.mem.getD (t.regs.getD d.i.b.toNat 0).toNat 0) 0 true).n none)]) .auto (thrs_shut (List.getElem?_eq_some_iff.1 ht).1 hp) ?_
    rw [dplain_some ht hz, show d.told = d.tell (t.regs.getD d.i.b.toNat 0) (d.s.mem.getD (t.regs.getD d.i.b.toNat 0).toNat 0) 0 true from by unfold Dng.told; rw [if_pos h1, hb]]
    refine GoE.end0 rfl fun w s => ⟨ps, ?_, trivial, finE .auto s⟩
    rfl
  · simp only [Bool.and_eq_true, Bool.or_eq_true, Bool.and_eq_false_iff, Bool.or_eq_false_iff, decide_eq_true_eq, decide_eq_false_iff_not, Bool.not_eq_true', Bool.not_eq_false'] at h58
    refine GoC.seq ?_
    refine GoC.region ?_
    refine GoL.y rfl (Y.move rfl) ?_
    refine GoL.y rfl (Y.nilCheck rfl) ?_
    refine GoL.y rfl (Y.fieldAddr0 3 123 Tryz.underlying138 rfl Tryz.sizeOf123 rfl) ?_
    refine GoL.y rfl (Y.fieldAddrZ 3 Tryz.underlying123 rfl Tryz.sizeOf3 rfl) ?_
    refine GoL.y rfl (Y.load Tryz.isAgg3 rfl (Cell.a (by rfl))) ?_
    refine GoL.y rfl (Y.eql rfl rfl) ?_
    refine GoL.y rfl (Y.assign rfl) ?_
    refine GoL.nil ?_
    refine GoE.then_normal ?_
    refine GoC.condD rfl (fun h83 => ?_) (fun h83 => ?_)
    · have hz := plain_six (h58.resolve_left (fun h => h h83))
      rw [plain_none hz]
      refine GoC.region ?_
      refine GoL.to (A := thrsH ps d.s.thr) (Bs := [arr p 0 (thrC t), thrsH (ps.set d.n none) (d.s.thr.set d.n none)]) .auto (thrs_keep hp ht) ?_
      refine GoL.y rfl (Y.move rfl) ?_
      refine GoL.y rfl (Y.move rfl) ?_
      refine GoL.y rfl (Y.move rfl) ?_
      refine GoL.does rfl (Does.callE rfl Tryz.call61 rfl (dng_tell hp ht hr) .auto) ?_
      rintro _ _ ⟨⟨⟩, -, rfl, rfl⟩
      refine GoL.nil ?_
      refine GoE.block_normal (GoE.then_normal ?_)
      refine GoC.seq ?_
      refine GoC.seq ?_
      refine GoC.region ?_
      refine GoL.y rfl (Y.move rfl) ?_
      refine GoL.y rfl (Y.neq rfl rfl) ?_
      refine GoL.nil ?_
      refine GoE.then_normal ?_
      refine GoC.condT rfl ?_
      refine GoC.seq ?_
      refine GoC.region ?_
      refine GoL.y rfl (Y.move rfl) ?_
      refine GoL.does rfl (Does.callE rfl Tryz.call62 rfl (dng_fin (d := (d.tell (t.regs.getD d.i.b.toNat 0) 0 6 true)) hp ht hl hpl hT hR he hw hj) .auto) ?_
      rintro _ _ ⟨qs, -, rfl, rfl⟩
      refine GoL.nil ?_
      refine GoE.then_normal ?_
      refine GoC.ret ?_
      refine GoE.then_ret ?_
      rw [dplain_none ht hz, if_pos h83, hb]
      refine GoE.ret0 rfl fun w s => ⟨qs, ?_, trivial, finE .auto s⟩
      rfl
    · refine GoC.seq ?_
      refine GoC.region ?_
      refine GoL.y rfl (Y.move rfl) ?_
      refine GoL.y rfl (Y.nilCheck rfl) ?_
      refine GoL.y rfl (Y.fieldAddr0 3 123 Tryz.underlying138 rfl Tryz.sizeOf123 rfl) ?_
      refine GoL.y rfl (Y.fieldAddrZ 3 Tryz.underlying123 rfl Tryz.sizeOf3 rfl) ?_
      refine GoL.y rfl (Y.load Tryz.isAgg3 rfl (Cell.a (by rfl))) ?_
      refine GoL.y rfl (Y.eql rfl rfl) ?_
      refine GoL.y rfl (Y.assign rfl) ?_
      refine GoL.nil ?_
      refine GoE.then_normal ?_
      refine GoC.condD rfl (fun h94 => ?_) (fun h94 => ?_)
      · refine GoC.region ?_
        refine GoL.to (A := thrsH ps d.s.thr) (Bs := [arr p 0 (thrC t), thrsH (ps.set d.n none) (d.s.thr.set d.n none)]) .auto (thrs_keep hp ht) ?_
        refine GoL.y rfl (Y.move rfl) ?_
        refine GoL.y rfl (Y.move rfl) ?_
        refine GoL.y rfl (Y.move rfl) ?_
        refine GoL.y rfl (Y.move rfl) ?_
        refine GoL.does rfl (Does.callE rfl Tryz.call61 rfl (dng_tell hp ht hr) .auto) ?_
        rintro _ _ ⟨⟨⟩, -, rfl, rfl⟩
        refine GoL.nil ?_
        refine GoE.block_normal (GoE.then_normal ?_)
        refine GoC.seq ?_
        refine GoC.seq ?_
        refine GoC.region ?_
        refine GoL.y rfl (Y.move rfl) ?_
        refine GoL.y rfl (Y.neq rfl rfl) ?_
        refine GoL.nil ?_
        refine GoE.then_normal ?_
        refine GoC.condD rfl (fun h107 => ?_) (fun h107 => ?_)
        · have hz := plain_six h107
          rw [plain_none hz]
          refine GoC.seq ?_
          refine GoC.region ?_
          refine GoL.y rfl (Y.move rfl) ?_
          refine GoL.does rfl (Does.callE rfl Tryz.call62 rfl (dng_fin (d := (d.tell (t.regs.getD d.i.a.toNat 0) (t.regs.getD d.i.b.toNat 0) 6 true)) hp ht hl hpl hT hR he hw hj) .auto) ?_
          rintro _ _ ⟨qs, -, rfl, rfl⟩
          refine GoL.nil ?_
          refine GoE.then_normal ?_
          refine GoC.ret ?_
          refine GoE.then_ret ?_
          rw [dplain_none ht hz, if_neg h83, ha, hb]
          refine GoE.ret0 rfl fun w s => ⟨qs, ?_, trivial, finE .auto s⟩
          rfl
        · obtain ⟨z, hz⟩ := plain_zero (Decidable.not_not.mp h107)
          rw [plain_some hz]
          refine GoC.skip ?_
          refine GoE.then_normal ?_
          refine GoC.o2 (C := dngX bd b p ps (d.tell (t.regs.getD d.i.a.toNat 0) (t.regs.getD d.i.b.toNat 0) 0 true)) .auto rfl ?_
          rintro vw ve -
          refine GoC.o10 (C := spcX b ps (d.tell (t.regs.getD d.i.a.toNat 0) (t.regs.getD d.i.b.toNat 0) 0 true).s) .auto rfl ?_
          rintro fv sv pv bt vm bg vt bk bw vr -
          refine GoC.fr .auto (thrs_out hp (show (d.tell (t.regs.getD d.i.a.toNat 0) (t.regs.getD d.i.b.toNat 0) 0 true).s.thr[(d.tell (t.regs.getD d.i.a.toNat 0) (t.regs.getD d.i.b.toNat 0) 0 true).n]? = some (some t) from ht)) ?_
          refine GoC.draw [arr bd 0 (dngC b p (d.tell (t.regs.getD d.i.a.toNat 0) (t.regs.getD d.i.b.toNat 0) 0 true) vw ve), arr b4 0 (frmE z.1)] [1, 1, 1, 1, 1, 1, 1, 1, 1, 0, 1, 1, 2, 1, 1, 3] rfl (by kernel_rfl) ?_
          refine GoK.s rfl (Y.move rfl) ?_
          refine GoK.s rfl (Y.nilCheck rfl) ?_
          refine GoK.s rfl (Y.fieldAddr0 2 114 Tryz.underlying138 rfl Tryz.sizeOf114 rfl) ?_
          refine GoK.s rfl (Y.load Tryz.isAgg114 rfl (Cell.a (by rfl))) ?_
          refine GoK.s rfl (Y.move rfl) ?_
          refine GoK.s rfl (Y.nilCheck rfl) ?_
          refine GoK.s rfl (Y.fieldAddrZ 27 Tryz.underlying138 rfl Tryz.sizeOf27 rfl) ?_
          refine GoK.s rfl (Y.load Tryz.isAgg27 rfl (Cell.a (by rfl))) ?_
          refine GoK.s rfl (Y.lda Tryz.isAgg131 rfl Cells.a (by exact Tryz.sizeOf131)) ?_
          refine GoK.k rfl Kept.auto (Y.move rfl) ?_
          refine GoK.s rfl (Y.nilCheck rfl) ?_
          refine GoK.s rfl (Y.fieldAddrZ 131 Tryz.underlying133 rfl Tryz.sizeOf131 rfl) ?_
          refine GoK.d2 rfl Kept.auto (Does.stp (vs := frmE z.1) (by exact Tryz.sizeOf131) rfl rfl rfl rfl) (by rintro _ _ ⟨rfl, rfl⟩; exact Kept.auto) ?_
          rintro _ _ ⟨rfl, rfl⟩
          rw [thr_setF]
          refine GoK.s rfl (Y.nilCheck rfl) ?_
          refine GoK.s rfl (Y.fieldAddr0 25 51 Tryz.underlying118 rfl Tryz.sizeOf51 rfl) ?_
          refine GoK.d3 rfl (Does.stS Tryz.sizeOf51 rfl rfl rfl) ?_
          rintro _ _ ⟨rfl, rfl⟩
          rw [spc_mem]
          refine GoK.nil ?_
          refine GoE.to (A := thrsH ps ((d.tell (t.regs.getD d.i.a.toNat 0) (t.regs.getD d.i.b.toNat 0) 0 true).s.thr.set (d.tell (t.regs.getD d.i.a.toNat 0) (t.regs.getD d.i.b.toNat 0) 0 true).n (some (t.setF z.1)))) (Bs := [arr p 0 (thrC (t.setF z.1)), thrsH (ps.set (d.tell (t.regs.getD d.i.a.toNat 0) (t.regs.getD d.i.b.toNat 0) 0 true).n none) ((d.tell (t.regs.getD d.i.a.toNat 0) (t.regs.getD d.i.b.toNat 0) 0 true).s.thr.set (d.tell (t.regs.getD d.i.a.toNat 0) (t.regs.getD d.i.b.toNat 0) 0 true).n none)]) .auto (thrs_shut (List.getElem?_eq_some_iff.1 ht).1 hp) ?_
          rw [dplain_some ht hz, show d.told = d.tell (t.regs.getD d.i.a.toNat 0) (t.regs.getD d.i.b.toNat 0) 0 true from by unfold Dng.told; rw [if_neg h83, if_pos h94, ha, hb]]
          refine GoE.end0 rfl fun w s => ⟨ps, ?_, trivial, finE .auto s⟩
          rfl
      · refine GoC.skip ?_
        refine GoE.block_normal (GoE.then_normal ?_)
        refine GoC.seq ?_
        refine GoC.seq ?_
        refine GoC.region ?_
        refine GoL.y rfl (Y.move rfl) ?_
        refine GoL.y rfl (Y.neq rfl rfl) ?_
        refine GoL.nil ?_
        refine GoE.then_normal ?_
        refine GoC.condD rfl (fun h107 => ?_) (fun h107 => ?_)
        · exact absurd (doI_none (plain_six h107)) (by omega)
        · obtain ⟨z, hz⟩ := plain_zero (Decidable.not_not.mp h107)
          rw [plain_some hz]
          refine GoC.skip ?_
          refine GoE.then_normal ?_
          refine GoC.draw [arr bd 0 (dngC b p (d) vw ve), arr b4 0 (frmE z.1)] [1, 1, 1, 1, 1, 1, 1, 1, 1, 0, 1, 1, 2, 1, 1, 3] rfl (by kernel_rfl) ?_
          refine GoK.s rfl (Y.move rfl) ?_
          refine GoK.s rfl (Y.nilCheck rfl) ?_
          refine GoK.s rfl (Y.fieldAddr0 2 114 Tryz.underlying138 rfl Tryz.sizeOf114 rfl) ?_
          refine GoK.s rfl (Y.load Tryz.isAgg114 rfl (Cell.a (by rfl))) ?_
          refine GoK.s rfl (Y.move rfl) ?_
          refine GoK.s rfl (Y.nilCheck rfl) ?_
          refine GoK.s rfl (Y.fieldAddrZ 27 Tryz.underlying138 rfl Tryz.sizeOf27 rfl) ?_
          refine GoK.s rfl (Y.load Tryz.isAgg27 rfl (Cell.a (by rfl))) ?_
          refine GoK.s rfl (Y.lda Tryz.isAgg131 rfl Cells.a (by exact Tryz.sizeOf131)) ?_
          refine GoK.k rfl Kept.auto (Y.move rfl) ?_
          refine GoK.s rfl (Y.nilCheck rfl) ?_
          refine GoK.s rfl (Y.fieldAddrZ 131 Tryz.underlying133 rfl Tryz.sizeOf131 rfl) ?_
          refine GoK.d2 rfl Kept.auto (Does.stp (vs := frmE z.1) (by exact Tryz.sizeOf131) rfl rfl rfl rfl) (by rintro _ _ ⟨rfl, rfl⟩; exact Kept.auto) ?_
          rintro _ _ ⟨rfl, rfl⟩
          rw [thr_setF]
          refine GoK.s rfl (Y.nilCheck rfl) ?_
          refine GoK.s rfl (Y.fieldAddr0 25 51 Tryz.underlying118 rfl Tryz.sizeOf51 rfl) ?_
          refine GoK.d3 rfl (Does.stS Tryz.sizeOf51 rfl rfl rfl) ?_
          rintro _ _ ⟨rfl, rfl⟩
          rw [spc_mem]
          refine GoK.nil ?_
          refine GoE.to (A := thrsH ps ((d).s.thr.set (d).n (some (t.setF z.1)))) (Bs := [arr p 0 (thrC (t.setF z.1)), thrsH (ps.set (d).n none) ((d).s.thr.set (d).n none)]) .auto (thrs_shut (List.getElem?_eq_some_iff.1 ht).1 hp) ?_
          rw [dplain_some ht hz, show d.told = d from by unfold Dng.told; rw [if_neg h83, if_neg h94]]
          refine GoE.end0 rfl fun w s => ⟨ps, ?_, trivial, finE .auto s⟩
          rfl

end Go.SLYtpcjdohmjmeehaaGreat
namespace Go.SLYtpcjdohmjmeehaaGreat
open Go Go.RowKit Go.Proofs

set_option maxRecDepth 20000 in
theorem gate_Lock {W : World} {b : Nat} {g : Gates} {who m : Int} (hg : GatesLen g) : Fn Tryz.prog W 122 [ptr b, .int .i64 who, .int .i64 m] [gatesH b g] Unit (fun _ => .tuple #[.bool (g.lock who m).1, .int .i64 (g.lock who m).2.1]) (fun _ => True) (fun _ => [gatesH b (g.lock who m).2.2]) := by
  refine Fn.intro (N := 27) Tryz.func122 rfl Tryz.ntmps122 rfl fun F => ?_
  show GoC _ _ _ _ _ _ [gatesH b g, F]
  refine GoC.o3 (C := gatesH b g) .auto rfl ?_
  rintro vm vc vs -
  refine GoC.seq ?_
  refine GoC.region ?_
  refine GoL.y rfl (Y.assign rfl) ?_
  refine GoL.y rfl (Y.assign rfl) ?_
  refine GoL.nil ?_
  refine GoE.then_normal ?_
  refine GoC.seq ?_
  refine GoC.region ?_
  refine GoL.y rfl (Y.move rfl) ?_
  refine GoL.y rfl (Y.move rfl) ?_
  refine GoL.does rfl (Does.callE rfl Tryz.call153 rfl gate_mutex .auto) ?_
  rintro _ _ ⟨⟨⟩, -, rfl, rfl⟩
  refine GoL.y rfl (Y.assign rfl) ?_
  refine GoL.nil ?_
  refine GoE.then_normal ?_
  refine GoC.seq ?_
  refine GoC.block ?_
  refine GoC.seq ?_
  refine GoC.region ?_
  refine GoL.y rfl (Y.move rfl) ?_
  refine GoL.y rfl (Y.eqPtrNil Tryz.underlying250 rfl rfl) ?_
  refine GoL.y rfl (Y.assign rfl) ?_
  refine GoL.nil ?_
  refine GoE.then_normal ?_
  refine GoC.cond rfl (fun h12 => ?_) (fun h12 => ?_)
  · refine GoC.seq ?_
    refine GoC.region ?_
    refine GoL.y rfl (Y.assign rfl) ?_
    refine GoL.y rfl (Y.assign rfl) ?_
    refine GoL.nil ?_
    refine GoE.then_normal ?_
    refine GoC.ret ?_
    refine GoE.block_ret (GoE.then_ret ?_)
    rw [g_lock_no (isNone_no h12)]
    refine GoE.ret2 rfl rfl rfl fun w s => ⟨(), ?_, trivial, finE .auto s⟩
    rfl
  · refine GoC.seq ?_
    refine GoC.region ?_
    have hmhx := isNone_yes h12
    rw [elP_some hmhx]
    obtain ⟨x, hx, hgx⟩ := geti_some hmhx
    refine GoL.y rfl (Y.move rfl) ?_
    refine GoL.y rfl (Y.move rfl) ?_
    refine GoL.does rfl (Does.callE rfl Tryz.call154 rfl (gate_waits hg) .auto) ?_
    rintro _ _ ⟨⟨⟩, -, rfl, rfl⟩
    refine GoL.fr .auto (mtx_out hx) ?_
    refine GoL.y rfl (Y.move rfl) ?_
    apply GoL.segO 4 23 19 [19, 20, 21, 22, 23] rfl
    · intro h19
      refine GoL.yg rfl rfl rfl (Y.move rfl) ?_
      refine GoL.yg rfl rfl rfl (Y.move rfl) ?_
      refine GoL.dg rfl rfl rfl (Does.callE rfl Tryz.call155 rfl mutex_is .auto) ?_
      rintro _ _ ⟨⟨⟩, -, rfl, rfl⟩
      refine GoL.y rfl (Y.pickF rfl rfl) ?_
      refine GoL.nil ?_
      refine GoE.seg .auto rfl (by first | exact fun _ h => h | exact Ent.kept .auto)
    · intro h19
      refine GoL.skip rfl rfl rfl rfl ?_
      refine GoL.skip rfl rfl rfl rfl ?_
      refine GoL.skip rfl rfl rfl rfl ?_
      refine GoL.y rfl (Y.pickT rfl rfl) ?_
      refine GoL.nil ?_
      refine GoE.seg .auto rfl (by first | exact fun _ h => h | exact Ent.kept .auto)
    refine GoL.y rfl (Y.assign rfl) ?_
    refine GoL.nil ?_
    refine GoE.then_normal ?_
    refine GoC.cond rfl (fun h15 => ?_) (fun h15 => ?_)
    · refine GoC.seq ?_
      refine GoC.region ?_
      refine GoL.y rfl (Y.assign rfl) ?_
      refine GoL.y rfl (Y.assign rfl) ?_
      refine GoL.nil ?_
      refine GoE.then_normal ?_
      refine GoC.ret ?_
      refine GoE.block_ret (GoE.then_ret ?_)
      rw [g_lock_busy hgx h15]
      refine GoE.to (A := mtxsH vm g.mtx) (Bs := [mtxAt (blk vm) (ofs vm + m.toNat * 3) x, mtxR vm g.mtx m.toNat]) .auto (mtx_back hx) ?_
      refine GoE.ret2 rfl rfl rfl fun w s => ⟨(), ?_, trivial, finE .auto s⟩
      rfl
    · refine GoC.skip ?_
      refine GoE.block_normal (GoE.then_normal ?_)
      refine GoC.seq ?_
      refine GoC.region ?_
      refine GoL.y rfl (Y.move rfl) ?_
      refine GoL.y rfl (Y.move rfl) ?_
      refine GoL.does rfl (Does.callE rfl Tryz.call128 rfl (mutex_lock (Nat.le_trans (hg.mw x (List.mem_of_getElem? hx)) (by decide))) .auto) ?_
      rintro _ _ ⟨⟨⟩, -, rfl, rfl⟩
      refine GoL.y rfl (Y.assign rfl) ?_
      refine GoL.y rfl (Y.assign rfl) ?_
      refine GoL.nil ?_
      refine GoE.then_normal ?_
      refine GoC.ret ?_
      rw [g_lock_go hgx h15]
      refine GoE.to (A := mtxsH vm (g.mtx.set m.toNat (x.lock who).2)) (Bs := [mtxAt (blk vm) (ofs vm + m.toNat * 3) (x.lock who).2, mtxR vm g.mtx m.toNat]) .auto (mtx_in (x.lock who).2) ?_
      refine GoE.ret2 rfl rfl rfl fun w s => ⟨(), ?_, trivial, finE .auto s⟩
      rfl

set_option maxRecDepth 20000 in
theorem gate_Unlock {W : World} {b : Nat} {g : Gates} {who m c : Int} (hg : GatesLen g) : Fn Tryz.prog W 123 [ptr b, .int .i64 who, .int .i64 m, .int .i64 c] [gatesH b g] Unit (fun _ => .tuple #[.int .i64 (g.unlock who m c).1, .bool (g.unlock who m c).2.1, .int .i64 (g.unlock who m c).2.2.1]) (fun _ => True) (fun _ => [gatesH b (g.unlock who m c).2.2.2]) := by
  refine Fn.intro (N := 33) Tryz.func123 rfl Tryz.ntmps123 rfl fun F => ?_
  show GoC _ _ _ _ _ _ [gatesH b g, F]
  refine GoC.o3 (C := gatesH b g) .auto rfl ?_
  rintro vm vc vs -
  refine GoC.seq ?_
  refine GoC.region ?_
  refine GoL.y rfl (Y.assign rfl) ?_
  refine GoL.y rfl (Y.assign rfl) ?_
  refine GoL.y rfl (Y.assign rfl) ?_
  refine GoL.nil ?_
  refine GoE.then_normal ?_
  refine GoC.seq ?_
  refine GoC.region ?_
  refine GoL.y rfl (Y.move rfl) ?_
  refine GoL.y rfl (Y.move rfl) ?_
  refine GoL.does rfl (Does.callE rfl Tryz.call153 rfl gate_mutex .auto) ?_
  rintro _ _ ⟨⟨⟩, -, rfl, rfl⟩
  refine GoL.y rfl (Y.assign rfl) ?_
  refine GoL.nil ?_
  refine GoE.then_normal ?_
  refine GoC.seq ?_
  refine GoC.block ?_
  refine GoC.seq ?_
  refine GoC.region ?_
  refine GoL.y rfl (Y.move rfl) ?_
  refine GoL.y rfl (Y.eqPtrNil Tryz.underlying250 rfl rfl) ?_
  refine GoL.y rfl (Y.assign rfl) ?_
  refine GoL.nil ?_
  refine GoE.then_normal ?_
  refine GoC.cond rfl (fun h17 => ?_) (fun h17 => ?_)
  · refine GoC.seq ?_
    refine GoC.region ?_
    refine GoL.y rfl (Y.assign rfl) ?_
    refine GoL.y rfl (Y.assign rfl) ?_
    refine GoL.y rfl (Y.assign rfl) ?_
    refine GoL.nil ?_
    refine GoE.then_normal ?_
    refine GoC.ret ?_
    refine GoE.block_ret (GoE.then_ret ?_)
    rw [g_unlock_no (isNone_no h17)]
    refine GoE.ret3 rfl rfl rfl rfl fun w s => ⟨(), ?_, trivial, finE .auto s⟩
    rfl
  · refine GoC.seq ?_
    refine GoC.region ?_
    have hmhx := isNone_yes h17
    rw [elP_some hmhx]
    obtain ⟨x, hx, hgx⟩ := geti_some hmhx
    refine GoL.fr .auto (mtx_out hx) ?_
    refine GoL.y rfl (Y.move rfl) ?_
    refine GoL.y rfl (Y.move rfl) ?_
    refine GoL.does rfl (Does.callE rfl Tryz.call155 rfl mutex_is .auto) ?_
    rintro _ _ ⟨⟨⟩, -, rfl, rfl⟩
    refine GoL.y rfl (Y.not rfl) ?_
    refine GoL.y rfl (Y.assign rfl) ?_
    refine GoL.nil ?_
    refine GoE.then_normal ?_
    refine GoC.cond rfl (fun h20 => ?_) (fun h20 => ?_)
    · refine GoC.seq ?_
      refine GoC.region ?_
      refine GoL.y rfl (Y.assign rfl) ?_
      refine GoL.y rfl (Y.assign rfl) ?_
      refine GoL.y rfl (Y.assign rfl) ?_
      refine GoL.nil ?_
      refine GoE.then_normal ?_
      refine GoC.ret ?_
      refine GoE.block_ret (GoE.then_ret ?_)
      rw [g_unlock_own hgx (by simpa using h20)]
      refine GoE.to (A := mtxsH vm g.mtx) (Bs := [mtxAt (blk vm) (ofs vm + m.toNat * 3) x, mtxR vm g.mtx m.toNat]) .auto (mtx_back hx) ?_
      refine GoE.ret3 rfl rfl rfl rfl fun w s => ⟨(), ?_, trivial, finE .auto s⟩
      rfl
    · refine GoC.skip ?_
      refine GoE.block_normal (GoE.then_normal ?_)
      refine GoC.seq ?_
      refine GoC.region ?_
      refine GoL.y rfl (Y.move rfl) ?_
      refine GoL.y rfl (Y.move rfl) ?_
      refine GoL.does rfl (Does.callE rfl Tryz.call156 rfl (mutex_unlock (hg.mw x (List.mem_of_getElem? hx))) .auto) ?_
      rintro _ _ ⟨⟨⟩, -, rfl, rfl⟩
      refine GoL.y rfl (Y.move rfl) ?_
      refine GoL.y rfl (Y.extract rfl rfl) ?_
      refine GoL.y rfl (Y.extract rfl rfl) ?_
      refine GoL.y rfl (Y.assign rfl) ?_
      refine GoL.y rfl (Y.assign rfl) ?_
      refine GoL.nil ?_
      refine GoE.then_normal ?_
      refine GoC.seq ?_
      refine GoC.region ?_
      refine GoL.y rfl (Y.move rfl) ?_
      refine GoL.y rfl (Y.move rfl) ?_
      refine GoL.y rfl (Y.assign rfl) ?_
      refine GoL.y rfl (Y.assign rfl) ?_
      refine GoL.y rfl (Y.assign rfl) ?_
      refine GoL.nil ?_
      refine GoE.then_normal ?_
      refine GoC.ret ?_
      rw [g_unlock_go hgx (by simpa using h20)]
      refine GoE.to (A := mtxsH vm (g.mtx.set m.toNat (x.unlock c).2.2)) (Bs := [mtxAt (blk vm) (ofs vm + m.toNat * 3) (x.unlock c).2.2, mtxR vm g.mtx m.toNat]) .auto (mtx_in (x.unlock c).2.2) ?_
      refine GoE.ret3 rfl rfl rfl rfl fun w s => ⟨(), ?_, trivial, finE .auto s⟩
      rfl

set_option maxRecDepth 20000 in
theorem gate_Wait {W : World} {b : Nat} {g : Gates} {who c m ch : Int} (hg : GatesLen g) : Fn Tryz.prog W 125 [ptr b, .int .i64 who, .int .i64 c, .int .i64 m, .int .i64 ch] [gatesH b g] Unit (fun _ => .tuple #[.int .i64 (g.wait who c m ch).1, .bool (g.wait who c m ch).2.1, .int .i64 (g.wait who c m ch).2.2.1]) (fun _ => True) (fun _ => [gatesH b (g.wait who c m ch).2.2.2]) := by
  refine Fn.intro (N := 52) Tryz.func125 rfl Tryz.ntmps125 rfl fun F => ?_
  show GoC _ _ _ _ _ _ [gatesH b g, F]
  refine GoC.o3 (C := gatesH b g) .auto rfl ?_
  rintro vm vc vs -
  refine GoC.seq ?_
  refine GoC.region ?_
  refine GoL.y rfl (Y.assign rfl) ?_
  refine GoL.y rfl (Y.assign rfl) ?_
  refine GoL.y rfl (Y.assign rfl) ?_
  refine GoL.nil ?_
  refine GoE.then_normal ?_
  refine GoC.seq ?_
  refine GoC.region ?_
  refine GoL.y rfl (Y.move rfl) ?_
  refine GoL.y rfl (Y.move rfl) ?_
  refine GoL.does rfl (Does.callE rfl Tryz.call153 rfl gate_mutex .auto) ?_
  rintro _ _ ⟨⟨⟩, -, rfl, rfl⟩
  refine GoL.y rfl (Y.move rfl) ?_
  refine GoL.y rfl (Y.move rfl) ?_
  refine GoL.does rfl (Does.callE rfl Tryz.call126 rfl gate_cond .auto) ?_
  rintro _ _ ⟨⟨⟩, -, rfl, rfl⟩
  refine GoL.y rfl (Y.assign rfl) ?_
  refine GoL.y rfl (Y.assign rfl) ?_
  refine GoL.nil ?_
  refine GoE.then_normal ?_
  refine GoC.seq ?_
  refine GoC.block ?_
  refine GoC.seq ?_
  refine GoC.region ?_
  refine GoL.y rfl (Y.move rfl) ?_
  refine GoL.y rfl (Y.eqPtrNil Tryz.underlying250 rfl rfl) ?_
  refine GoL.y rfl (Y.move rfl) ?_
  apply GoL.segO 3 29 26 [26, 27, 28, 29] rfl
  · intro h26
    refine GoL.yg rfl rfl rfl (Y.move rfl) ?_
    refine GoL.yg rfl rfl rfl (Y.eqPtrNil Tryz.underlying226 rfl rfl) ?_
    refine GoL.y rfl (Y.pickF rfl rfl) ?_
    refine GoL.nil ?_
    refine GoE.seg .auto rfl (by first | exact fun _ h => h | exact Ent.kept .auto)
  · intro h26
    refine GoL.skip rfl rfl rfl rfl ?_
    refine GoL.skip rfl rfl rfl rfl ?_
    refine GoL.y rfl (Y.pickT rfl rfl) ?_
    refine GoL.nil ?_
    refine GoE.seg .auto rfl (by first | exact fun _ h => h | exact Ent.kept .auto)
  refine GoL.y rfl (Y.assign rfl) ?_
  refine GoL.nil ?_
  refine GoE.then_normal ?_
  refine GoC.cond rfl (fun h23 => ?_) (fun h23 => ?_)
  · have hw : g.wait who c m ch = (0, false, 1, g) := by
      rcases (Bool.or_eq_true _ _).mp h23 with h | h
      · exact g_wait_no1 (isNone_no h)
      · exact g_wait_no2 (isNone_no h)
    refine GoC.seq ?_
    refine GoC.region ?_
    refine GoL.y rfl (Y.assign rfl) ?_
    refine GoL.y rfl (Y.assign rfl) ?_
    refine GoL.y rfl (Y.assign rfl) ?_
    refine GoL.nil ?_
    refine GoE.then_normal ?_
    refine GoC.ret ?_
    refine GoE.block_ret (GoE.then_ret ?_)
    rw [hw]
    refine GoE.ret3 rfl rfl rfl rfl fun w s => ⟨(), ?_, trivial, finE .auto s⟩
    rfl
  · refine GoC.seq ?_
    refine GoC.region ?_
    rw [Bool.or_eq_false_iff] at h23
    have hmhx := isNone_yes h23.1
    rw [elP_some hmhx]
    obtain ⟨x, hx, hgx⟩ := geti_some hmhx
    have hmhr := isNone_yes h23.2
    rw [elP_some hmhr]
    obtain ⟨r, hr, hgr⟩ := geti_some hmhr
    refine GoL.y rfl (Y.move rfl) ?_
    refine GoL.y rfl (Y.move rfl) ?_
    refine GoL.does rfl (Does.callE rfl Tryz.call154 rfl (gate_waits hg) .auto) ?_
    rintro _ _ ⟨⟨⟩, -, rfl, rfl⟩
    refine GoL.y rfl (Y.assign rfl) ?_
    refine GoL.nil ?_
    refine GoE.then_normal ?_
    refine GoC.cond rfl (fun h30 => ?_) (fun h30 => ?_)
    · refine GoC.seq ?_
      refine GoC.region ?_
      refine GoL.y rfl (Y.assign rfl) ?_
      refine GoL.y rfl (Y.assign rfl) ?_
      refine GoL.y rfl (Y.assign rfl) ?_
      refine GoL.nil ?_
      refine GoE.then_normal ?_
      refine GoC.ret ?_
      refine GoE.block_ret (GoE.then_ret ?_)
      rw [g_wait_busy hgx hgr h30]
      refine GoE.ret3 rfl rfl rfl rfl fun w s => ⟨(), ?_, trivial, finE .auto s⟩
      rfl
    · refine GoC.seq ?_
      refine GoC.region ?_
      refine GoL.fr .auto (mtx_out hx) ?_
      refine GoL.y rfl (Y.move rfl) ?_
      refine GoL.y rfl (Y.move rfl) ?_
      refine GoL.does rfl (Does.callE rfl Tryz.call155 rfl mutex_is .auto) ?_
      rintro _ _ ⟨⟨⟩, -, rfl, rfl⟩
      refine GoL.y rfl (Y.not rfl) ?_
      refine GoL.y rfl (Y.assign rfl) ?_
      refine GoL.nil ?_
      refine GoE.then_normal ?_
      refine GoC.cond rfl (fun h34 => ?_) (fun h34 => ?_)
      · refine GoC.seq ?_
        refine GoC.region ?_
        refine GoL.y rfl (Y.assign rfl) ?_
        refine GoL.y rfl (Y.assign rfl) ?_
        refine GoL.y rfl (Y.assign rfl) ?_
        refine GoL.nil ?_
        refine GoE.then_normal ?_
        refine GoC.ret ?_
        refine GoE.block_ret (GoE.then_ret ?_)
        rw [g_wait_own hgx hgr h30 (by simpa using h34)]
        refine GoE.to (A := mtxsH vm g.mtx) (Bs := [mtxAt (blk vm) (ofs vm + m.toNat * 3) x, mtxR vm g.mtx m.toNat]) .auto (mtx_back hx) ?_
        refine GoE.ret3 rfl rfl rfl rfl fun w s => ⟨(), ?_, trivial, finE .auto s⟩
        rfl
      · refine GoC.skip ?_
        refine GoE.block_normal (GoE.then_normal ?_)
        refine GoC.seq ?_
        refine GoC.region ?_
        refine GoL.y rfl (Y.move rfl) ?_
        refine GoL.y rfl (Y.move rfl) ?_
        refine GoL.does rfl (Does.callE rfl Tryz.call156 rfl (mutex_unlock (hg.mw x (List.mem_of_getElem? hx))) .auto) ?_
        rintro _ _ ⟨⟨⟩, -, rfl, rfl⟩
        refine GoL.y rfl (Y.move rfl) ?_
        refine GoL.y rfl (Y.extract rfl rfl) ?_
        refine GoL.y rfl (Y.extract rfl rfl) ?_
        refine GoL.y rfl (Y.assign rfl) ?_
        refine GoL.y rfl (Y.assign rfl) ?_
        refine GoL.nil ?_
        refine GoE.then_normal ?_
        refine GoC.seq ?_
        refine GoC.region ?_
        refine GoL.to (A := mtxsH vm (g.mtx.set m.toNat (x.unlock ch).2.2)) (Bs := [mtxAt (blk vm) (ofs vm + m.toNat * 3) (x.unlock ch).2.2, mtxR vm g.mtx m.toNat]) .auto (mtx_in (x.unlock ch).2.2) ?_
        refine GoL.fr .auto (cnd_out hr) ?_
        refine GoL.y rfl (Y.move rfl) ?_
        refine GoL.y rfl (Y.move rfl) ?_
        refine GoL.y rfl (Y.move rfl) ?_
        refine GoL.y rfl (Y.bld2 (fun v1 v2 => [v1, v2]) rfl rfl (by kernel_rfl)) ?_
        refine GoL.does rfl (Does.callE rfl Tryz.call157 rfl (row_add (x := ⟨who, m⟩) (Nat.le_trans (hg.cw r (List.mem_of_getElem? hr)) (by decide))) .auto) ?_
        rintro _ _ ⟨⟨⟩, -, rfl, rfl⟩
        refine GoL.nil ?_
        refine GoE.then_normal ?_
        refine GoC.seq ?_
        refine GoC.region ?_
        refine GoL.y rfl (Y.move rfl) ?_
        refine GoL.y rfl (Y.move rfl) ?_
        refine GoL.y rfl (Y.assign rfl) ?_
        refine GoL.y rfl (Y.assign rfl) ?_
        refine GoL.y rfl (Y.assign rfl) ?_
        refine GoL.nil ?_
        refine GoE.then_normal ?_
        refine GoC.ret ?_
        rw [g_wait_go hgx hgr h30 (by simpa using h34)]
        refine GoE.to (A := cndsH vc (g.cnd.set c.toNat (r ++ [⟨who, m⟩]))) (Bs := [rowH (blk vc) (ofs vc + c.toNat * 1) (r ++ [⟨who, m⟩]), cndR vc g.cnd c.toNat]) .auto (cnd_in (r ++ [⟨who, m⟩])) ?_
        refine GoE.ret3 rfl rfl rfl rfl fun w s => ⟨(), ?_, trivial, finE .auto s⟩
        rfl

set_option maxRecDepth 20000 in
theorem gate_Down {W : World} {b : Nat} {g : Gates} {who s : Int} (hg : GatesLen g) (hc : ∀ x ∈ g.sem, 0 ≤ x.count ∧ x.count ≤ 1048576) : Fn Tryz.prog W 131 [ptr b, .int .i64 who, .int .i64 s] [gatesH b g] Unit (fun _ => .tuple #[.bool (g.down who s).1, .int .i64 (g.down who s).2.1]) (fun _ => True) (fun _ => [gatesH b (g.down who s).2.2]) := by
  refine Fn.intro (N := 38) Tryz.func131 rfl Tryz.ntmps131 rfl fun F => ?_
  show GoC _ _ _ _ _ _ [gatesH b g, F]
  refine GoC.o3 (C := gatesH b g) .auto rfl ?_
  rintro vm vc vs -
  refine GoC.seq ?_
  refine GoC.region ?_
  refine GoL.y rfl (Y.assign rfl) ?_
  refine GoL.y rfl (Y.assign rfl) ?_
  refine GoL.nil ?_
  refine GoE.then_normal ?_
  refine GoC.seq ?_
  refine GoC.region ?_
  refine GoL.y rfl (Y.move rfl) ?_
  refine GoL.y rfl (Y.move rfl) ?_
  refine GoL.does rfl (Does.callE rfl Tryz.call160 rfl gate_sem .auto) ?_
  rintro _ _ ⟨⟨⟩, -, rfl, rfl⟩
  refine GoL.y rfl (Y.assign rfl) ?_
  refine GoL.nil ?_
  refine GoE.then_normal ?_
  refine GoC.seq ?_
  refine GoC.block ?_
  refine GoC.seq ?_
  refine GoC.region ?_
  refine GoL.y rfl (Y.move rfl) ?_
  refine GoL.y rfl (Y.eqPtrNil Tryz.underlying256 rfl rfl) ?_
  refine GoL.y rfl (Y.assign rfl) ?_
  refine GoL.nil ?_
  refine GoE.then_normal ?_
  refine GoC.cond rfl (fun h12 => ?_) (fun h12 => ?_)
  · refine GoC.seq ?_
    refine GoC.region ?_
    refine GoL.y rfl (Y.assign rfl) ?_
    refine GoL.y rfl (Y.assign rfl) ?_
    refine GoL.nil ?_
    refine GoE.then_normal ?_
    refine GoC.ret ?_
    refine GoE.block_ret (GoE.then_ret ?_)
    rw [g_down_no (isNone_no h12)]
    refine GoE.ret2 rfl rfl rfl fun w s => ⟨(), ?_, trivial, finE .auto s⟩
    rfl
  · refine GoC.seq ?_
    refine GoC.region ?_
    have hmhx := isNone_yes h12
    rw [elP_some hmhx]
    obtain ⟨x, hx, hgx⟩ := geti_some hmhx
    refine GoL.y rfl (Y.move rfl) ?_
    refine GoL.y rfl (Y.move rfl) ?_
    refine GoL.does rfl (Does.callE rfl Tryz.call154 rfl (gate_waits hg) .auto) ?_
    rintro _ _ ⟨⟨⟩, -, rfl, rfl⟩
    refine GoL.y rfl (Y.assign rfl) ?_
    refine GoL.nil ?_
    refine GoE.then_normal ?_
    refine GoC.cond rfl (fun h15 => ?_) (fun h15 => ?_)
    · refine GoC.seq ?_
      refine GoC.region ?_
      refine GoL.y rfl (Y.assign rfl) ?_
      refine GoL.y rfl (Y.assign rfl) ?_
      refine GoL.nil ?_
      refine GoE.then_normal ?_
      refine GoC.ret ?_
      refine GoE.block_ret (GoE.then_ret ?_)
      rw [g_down_busy hgx h15]
      refine GoE.ret2 rfl rfl rfl fun w s => ⟨(), ?_, trivial, finE .auto s⟩
      rfl
    · refine GoC.seq ?_
      refine GoC.region ?_
      refine GoL.fr .auto (smp_out hx) ?_
      have hcx := hc x (List.mem_of_getElem? hx)
      refine GoL.o1 (C := smpAt (blk vs) (ofs vs + s.toNat * 2) x) .auto rfl ?_
      rintro u -
      refine GoL.y rfl (Y.move rfl) ?_
      refine GoL.y rfl (Y.nilCheck rfl) ?_
      refine GoL.y rfl (Y.fieldAddr 1 3 Tryz.underlying172 rfl Tryz.sizeOf3 rfl) ?_
      refine GoL.y rfl (Y.load Tryz.isAgg3 rfl (Cell.ao (by rfl))) ?_
      refine GoL.y rfl (Y.gtr rfl rfl) ?_
      refine GoL.y rfl (Y.assign rfl) ?_
      refine GoL.nil ?_
      refine GoE.then_normal ?_
      refine GoC.condD rfl (fun h19 => ?_) (fun h19 => ?_)
      · refine GoC.seq ?_
        refine GoC.region ?_
        refine GoL.y rfl (Y.move rfl) ?_
        refine GoL.y rfl (Y.nilCheck rfl) ?_
        refine GoL.y rfl (Y.fieldAddr 1 3 Tryz.underlying172 rfl Tryz.sizeOf3 rfl) ?_
        refine GoL.y rfl (Y.load Tryz.isAgg3 rfl (Cell.ao (by rfl))) ?_
        refine GoL.y rfl (Y.sub rfl rfl (by omega)) ?_
        refine GoL.y rfl (Y.nilCheck rfl) ?_
        refine GoL.y rfl (Y.fieldAddr 1 3 Tryz.underlying172 rfl Tryz.sizeOf3 rfl) ?_
        refine GoL.does rfl (Does.sto Tryz.sizeOf3 rfl rfl rfl rfl) ?_
        rintro _ _ ⟨rfl, rfl⟩
        refine GoL.nil ?_
        refine GoE.then_normal ?_
        refine GoC.seq ?_
        refine GoC.region ?_
        refine GoL.y rfl (Y.assign rfl) ?_
        refine GoL.y rfl (Y.assign rfl) ?_
        refine GoL.nil ?_
        refine GoE.then_normal ?_
        refine GoC.ret ?_
        refine GoE.block_ret (GoE.then_ret ?_)
        rw [g_down_go hgx h15 h19]
        refine GoE.to (A := smpsH vs (g.sem.set s.toNat { x with count := x.count - 1 })) (Bs := [smpAt (blk vs) (ofs vs + s.toNat * 2) { x with count := x.count - 1 }, smpR vs g.sem s.toNat]) .auto (smp_in { x with count := x.count - 1 }) ?_
        refine GoE.ret2 rfl rfl rfl fun w s => ⟨(), ?_, trivial, finE .auto s⟩
        rfl
      · refine GoC.skip ?_
        refine GoE.block_normal (GoE.then_normal ?_)
        refine GoC.seq ?_
        refine GoC.region ?_
        refine GoL.y rfl (Y.move rfl) ?_
        refine GoL.y rfl (Y.nilCheck rfl) ?_
        refine GoL.fr .auto (arr_cut1 (b := blk vs) (o := ofs vs + s.toNat * 2) (u := u)) ?_
        refine GoL.y rfl (Y.fieldAddrZ 170 Tryz.underlying172 rfl Tryz.sizeOf170 rfl) ?_
        refine GoL.y rfl (Y.move rfl) ?_
        refine GoL.y rfl (Y.bld1 (fun v1 => [v1, (.int .i64 0)]) rfl (by kernel_rfl)) ?_
        refine GoL.does rfl (Does.callE rfl Tryz.call157 rfl (row_add (x := ⟨who, 0⟩) (Nat.le_trans (hg.sw x (List.mem_of_getElem? hx)) (by decide))) .auto) ?_
        rintro _ _ ⟨⟨⟩, -, rfl, rfl⟩
        refine GoL.nil ?_
        refine GoE.then_normal ?_
        refine GoC.seq ?_
        refine GoC.region ?_
        refine GoL.y rfl (Y.assign rfl) ?_
        refine GoL.y rfl (Y.assign rfl) ?_
        refine GoL.nil ?_
        refine GoE.then_normal ?_
        refine GoC.ret ?_
        rw [g_down_wait hgx h15 h19]
        refine GoE.to (A := smpAt (blk vs) (ofs vs + s.toNat * 2) { x with wait := x.wait ++ [⟨who, 0⟩] }) (Bs := [rowH (blk vs) (ofs vs + s.toNat * 2) (x.wait ++ [⟨who, 0⟩]), arr (blk vs) (ofs vs + s.toNat * 2 + 1) [.int .i64 x.count]]) .auto (row_smp (m := { x with wait := x.wait ++ [⟨who, 0⟩] })) ?_
        refine GoE.to (A := smpsH vs (g.sem.set s.toNat { x with wait := x.wait ++ [⟨who, 0⟩] })) (Bs := [smpAt (blk vs) (ofs vs + s.toNat * 2) { x with wait := x.wait ++ [⟨who, 0⟩] }, smpR vs g.sem s.toNat]) .auto (smp_in { x with wait := x.wait ++ [⟨who, 0⟩] }) ?_
        refine GoE.ret2 rfl rfl rfl fun w s => ⟨(), ?_, trivial, finE .auto s⟩
        rfl

set_option maxRecDepth 20000 in
theorem gate_Up {W : World} {b : Nat} {g : Gates} {s c : Int} (hg : GatesLen g) (hc : ∀ x ∈ g.sem, 0 ≤ x.count ∧ x.count ≤ 1048576) : Fn Tryz.prog W 130 [ptr b, .int .i64 s, .int .i64 c] [gatesH b g] Unit (fun _ => .tuple #[.int .i64 (g.up s c).1, .bool (g.up s c).2.1, .int .i64 (g.up s c).2.2.1]) (fun _ => True) (fun _ => [gatesH b (g.up s c).2.2.2]) := by
  refine Fn.intro (N := 40) Tryz.func130 rfl Tryz.ntmps130 rfl fun F => ?_
  show GoC _ _ _ _ _ _ [gatesH b g, F]
  refine GoC.o3 (C := gatesH b g) .auto rfl ?_
  rintro vm vc vs -
  refine GoC.seq ?_
  refine GoC.region ?_
  refine GoL.y rfl (Y.assign rfl) ?_
  refine GoL.y rfl (Y.assign rfl) ?_
  refine GoL.y rfl (Y.assign rfl) ?_
  refine GoL.nil ?_
  refine GoE.then_normal ?_
  refine GoC.seq ?_
  refine GoC.region ?_
  refine GoL.y rfl (Y.move rfl) ?_
  refine GoL.y rfl (Y.move rfl) ?_
  refine GoL.does rfl (Does.callE rfl Tryz.call160 rfl gate_sem .auto) ?_
  rintro _ _ ⟨⟨⟩, -, rfl, rfl⟩
  refine GoL.y rfl (Y.assign rfl) ?_
  refine GoL.nil ?_
  refine GoE.then_normal ?_
  refine GoC.seq ?_
  refine GoC.seq ?_
  refine GoC.region ?_
  refine GoL.y rfl (Y.move rfl) ?_
  refine GoL.y rfl (Y.eqPtrNil Tryz.underlying256 rfl rfl) ?_
  refine GoL.nil ?_
  refine GoE.then_normal ?_
  refine GoC.cond rfl (fun h16 => ?_) (fun h16 => ?_)
  · refine GoC.seq ?_
    refine GoC.region ?_
    refine GoL.y rfl (Y.assign rfl) ?_
    refine GoL.y rfl (Y.assign rfl) ?_
    refine GoL.y rfl (Y.assign rfl) ?_
    refine GoL.nil ?_
    refine GoE.then_normal ?_
    refine GoC.ret ?_
    refine GoE.then_ret ?_
    rw [g_up_no (isNone_no h16)]
    refine GoE.ret3 rfl rfl rfl rfl fun w s => ⟨(), ?_, trivial, finE .auto s⟩
    rfl
  · refine GoC.skip ?_
    refine GoE.then_normal ?_
    refine GoC.seq ?_
    refine GoC.seq ?_
    refine GoC.region ?_
    have hmhx := isNone_yes h16
    rw [elP_some hmhx]
    obtain ⟨x, hx, hgx⟩ := geti_some hmhx
    refine GoL.fr .auto (smp_out hx) ?_
    have hcx := hc x (List.mem_of_getElem? hx)
    refine GoL.o1 (C := smpAt (blk vs) (ofs vs + s.toNat * 2) x) .auto rfl ?_
    rintro u -
    refine GoL.fr .auto (arr_cut1 (b := blk vs) (o := ofs vs + s.toNat * 2) (u := u)) ?_
    refine GoL.y rfl (Y.move rfl) ?_
    refine GoL.y rfl (Y.nilCheck rfl) ?_
    refine GoL.y rfl (Y.fieldAddrZ 170 Tryz.underlying172 rfl Tryz.sizeOf170 rfl) ?_
    refine GoL.y rfl (Y.move rfl) ?_
    refine GoL.does rfl (Does.callE rfl Tryz.call127 rfl (row_take (hg.sw x (List.mem_of_getElem? hx))) .auto) ?_
    rintro _ _ ⟨⟨⟩, -, rfl, rfl⟩
    refine GoL.y rfl (Y.move rfl) ?_
    refine GoL.y rfl (Y.extract rfl rfl) ?_
    refine GoL.y rfl (Y.extract rfl rfl) ?_
    refine GoL.does rfl (Does.alloc rfl Tryz.zeroValue229 rfl) ?_
    rintro _ _ ⟨b10, rfl, rfl⟩
    refine GoL.does rfl (Does.sta (by exact Tryz.sizeOf229) rfl rfl rfl (by rfl)) ?_
    rintro _ _ ⟨rfl, rfl⟩
    refine GoL.y rfl (Y.assign rfl) ?_
    refine GoL.nil ?_
    refine GoE.then_normal ?_
    refine GoC.seq ?_
    refine GoC.region ?_
    refine GoL.y rfl (Y.move rfl) ?_
    refine GoL.nil ?_
    refine GoE.then_normal ?_
    refine GoC.cond rfl (fun h25 => ?_) (fun h25 => ?_)
    · refine GoC.seq ?_
      refine GoC.region ?_
      refine GoL.y rfl (Y.fieldAddrZ 3 Tryz.underlying229 rfl Tryz.sizeOf3 rfl) ?_
      refine GoL.y rfl (Y.load Tryz.isAgg3 rfl (Cell.a (by rfl))) ?_
      refine GoL.y rfl (Y.assign rfl) ?_
      refine GoL.y rfl (Y.assign rfl) ?_
      refine GoL.y rfl (Y.assign rfl) ?_
      refine GoL.nil ?_
      refine GoE.then_normal ?_
      refine GoC.ret ?_
      refine GoE.then_ret ?_
      rw [g_up_take hgx h25]
      refine GoE.to (A := smpAt (blk vs) (ofs vs + s.toNat * 2) { x with wait := (takeW x.wait c).2.2 }) (Bs := [rowH (blk vs) (ofs vs + s.toNat * 2) (takeW x.wait c).2.2, arr (blk vs) (ofs vs + s.toNat * 2 + 1) [.int .i64 x.count]]) .auto (row_smp (m := { x with wait := (takeW x.wait c).2.2 })) ?_
      refine GoE.to (A := smpsH vs (g.sem.set s.toNat { x with wait := (takeW x.wait c).2.2 })) (Bs := [smpAt (blk vs) (ofs vs + s.toNat * 2) { x with wait := (takeW x.wait c).2.2 }, smpR vs g.sem s.toNat]) .auto (smp_in { x with wait := (takeW x.wait c).2.2 }) ?_
      refine GoE.ret3 rfl rfl rfl rfl fun w s => ⟨(), ?_, trivial, finE .auto s⟩
      rfl
    · have htw := take_none h25
      refine GoC.skip ?_
      refine GoE.then_normal ?_
      refine GoC.seq ?_
      refine GoC.seq ?_
      refine GoC.region ?_
      refine GoL.y rfl (Y.move rfl) ?_
      refine GoL.y rfl (Y.nilCheck rfl) ?_
      refine GoL.y rfl (Y.fieldAddr 1 3 Tryz.underlying172 rfl Tryz.sizeOf3 rfl) ?_
      refine GoL.y rfl (Y.load Tryz.isAgg3 rfl (Cell.az (cs := [.int .i64 x.count]) rfl)) ?_
      refine GoL.y rfl (Y.geq rfl rfl) ?_
      refine GoL.nil ?_
      refine GoE.then_normal ?_
      refine GoC.condD rfl (fun h32 => ?_) (fun h32 => ?_)
      · refine GoC.seq ?_
        refine GoC.region ?_
        refine GoL.y rfl (Y.assign rfl) ?_
        refine GoL.y rfl (Y.assign rfl) ?_
        refine GoL.y rfl (Y.assign rfl) ?_
        refine GoL.nil ?_
        refine GoE.then_normal ?_
        refine GoC.ret ?_
        refine GoE.then_ret ?_
        rw [g_up_full hgx h25 h32]
        rw [htw]
        refine GoE.to (A := smpAt (blk vs) (ofs vs + s.toNat * 2) x) (Bs := [rowH (blk vs) (ofs vs + s.toNat * 2) x.wait, arr (blk vs) (ofs vs + s.toNat * 2 + 1) [.int .i64 x.count]]) .auto row_smp ?_
        refine GoE.to (A := smpsH vs g.sem) (Bs := [smpAt (blk vs) (ofs vs + s.toNat * 2) x, smpR vs g.sem s.toNat]) .auto (smp_back hx) ?_
        refine GoE.ret3 rfl rfl rfl rfl fun w s => ⟨(), ?_, trivial, finE .auto s⟩
        rfl
      · refine GoC.skip ?_
        refine GoE.then_normal ?_
        refine GoC.seq ?_
        refine GoC.region ?_
        refine GoL.y rfl (Y.move rfl) ?_
        refine GoL.y rfl (Y.nilCheck rfl) ?_
        refine GoL.y rfl (Y.fieldAddr 1 3 Tryz.underlying172 rfl Tryz.sizeOf3 rfl) ?_
        refine GoL.y rfl (Y.load Tryz.isAgg3 rfl (Cell.az (cs := [.int .i64 x.count]) rfl)) ?_
        refine GoL.y rfl (Y.add rfl rfl (by omega)) ?_
        refine GoL.y rfl (Y.nilCheck rfl) ?_
        refine GoL.y rfl (Y.fieldAddr 1 3 Tryz.underlying172 rfl Tryz.sizeOf3 rfl) ?_
        refine GoL.does rfl (Does.stz Tryz.sizeOf3 rfl rfl rfl rfl) ?_
        rintro _ _ ⟨rfl, rfl⟩
        refine GoL.nil ?_
        refine GoE.then_normal ?_
        refine GoC.seq ?_
        refine GoC.region ?_
        refine GoL.y rfl (Y.assign rfl) ?_
        refine GoL.y rfl (Y.assign rfl) ?_
        refine GoL.y rfl (Y.assign rfl) ?_
        refine GoL.nil ?_
        refine GoE.then_normal ?_
        refine GoC.ret ?_
        rw [g_up_go hgx h25 h32, htw]
        refine GoE.to (A := smpAt (blk vs) (ofs vs + s.toNat * 2) { x with count := x.count + 1 }) (Bs := [rowH (blk vs) (ofs vs + s.toNat * 2) x.wait, arr (blk vs) (ofs vs + s.toNat * 2 + 1) [.int .i64 (x.count + 1)]]) .auto (row_smp (m := { x with count := x.count + 1 })) ?_
        refine GoE.to (A := smpsH vs (g.sem.set s.toNat { x with count := x.count + 1 })) (Bs := [smpAt (blk vs) (ofs vs + s.toNat * 2) { x with count := x.count + 1 }, smpR vs g.sem s.toNat]) .auto (smp_in { x with count := x.count + 1 }) ?_
        refine GoE.ret3 rfl rfl rfl rfl fun w s => ⟨(), ?_, trivial, finE .auto s⟩
        rfl

set_option maxRecDepth 20000 in
theorem gate_Signal {W : World} {b : Nat} {g : Gates} {c ch : Int} {all : Bool} (hg : GatesLen g) (hm : ∀ r ∈ g.cnd, ∀ w ∈ r, 0 ≤ w.mutex ∧ w.mutex < (g.mtx.length : Int)) : Fn Tryz.prog W 94 [ptr b, .int .i64 c, .int .i64 ch, .bool all] [gatesH b g] Value (fun u => .tuple #[u, .int .i64 (g.signal c ch all).2.1]) (fun _ => True) (fun u => [sl intE 1 u (g.signal c ch all).1, gatesH b (g.signal c ch all).2.2]) := by
  refine Fn.intro (N := 58) Tryz.func94 rfl Tryz.ntmps94 rfl fun F => ?_
  show GoC _ _ _ _ _ _ [gatesH b g, F]
  refine GoC.o3 (C := gatesH b g) .auto rfl ?_
  rintro vm vc vs -
  refine GoC.seq ?_
  refine GoC.region ?_
  refine GoL.y rfl (Y.assign rfl) ?_
  refine GoL.y rfl (Y.assign rfl) ?_
  refine GoL.nil ?_
  refine GoE.then_normal ?_
  refine GoC.seq ?_
  refine GoC.region ?_
  refine GoL.y rfl (Y.move rfl) ?_
  refine GoL.y rfl (Y.move rfl) ?_
  refine GoL.does rfl (Does.callE rfl Tryz.call126 rfl gate_cond .auto) ?_
  rintro _ _ ⟨⟨⟩, -, rfl, rfl⟩
  refine GoL.y rfl (Y.assign rfl) ?_
  refine GoL.nil ?_
  refine GoE.then_normal ?_
  refine GoC.seq ?_
  refine GoC.seq ?_
  refine GoC.region ?_
  refine GoL.y rfl (Y.move rfl) ?_
  refine GoL.y rfl (Y.eqPtrNil Tryz.underlying226 rfl rfl) ?_
  refine GoL.nil ?_
  refine GoE.then_normal ?_
  refine GoC.cond rfl (fun h19 => ?_) (fun h19 => ?_)
  · refine GoC.seq ?_
    refine GoC.region ?_
    refine GoL.y rfl (Y.assign rfl) ?_
    refine GoL.y rfl (Y.assign rfl) ?_
    refine GoL.nil ?_
    refine GoE.then_normal ?_
    refine GoC.ret ?_
    refine GoE.then_ret ?_
    rw [g_signal_no (isNone_no h19)]
    refine GoE.ret2 rfl rfl rfl fun w s => ⟨.slice none 0 0, ?_, trivial, finE .auto s⟩
    rfl
  · refine GoC.skip ?_
    refine GoE.then_normal ?_
    refine GoC.seq ?_
    refine GoC.region ?_
    have hmhr := isNone_yes h19
    rw [elP_some hmhr]
    obtain ⟨r, hr, hgr⟩ := geti_some hmhr
    refine GoL.fr .auto (cnd_out hr) ?_
    have hrl := hg.cw r (List.mem_of_getElem? hr)
    have hrm := hm r (List.mem_of_getElem? hr)
    refine GoL.o1 (C := rowH (blk vc) (ofs vc + c.toNat * 1) r) .auto rfl ?_
    rintro u0 -
    refine GoL.y rfl (Y.move rfl) ?_
    refine GoL.y rfl (Y.nilCheck rfl) ?_
    refine GoL.y rfl (Y.fieldAddrZ 168 Tryz.underlying170 rfl Tryz.sizeOf168 rfl) ?_
    refine GoL.y rfl (Y.load Tryz.isAgg168 rfl (Cell.az (by rfl))) ?_
    refine GoL.y rfl (Y.lenRd Tryz.underlying168 rfl Rd.s) ?_
    refine GoL.y rfl (Y.min2m rfl rfl) ?_
    refine GoL.y rfl (Y.assign rfl) ?_
    refine GoL.nil ?_
    refine GoE.then_normal ?_
    refine GoC.cutK (X := Unit) [2, 11, 26, 27, 28, 29, 30, 31] (fun _ => True) (fun _ => [(11, some (.int .i64 (((if all = true then r.length else min r.length 1) : Nat) : Int))), (2, some (.int .i64 (if all = true then 0 else ch)))]) (fun _ => [arr (blk vc) (ofs vc + c.toNat * 1) [u0], sl wtrE 2 u0 r, cndR vc g.cnd c.toNat, arr b 0 [vm, vc, vs], mtxsH vm g.mtx, smpsH vs g.sem, F]) ?_ ?_
    · refine GoC.seq ?_
      refine GoC.region ?_
      refine GoL.y rfl (Y.move rfl) ?_
      refine GoL.nil ?_
      refine GoE.then_normal ?_
      refine GoC.cond rfl (fun h26 => ?_) (fun h26 => ?_)
      · refine GoC.region ?_
        refine GoL.y rfl (Y.move rfl) ?_
        refine GoL.y rfl (Y.nilCheck rfl) ?_
        refine GoL.y rfl (Y.fieldAddrZ 168 Tryz.underlying170 rfl Tryz.sizeOf168 rfl) ?_
        refine GoL.y rfl (Y.load Tryz.isAgg168 rfl (Cell.az (by rfl))) ?_
        refine GoL.y rfl (Y.lenRd Tryz.underlying168 rfl Rd.s) ?_
        refine GoL.y rfl (Y.assign rfl) ?_
        refine GoL.y rfl (Y.assign rfl) ?_
        refine GoL.nil ?_
        refine GoE.midK () .auto ?_ ?_ ?_
        · trivial
        · subst h26; exact ⟨rfl, rfl, trivial⟩
        · exact fun w s => Ent.kept .auto w s
      · refine GoC.skip ?_
        refine GoE.midK () .auto ?_ ?_ ?_
        · trivial
        · rw [if_neg (by rw [h26]; simp), if_neg (by rw [h26]; simp)]; exact ⟨by show some _ = some _; congr 2; omega, rfl, trivial⟩
        · exact fun w s => Ent.kept .auto w s
    · rintro ⟨⟩ -
      obtain ⟨n0, hn0⟩ : ∃ n0, n0 = (if all = true then r.length else min r.length 1) := ⟨_, rfl⟩
      obtain ⟨c2, hc2⟩ : ∃ c2, c2 = (if all = true then 0 else ch) := ⟨_, rfl⟩
      have h0 : n0 ≤ r.length := by subst hn0; split <;> omega
      rw [← hn0, ← hc2]
      refine GoC.seq ?_
      refine GoC.region ?_
      refine GoL.y rfl (Y.assign rfl) ?_
      refine GoL.nil ?_
      refine GoE.then_normal ?_
      refine GoC.seq ?_
      refine GoC.seq ?_
      refine GoC.region ?_
      refine GoL.y rfl (Y.move rfl) ?_
      refine GoL.y rfl (Y.move rfl) ?_
      refine GoL.nil ?_
      refine GoE.then_normal ?_
      refine GoC.block ?_
      refine GoC.loopK (X := Nat × List Wtr × List Mtx × Value × List Int) [12, 13, 14, 33, 34, 35, 36, 37, 38, 39, 40, 41, 42, 43, 44, 45, 46, 47, 48, 49, 50, 51, 52, 53, 54, 55, 56] (fun z => n0 - z.1) (fun z => SigOk r g.mtx n0 c2 z.1 z.2.1 z.2.2.1 z.2.2.2.2) (fun z => [(33, some (.int .i64 (z.1 : Int))), (12, some z.2.2.2.1)]) (fun z => [rowH (blk vc) (ofs vc + c.toNat * 1) z.2.1, mtxsH vm z.2.2.1, sl intE 1 z.2.2.2.1 z.2.2.2.2, cndR vc g.cnd c.toNat, arr b 0 [vm, vc, vs], smpsH vs g.sem, F]) (0, r, g.mtx, .slice none 0 0, []) ?_ ?_ ?_ ?_
      · exact SigOk.zero hg.mw
      · exact ⟨rfl, rfl, trivial⟩
      · exact fun w s => Ent.kept .auto w s
      rintro ⟨k, r1, ms, u, out⟩ hS
      simp only at hS
      refine GoC.seq ?_
      refine GoC.region ?_
      refine GoL.y rfl (Y.lss rfl rfl) ?_
      refine GoL.nil ?_
      refine GoE.then_normal ?_
      refine GoC.seq ?_
      refine GoC.condD rfl (fun h34 => ?_) (fun h34 => ?_)
      · simp only at h34
        refine GoC.skip ?_
        refine GoE.then_normal ?_
        refine GoC.seq ?_
        refine GoC.block ?_
        refine GoC.seq ?_
        refine GoC.region ?_
        refine GoL.y rfl (Y.move rfl) ?_
        refine GoL.y rfl (Y.move rfl) ?_
        refine GoL.does rfl (Does.callE rfl Tryz.call127 rfl (row_take (l := r1) (by have := hS.len; omega)) .auto) ?_
        rintro _ _ ⟨⟨⟩, -, rfl, rfl⟩
        refine GoL.y rfl (Y.move rfl) ?_
        refine GoL.y rfl (Y.extract rfl rfl) ?_
        refine GoL.y rfl (Y.extract rfl rfl) ?_
        refine GoL.does rfl (Does.alloc rfl Tryz.zeroValue229 rfl) ?_
        rintro _ _ ⟨b13, rfl, rfl⟩
        refine GoL.does rfl (Does.sta (by exact Tryz.sizeOf229) rfl rfl rfl (by rfl)) ?_
        rintro _ _ ⟨rfl, rfl⟩
        refine GoL.y rfl (Y.assign rfl) ?_
        refine GoL.nil ?_
        refine GoE.then_normal ?_
        refine GoC.seq ?_
        refine GoC.draw [] [1, 1, 1, 1, 1, 1, 1, 1, 1, 3] rfl (by kernel_rfl) ?_
        obtain ⟨hw1, hw2, hw3⟩ := take_mem (l := r1) (c := c2) (by have := hS.len; omega)
        have hwm := hrm _ (hS.mem _ hw1)
        have hml := hS.ml
        obtain ⟨x, hx⟩ := at_some (show (takeW r1 c2).1.mutex.toNat < ms.length by omega)
        have hxl := hS.mw x (List.mem_of_getElem? hx)
        refine GoK.o1 (C := mtxsH vm ms) .auto rfl ?_
        rintro xs hxs
        have hxsl := map_len hxs
        refine GoK.s rfl (Y.move rfl) ?_
        refine GoK.s rfl (Y.nilCheck rfl) ?_
        refine GoK.s rfl (Y.fieldAddrZ 162 Tryz.underlying167 rfl Tryz.sizeOf162 rfl) ?_
        refine GoK.s rfl (Y.load Tryz.isAgg162 rfl (Cell.a (by rfl))) ?_
        refine GoK.s rfl (Y.fieldAddr0 1 3 Tryz.underlying229 rfl Tryz.sizeOf3 rfl) ?_
        refine GoK.s rfl (Y.load Tryz.isAgg3 rfl (Cell.a (by rfl))) ?_
        refine GoK.s rfl (Y.ixRd (takeW r1 c2).1.mutex.toNat Tryz.underlying162 Tryz.sizeOf233 rfl rfl Rd.s (by omega) (by omega)) ?_
        refine GoK.s rfl (Y.fieldAddrZ 3 Tryz.underlying229 rfl Tryz.sizeOf3 rfl) ?_
        refine GoK.s rfl (Y.load Tryz.isAgg3 rfl (Cell.a (by rfl))) ?_
        refine GoK.to (A := mtxsH vm ms) .auto (Bs := [sl mtxE 3 vm xs, allH (fun x => sl wtrE 2 x.1 x.2.wait) xs]) (fun h a => ⟨xs, hxs, a⟩) ?_
        refine GoK.fr .auto (mtx_out hx) ?_
        refine GoK.d3 rfl (Does.callE rfl Tryz.call128 rfl (mutex_lock (m := x) (by omega)) .auto) ?_
        rintro _ _ ⟨⟨⟩, -, rfl, rfl⟩
        refine GoK.to (A := mtxsH vm (ms.set (takeW r1 c2).1.mutex.toNat (x.lock (takeW r1 c2).1.who).2)) (Bs := [mtxAt (blk vm) (ofs vm + (takeW r1 c2).1.mutex.toNat * 3) (x.lock (takeW r1 c2).1.who).2, mtxR vm ms (takeW r1 c2).1.mutex.toNat]) .auto (mtx_in (x.lock (takeW r1 c2).1.who).2) ?_
        have hnx := hS.next (by omega) h0
        have hsl : sigL r1 c2 ms = x.lock (takeW r1 c2).1.who := by unfold sigL; rw [getD_of hx]
        rw [hsl] at hnx
        refine GoK.nil ?_
        refine GoE.then_normal ?_
        refine GoC.cond rfl (fun h50 => ?_) (fun h50 => ?_)
        · rw [if_pos h50] at hnx
          refine GoC.region ?_
          refine GoL.y rfl (Y.move rfl) ?_
          refine GoL.y rfl (Y.fieldAddrZ 3 Tryz.underlying229 rfl Tryz.sizeOf3 rfl) ?_
          refine GoL.y rfl (Y.load Tryz.isAgg3 rfl (Cell.a (by rfl))) ?_
          refine GoL.does rfl (Does.bsl 3 rfl rfl (by kernel_rfl)) ?_
          rintro _ _ ⟨b54, rfl, rfl⟩
          refine GoL.does rfl (Does.app1 (enc := intE) (k := 1) (takeW r1 c2).1.who rfl Tryz.underlying23 Tryz.underlying23 Tryz.typeInfo3 rfl rfl rfl (by decide) rfl rfl rfl .auto rfl .auto (by have := hS.ol; have := hS.hk; dsimp only; omega) rfl) ?_
          rintro _ _ ⟨v55, rfl, rfl⟩
          refine GoL.y rfl (Y.assign rfl) ?_
          refine GoL.nil ?_
          refine GoE.block_normal (GoE.then_normal ?_)
          refine GoC.region ?_
          refine GoL.y rfl (Y.inc rfl rfl (by omega)) ?_
          refine GoL.y rfl (Y.move rfl) ?_
          refine GoL.nil ?_
          refine GoE.againK (k + 1, (takeW r1 c2).2.2, ms.set (takeW r1 c2).1.mutex.toNat (x.lock (takeW r1 c2).1.who).2, v55, out ++ [(takeW r1 c2).1.who]) .auto rfl ?_ ?_ ?_ ?_
          · show n0 - (k + 1) < n0 - k; omega
          · exact hnx
          · exact ⟨rfl, rfl, trivial⟩
          · exact fun w s => Ent.kept .auto w s
        · rw [if_neg (by rw [h50]; simp)] at hnx
          refine GoC.skip ?_
          refine GoE.block_normal (GoE.then_normal ?_)
          refine GoC.region ?_
          refine GoL.y rfl (Y.inc rfl rfl (by omega)) ?_
          refine GoL.y rfl (Y.move rfl) ?_
          refine GoL.nil ?_
          refine GoE.againK (k + 1, (takeW r1 c2).2.2, ms.set (takeW r1 c2).1.mutex.toNat (x.lock (takeW r1 c2).1.who).2, u, out) .auto rfl ?_ ?_ ?_ ?_
          · show n0 - (k + 1) < n0 - k; omega
          · exact hnx
          · exact ⟨rfl, rfl, trivial⟩
          · exact fun w s => Ent.kept .auto w s
      · simp only at h34
        refine GoC.exit ?_
        refine GoE.then_exit (GoE.then_exit (GoE.block_here (GoE.then_normal ?_)))
        refine GoC.seq ?_
        refine GoC.region ?_
        refine GoL.y rfl (Y.move rfl) ?_
        refine GoL.y rfl (Y.assign rfl) ?_
        refine GoL.y rfl (Y.assign rfl) ?_
        refine GoL.nil ?_
        refine GoE.then_normal ?_
        refine GoC.ret ?_
        rw [g_signal_go (z := (r1, ms, out)) hgr (by rw [← hn0, ← hc2]; exact hS.done (by omega))]
        refine GoE.to (A := cndsH vc (g.cnd.set c.toNat r1)) (Bs := [rowH (blk vc) (ofs vc + c.toNat * 1) r1, cndR vc g.cnd c.toNat]) .auto (cnd_in r1) ?_
        refine GoE.ret2 rfl rfl rfl fun w s => ⟨u, ?_, trivial, finE .auto s⟩
        rfl

set_option maxRecDepth 20000 in
theorem gate_row1 {W : World} {b : Nat} {l : List Mtx} {n : Int} {vm vc vs : Value} : Fn Tryz.prog W 159 [ptr b, .int .i64 1, .int .i64 n] [arr b 0 [vm, vc, vs], mtxsH vm l] Unit (fun _ => elP vm l.length 3 n) (fun _ => True) (fun _ => [arr b 0 [vm, vc, vs], mtxsH vm l]) := by
  refine Fn.intro (N := 35) Tryz.func159 rfl Tryz.ntmps159 rfl fun F => ?_
  show GoC _ _ _ _ _ _ [arr b 0 [vm, vc, vs], mtxsH vm l, F]
  refine GoC.seq ?_
  refine GoC.region ?_
  refine GoL.y rfl (Y.assign rfl) ?_
  refine GoL.nil ?_
  refine GoE.then_normal ?_
  refine GoC.seq ?_
  refine GoC.seq ?_
  refine GoC.region ?_
  refine GoL.y rfl (Y.move rfl) ?_
  refine GoL.nil ?_
  refine GoE.then_normal ?_
  refine GoC.block ?_
  refine GoC.seq ?_
  refine GoC.region ?_
  refine GoL.y rfl (Y.eql rfl rfl) ?_
  refine GoL.y rfl (Y.assign rfl) ?_
  refine GoL.nil ?_
  refine GoE.then_normal ?_
  refine GoC.condD rfl (fun _ => ?_) (fun hc => absurd rfl hc)
  refine GoC.seq ?_
  refine GoC.region ?_
  refine GoL.y rfl (Y.move rfl) ?_
  refine GoL.y rfl (Y.move rfl) ?_
  refine GoL.does rfl (Does.callE rfl Tryz.call153 rfl gate_mutex .auto) ?_
  rintro _ _ ⟨⟨⟩, -, rfl, rfl⟩
  refine GoL.y rfl (Y.assign rfl) ?_
  refine GoL.nil ?_
  refine GoE.then_normal ?_
  refine GoC.seq ?_
  refine GoC.region ?_
  refine GoL.y rfl (Y.move rfl) ?_
  refine GoL.y rfl (Y.neqPtrNil Tryz.underlying250 rfl rfl) ?_
  refine GoL.nil ?_
  refine GoE.then_normal ?_
  refine GoC.cond rfl (fun h16 => ?_) (fun h16 => ?_)
  · refine GoC.seq ?_
    refine GoC.region ?_
    have hm := isNone_yes2 h16
    rw [elP_some hm]
    refine GoL.y rfl (Y.move rfl) ?_
    refine GoL.y rfl (Y.nilCheck rfl) ?_
    refine GoL.y rfl (Y.fieldAddrZ 170 Tryz.underlying233 rfl Tryz.sizeOf170 rfl) ?_
    refine GoL.y rfl (Y.assign rfl) ?_
    refine GoL.nil ?_
    refine GoE.then_normal ?_
    refine GoC.ret ?_
    refine GoE.block_ret (GoE.then_ret ?_)
    refine GoE.ret1 rfl rfl fun w s => ⟨(), ?_, trivial, finE .auto s⟩
    rfl
  · refine GoC.skip ?_
    refine GoE.block_normal (GoE.then_normal ?_)
    refine GoC.seq ?_
    refine GoC.region ?_
    refine GoL.y rfl (Y.assign rfl) ?_
    refine GoL.nil ?_
    refine GoE.then_normal ?_
    refine GoC.ret ?_
    refine GoE.ret1 rfl rfl fun w s => ⟨(), ?_, trivial, finE .auto s⟩
    rw [elP_nil (isNone_no2 h16)]

set_option maxRecDepth 20000 in
theorem gate_Waiters1 {W : World} {b : Nat} {g : Gates} {n : Nat} {x : Mtx} (hx : g.mtx[n]? = some x) (hl : x.wait.length ≤ 1000000) : Fn Tryz.prog W 129 [ptr b, .int .i64 1, .int .i64 (n : Int)] [gatesH b g] Value (fun u => u) (fun _ => True) (fun u => [sl intE 1 u (x.wait.map (·.who)), gatesH b g]) := by
  refine Fn.intro (N := 33) Tryz.func129 rfl Tryz.ntmps129 rfl fun F => ?_
  show GoC _ _ _ _ _ _ [gatesH b g, F]
  refine GoC.o3 (C := gatesH b g) .auto rfl ?_
  rintro vm vc vs -
  have hn := (List.getElem?_eq_some_iff.1 hx).1
  refine GoC.seq ?_
  refine GoC.region ?_
  refine GoL.y rfl (Y.assign rfl) ?_
  refine GoL.nil ?_
  refine GoE.then_normal ?_
  refine GoC.seq ?_
  refine GoC.region ?_
  refine GoL.y rfl (Y.move rfl) ?_
  refine GoL.y rfl (Y.move rfl) ?_
  refine GoL.y rfl (Y.move rfl) ?_
  refine GoL.does rfl (Does.callE rfl Tryz.call159 rfl gate_row1 .auto) ?_
  rintro _ _ ⟨⟨⟩, -, rfl, rfl⟩
  refine GoL.y rfl (Y.assign rfl) ?_
  refine GoL.nil ?_
  refine GoE.then_normal ?_
  refine GoC.seq ?_
  refine GoC.seq ?_
  refine GoC.region ?_
  refine GoL.y rfl (Y.move rfl) ?_
  refine GoL.y rfl (Y.eqPtrNil Tryz.underlying226 rfl rfl) ?_
  refine GoL.nil ?_
  refine GoE.then_normal ?_
  refine GoC.cond rfl (fun h16 => ?_) (fun h16 => ?_)
  · exact absurd (show (0 : Int) ≤ (n : Int) ∧ (n : Int) < (g.mtx.length : Int) by omega) (isNone_no h16)
  · refine GoC.skip ?_
    refine GoE.then_normal ?_
    refine GoC.seq ?_
    refine GoC.region ?_
    refine GoL.y rfl (Y.assign rfl) ?_
    refine GoL.nil ?_
    refine GoE.then_normal ?_
    refine GoC.seq ?_
    refine GoC.seq ?_
    refine GoC.region ?_
    rw [elP_some (by omega), Int.toNat_natCast]
    refine GoL.fr .auto (mtx_out hx) ?_
    refine GoL.o1 (C := mtxAt (blk vm) (ofs vm + n * 3) x) .auto rfl ?_
    rintro u0 -
    refine GoL.y rfl (Y.move rfl) ?_
    refine GoL.y rfl (Y.nilCheck rfl) ?_
    refine GoL.y rfl (Y.fieldAddrZ 168 Tryz.underlying170 rfl Tryz.sizeOf168 rfl) ?_
    refine GoL.y rfl (Y.load Tryz.isAgg168 rfl (Cell.az (by rfl))) ?_
    refine GoL.y rfl (Y.lenRd Tryz.underlying168 rfl Rd.s) ?_
    refine GoL.y rfl (Y.move rfl) ?_
    refine GoL.nil ?_
    refine GoE.then_normal ?_
    refine GoC.block ?_
    refine GoC.loopK (X := Nat × Value) [8, 10, 22, 23, 24, 25, 26, 27, 28, 29, 30, 31] (fun z => x.wait.length - z.1) (fun z => z.1 ≤ x.wait.length) (fun z => [(22, some (.int .i64 (z.1 : Int))), (8, some z.2)]) (fun z => [sl intE 1 z.2 ((x.wait.map (·.who)).take z.1), arr (blk vm) (ofs vm + n * 3) [u0, .bool x.held, .int .i64 x.owner], sl wtrE 2 u0 x.wait, mtxR vm g.mtx n, arr b 0 [vm, vc, vs], cndsH vc g.cnd, smpsH vs g.sem, F]) (0, .slice none 0 0) ?_ ?_ ?_ ?_
    · exact Nat.zero_le _
    · exact ⟨rfl, rfl, trivial⟩
    · exact fun w s => Ent.kept .auto w s
    rintro ⟨k, u⟩ hk
    simp only at hk
    refine GoC.seq ?_
    refine GoC.region ?_
    refine GoL.y rfl (Y.lss rfl rfl) ?_
    refine GoL.nil ?_
    refine GoE.then_normal ?_
    refine GoC.seq ?_
    refine GoC.condD rfl (fun h23 => ?_) (fun h23 => ?_)
    · refine GoC.skip ?_
      refine GoE.then_normal ?_
      refine GoC.seq ?_
      refine GoC.block ?_
      refine GoC.seq ?_
      refine GoC.region ?_
      obtain ⟨w, hw⟩ := at_some (show k < x.wait.length by omega)
      refine GoL.y rfl (Y.ixRd _ Tryz.underlying168 Tryz.sizeOf229 rfl rfl Rd.s rfl (by first | omega | decide)) ?_
      refine GoL.y rfl (Y.lda Tryz.isAgg229 rfl (Cells.rd Rd.s ‹_›) (by exact Tryz.sizeOf229)) ?_
      refine GoL.does rfl (Does.alloc rfl Tryz.zeroValue229 rfl) ?_
      rintro _ _ ⟨b10, rfl, rfl⟩
      refine GoL.does rfl (Does.sta (by exact Tryz.sizeOf229) rfl rfl rfl (by rfl)) ?_
      rintro _ _ ⟨rfl, rfl⟩
      refine GoL.nil ?_
      refine GoE.then_normal ?_
      refine GoC.region ?_
      refine GoL.y rfl (Y.move rfl) ?_
      refine GoL.y rfl (Y.fieldAddrZ 3 Tryz.underlying229 rfl Tryz.sizeOf3 rfl) ?_
      refine GoL.y rfl (Y.load Tryz.isAgg3 rfl (Cell.a (by rfl))) ?_
      refine GoL.does rfl (Does.bsl 3 rfl rfl (by kernel_rfl)) ?_
      rintro _ _ ⟨b29, rfl, rfl⟩
      refine GoL.does rfl (Does.app1 (enc := intE) (k := 1) w.who rfl Tryz.underlying23 Tryz.underlying23 Tryz.typeInfo3 rfl rfl rfl (by decide) rfl rfl rfl .auto rfl .auto (by rw [List.length_take, List.length_map]; omega) rfl) ?_
      rintro _ _ ⟨v30, rfl, rfl⟩
      refine GoL.y rfl (Y.assign rfl) ?_
      refine GoL.nil ?_
      refine GoE.block_normal (GoE.then_normal ?_)
      refine GoC.region ?_
      refine GoL.y rfl (Y.inc rfl rfl (by omega)) ?_
      refine GoL.y rfl (Y.move rfl) ?_
      refine GoL.nil ?_
      refine GoE.againK (k + 1, v30) .auto rfl ?_ ?_ ?_ ?_
      · show x.wait.length - (k + 1) < x.wait.length - k; omega
      · show k + 1 ≤ _; omega
      · exact ⟨rfl, rfl, trivial⟩
      · show ∀ w, Sat _ w _ → Sat _ w (seps [sl intE 1 v30 ((x.wait.map (·.who)).take (k + 1)), _, _, _, _, _, _, F])
        rw [take_snoc (show (x.wait.map (·.who))[k]? = some w.who by rw [List.getElem?_map, hw]; rfl)]
        exact fun w s => Ent.kept .auto w s
    · refine GoC.exit ?_
      refine GoE.then_exit (GoE.then_exit (GoE.block_here (GoE.then_normal ?_)))
      refine GoC.seq ?_
      refine GoC.region ?_
      refine GoL.y rfl (Y.move rfl) ?_
      refine GoL.y rfl (Y.assign rfl) ?_
      refine GoL.nil ?_
      refine GoE.then_normal ?_
      refine GoC.ret ?_
      obtain rfl : k = x.wait.length := by omega
      rw [List.take_of_length_le (by simp)]
      refine GoE.to (A := mtxsH vm g.mtx) (Bs := [mtxAt (blk vm) (ofs vm + n * 3) x, mtxR vm g.mtx n]) .auto (mtx_back hx) ?_
      refine GoE.ret1 rfl rfl fun w s => ⟨_, ?_, trivial, finE .auto s⟩
      rfl

end Go.SLYtpcjdohmjmeehaaGreat
namespace Go.SLYtpcjdohmjmeehaaGreat
open Go Go.RowKit Go.Proofs

set_option maxRecDepth 20000 in
theorem putter_f {W : World} {A : HProp} {x : Ptr} {c : Nat} {who : Int} : Fn Tryz.prog W 235 [.agg (putE x).toArray, ptr c] [seps [arr c 0 [.int .i64 who], A]] Unit (fun _ => .bool (decide (x.who = who))) (fun _ => True) (fun _ => [seps [arr c 0 [.int .i64 who], A]]) := by
  refine Fn.intro (N := 8) Tryz.func235 rfl Tryz.ntmps235 rfl fun F => ?_
  show GoC _ _ _ _ _ _ [seps [arr c 0 [.int .i64 who], A], F]
  refine GoC.ungrp .auto ?_
  refine GoC.seq ?_
  refine GoC.region ?_
  refine GoL.does rfl (Does.box rfl rfl rfl) ?_
  rintro _ _ ⟨b2, rfl, rfl⟩
  refine GoL.y rfl (Y.assign rfl) ?_
  refine GoL.nil ?_
  refine GoE.then_normal ?_
  refine GoC.seq ?_
  refine GoC.region ?_
  refine GoL.y rfl (Y.fieldAddrZ 3 Tryz.underlying301 rfl Tryz.sizeOf3 rfl) ?_
  refine GoL.y rfl (Y.load Tryz.isAgg3 rfl (Cell.a (by rfl))) ?_
  refine GoL.y rfl (Y.load Tryz.isAgg3 rfl (Cell.a (by rfl))) ?_
  refine GoL.y rfl (Y.eql rfl rfl) ?_
  refine GoL.y rfl (Y.assign rfl) ?_
  refine GoL.nil ?_
  refine GoE.then_normal ?_
  refine GoC.ret ?_
  refine GoE.ret1 rfl rfl fun w s => ⟨(), ?_, trivial, finE .auto s⟩
  rfl

set_option maxRecDepth 20000 in
theorem tube_waits {W : World} {b : Nat} {t : Tub} {who : Int} (hl : TubLen t) : Fn Tryz.prog W 206 [ptr b, .int .i64 who] [tubH b t] Unit (fun _ => .bool (t.waits who)) (fun _ => True) (fun _ => [tubH b t]) := by
  refine Fn.intro (N := 19) Tryz.func206 rfl Tryz.ntmps206 rfl fun F => ?_
  show GoC _ _ _ _ _ _ [tubH b t, F]
  refine GoC.o3 (C := tubH b t) .auto rfl ?_
  rintro vw vp vg -
  obtain ⟨hl1, hl2, hl3⟩ := hl
  refine GoC.seq ?_
  refine GoC.region ?_
  refine GoL.does rfl (Does.box rfl rfl rfl) ?_
  rintro _ _ ⟨b3, rfl, rfl⟩
  refine GoL.y rfl (Y.assign rfl) ?_
  refine GoL.nil ?_
  refine GoE.then_normal ?_
  refine GoC.seq ?_
  refine GoC.draw [] [1, 1, 1, 1, 1, 3, 1, 1, 1, 1, 1, 1, 3, 1, 1] rfl (by kernel_rfl) ?_
  refine GoK.s rfl (Y.move rfl) ?_
  refine GoK.s rfl (Y.nilCheck rfl) ?_
  refine GoK.s rfl (Y.fieldAddr0 3 23 Tryz.underlying181 rfl Tryz.sizeOf23 rfl) ?_
  refine GoK.s rfl (Y.load Tryz.isAgg23 rfl (Cell.a (by rfl))) ?_
  refine GoK.s rfl (Y.load Tryz.isAgg3 rfl (Cell.a (by rfl))) ?_
  refine GoK.d3 rfl (Does.callE rfl Tryz.call233 rfl (ContainsI (A := sl intE 1 vg t.gets) (Rd.sl .here) (by omega)) .auto) ?_
  rintro _ _ ⟨⟨⟩, -, rfl, rfl⟩
  refine GoK.s rfl (Y.move rfl) ?_
  apply GoK.segO 7 18 11 [11, 12, 13, 14, 15, 16, 17, 18] rfl
  · intro h11
    refine GoK.sg rfl rfl rfl (Y.move rfl) ?_
    refine GoK.sg rfl rfl rfl (Y.nilCheck rfl) ?_
    refine GoK.sg rfl rfl rfl (Y.fieldAddr0 2 179 Tryz.underlying181 rfl Tryz.sizeOf179 rfl) ?_
    refine GoK.sg rfl rfl rfl (Y.load Tryz.isAgg179 rfl (Cell.a (by rfl))) ?_
    refine GoK.sg rfl rfl rfl (Y.makeFunc rfl rfl) ?_
    refine GoK.dg rfl rfl rfl (Does.callE rfl Tryz.call234 rfl (ContainsFuncP (A := seps [arr b3 0 [.int .i64 who], sl putE 2 vp t.puts]) (p := fun p => decide (p.who = who)) (Rd.grp (Rd.sl (.there .here))) (by omega) Tryz.call235 (fun x _ => putter_f)) .auto) ?_
    rintro _ _ ⟨⟨⟩, -, rfl, rfl⟩
    refine GoK.ungrp .auto ?_
    refine GoK.s rfl (Y.pickF rfl rfl) ?_
    refine GoK.nil ?_
    refine GoE.seg .auto rfl (by first | exact fun _ h => h | exact Ent.kept .auto)
  · intro h11
    refine GoK.sskip rfl rfl rfl rfl ?_
    refine GoK.sskip rfl rfl rfl rfl ?_
    refine GoK.sskip rfl rfl rfl rfl ?_
    refine GoK.sskip rfl rfl rfl rfl ?_
    refine GoK.sskip rfl rfl rfl rfl ?_
    refine GoK.dskip rfl rfl rfl rfl ?_
    refine GoK.s rfl (Y.pickT rfl rfl) ?_
    refine GoK.nil ?_
    refine GoE.seg .auto rfl (by first | exact fun _ h => h | exact Ent.kept .auto)
  refine GoK.s rfl (Y.assign rfl) ?_
  refine GoK.nil ?_
  refine GoE.then_normal ?_
  refine GoC.ret ?_
  refine GoE.ret1 rfl rfl fun w s => ⟨(), ?_, trivial, finE .auto s⟩
  rfl

set_option maxRecDepth 20000 in
theorem firstI {W : World} {b i : Nat} {cs : List Value} {v : Value} {xs : List Int} {x : Int} (hi : cs[i]? = some v) (hx : xs[0]? = some x) (hl : xs.length ≤ 1000000) : Fn Tryz.prog W 207 [.pointer (some ⟨b, i, none⟩)] [arr b 0 cs, sl intE 1 v xs] Value (fun _ => .int .i64 x) (fun _ => True) (fun u => [arr b 0 (cs.set i u), sl intE 1 u (xs.eraseIdx 0)]) := by
  refine Fn.intro (N := 16) Tryz.func207 rfl Tryz.ntmps207 rfl fun F => ?_
  show GoC _ _ _ _ _ _ [arr b 0 cs, sl intE 1 v xs, F]
  have hil := (List.getElem?_eq_some_iff.1 hi).1
  have hxl := (List.getElem?_eq_some_iff.1 hx).1
  refine GoC.seq ?_
  refine GoC.region ?_
  refine GoL.y rfl (Y.assign rfl) ?_
  refine GoL.nil ?_
  refine GoE.then_normal ?_
  refine GoC.seq ?_
  refine GoC.region ?_
  refine GoL.y rfl (Y.move rfl) ?_
  refine GoL.y rfl (Y.nilCheck rfl) ?_
  refine GoL.y rfl (Y.load Tryz.isAgg23 rfl (Cell.a hi)) ?_
  refine GoL.y rfl (Y.ixRd _ Tryz.underlying23 Tryz.sizeOf3 rfl rfl Rd.s rfl (by first | omega | decide)) ?_
  refine GoL.y rfl (Y.load Tryz.isAgg3 rfl (Cell.rd0 Rd.s ‹_› (by rfl))) ?_
  refine GoL.y rfl (Y.assign rfl) ?_
  refine GoL.nil ?_
  refine GoE.then_normal ?_
  refine GoC.seq ?_
  refine GoC.region ?_
  refine GoL.y rfl (Y.move rfl) ?_
  refine GoL.y rfl (Y.move rfl) ?_
  refine GoL.y rfl (Y.nilCheck rfl) ?_
  refine GoL.y rfl (Y.load Tryz.isAgg23 rfl (Cell.a hi)) ?_
  refine GoL.does rfl (Does.callE rfl Tryz.call236 rfl (DeleteI (i := 0) hxl (by omega)) .auto) ?_
  rintro _ _ ⟨u13, -, rfl, rfl⟩
  refine GoL.y rfl (Y.nilCheck rfl) ?_
  refine GoL.does rfl (Does.stS Tryz.sizeOf23 rfl rfl (Nat.blt_eq.mpr hil)) ?_
  rintro _ _ ⟨rfl, rfl⟩
  refine GoL.nil ?_
  refine GoE.then_normal ?_
  refine GoC.seq ?_
  refine GoC.region ?_
  refine GoL.y rfl (Y.move rfl) ?_
  refine GoL.y rfl (Y.assign rfl) ?_
  refine GoL.nil ?_
  refine GoE.then_normal ?_
  refine GoC.ret ?_
  refine GoE.ret1 rfl rfl fun w s => ⟨u13, ?_, trivial, finE .auto s⟩
  rfl

set_option maxRecDepth 20000 in
theorem firstW {W : World} {b i : Nat} {cs : List Value} {v : Value} {xs : List Int} {x : Int} (hi : cs[i]? = some v) (hx : xs[0]? = some x) (hl : xs.length ≤ 1000000) : Fn Tryz.prog W 208 [.pointer (some ⟨b, i, none⟩)] [arr b 0 cs, sl wrdE 1 v xs] Value (fun _ => .int .u64 x) (fun _ => True) (fun u => [arr b 0 (cs.set i u), sl wrdE 1 u (xs.eraseIdx 0)]) := by
  refine Fn.intro (N := 16) Tryz.func208 rfl Tryz.ntmps208 rfl fun F => ?_
  show GoC _ _ _ _ _ _ [arr b 0 cs, sl wrdE 1 v xs, F]
  have hil := (List.getElem?_eq_some_iff.1 hi).1
  have hxl := (List.getElem?_eq_some_iff.1 hx).1
  refine GoC.seq ?_
  refine GoC.region ?_
  refine GoL.y rfl (Y.assign rfl) ?_
  refine GoL.nil ?_
  refine GoE.then_normal ?_
  refine GoC.seq ?_
  refine GoC.region ?_
  refine GoL.y rfl (Y.move rfl) ?_
  refine GoL.y rfl (Y.nilCheck rfl) ?_
  refine GoL.y rfl (Y.load Tryz.isAgg51 rfl (Cell.a hi)) ?_
  refine GoL.y rfl (Y.ixRd _ Tryz.underlying51 Tryz.sizeOf43 rfl rfl Rd.s rfl (by first | omega | decide)) ?_
  refine GoL.y rfl (Y.load Tryz.isAgg43 rfl (Cell.rd0 Rd.s ‹_› (by rfl))) ?_
  refine GoL.y rfl (Y.assign rfl) ?_
  refine GoL.nil ?_
  refine GoE.then_normal ?_
  refine GoC.seq ?_
  refine GoC.region ?_
  refine GoL.y rfl (Y.move rfl) ?_
  refine GoL.y rfl (Y.move rfl) ?_
  refine GoL.y rfl (Y.nilCheck rfl) ?_
  refine GoL.y rfl (Y.load Tryz.isAgg51 rfl (Cell.a hi)) ?_
  refine GoL.does rfl (Does.callE rfl Tryz.call237 rfl (DeleteW (i := 0) hxl (by omega)) .auto) ?_
  rintro _ _ ⟨u13, -, rfl, rfl⟩
  refine GoL.y rfl (Y.nilCheck rfl) ?_
  refine GoL.does rfl (Does.stS Tryz.sizeOf51 rfl rfl (Nat.blt_eq.mpr hil)) ?_
  rintro _ _ ⟨rfl, rfl⟩
  refine GoL.nil ?_
  refine GoE.then_normal ?_
  refine GoC.seq ?_
  refine GoC.region ?_
  refine GoL.y rfl (Y.move rfl) ?_
  refine GoL.y rfl (Y.assign rfl) ?_
  refine GoL.nil ?_
  refine GoE.then_normal ?_
  refine GoC.ret ?_
  refine GoE.ret1 rfl rfl fun w s => ⟨u13, ?_, trivial, finE .auto s⟩
  rfl

set_option maxRecDepth 20000 in
theorem firstP {W : World} {b i : Nat} {cs : List Value} {v : Value} {xs : List Ptr} {x : Ptr} (hi : cs[i]? = some v) (hx : xs[0]? = some x) (hl : xs.length ≤ 1000000) : Fn Tryz.prog W 209 [.pointer (some ⟨b, i, none⟩)] [arr b 0 cs, sl putE 2 v xs] Value (fun _ => .agg (putE x).toArray) (fun _ => True) (fun u => [arr b 0 (cs.set i u), sl putE 2 u (xs.eraseIdx 0)]) := by
  refine Fn.intro (N := 16) Tryz.func209 rfl Tryz.ntmps209 rfl fun F => ?_
  show GoC _ _ _ _ _ _ [arr b 0 cs, sl putE 2 v xs, F]
  have hil := (List.getElem?_eq_some_iff.1 hi).1
  have hxl := (List.getElem?_eq_some_iff.1 hx).1
  refine GoC.seq ?_
  refine GoC.region ?_
  refine GoL.does rfl (Does.alloc rfl Tryz.zeroValue301 rfl) ?_
  rintro _ _ ⟨b2, rfl, rfl⟩
  refine GoL.nil ?_
  refine GoE.then_normal ?_
  refine GoC.seq ?_
  refine GoC.region ?_
  refine GoL.y rfl (Y.move rfl) ?_
  refine GoL.y rfl (Y.nilCheck rfl) ?_
  refine GoL.y rfl (Y.load Tryz.isAgg179 rfl (Cell.a hi)) ?_
  refine GoL.y rfl (Y.ixRd _ Tryz.underlying179 Tryz.sizeOf301 rfl rfl Rd.s rfl (by first | omega | decide)) ?_
  refine GoL.y rfl (Y.lda Tryz.isAgg301 rfl (Cells.rd Rd.s ‹_›) (by exact Tryz.sizeOf301)) ?_
  refine GoL.does rfl (Does.alloc rfl Tryz.zeroValue301 rfl) ?_
  rintro _ _ ⟨b3, rfl, rfl⟩
  refine GoL.does rfl (Does.sta (by exact Tryz.sizeOf301) rfl rfl rfl (by rfl)) ?_
  rintro _ _ ⟨rfl, rfl⟩
  refine GoL.nil ?_
  refine GoE.then_normal ?_
  refine GoC.seq ?_
  refine GoC.region ?_
  refine GoL.y rfl (Y.move rfl) ?_
  refine GoL.y rfl (Y.move rfl) ?_
  refine GoL.y rfl (Y.nilCheck rfl) ?_
  refine GoL.y rfl (Y.load Tryz.isAgg179 rfl (Cell.a hi)) ?_
  refine GoL.does rfl (Does.callE rfl Tryz.call238 rfl (DeleteP (i := 0) hxl (by omega)) .auto) ?_
  rintro _ _ ⟨u13, -, rfl, rfl⟩
  refine GoL.y rfl (Y.nilCheck rfl) ?_
  refine GoL.does rfl (Does.stS Tryz.sizeOf179 rfl rfl (Nat.blt_eq.mpr hil)) ?_
  rintro _ _ ⟨rfl, rfl⟩
  refine GoL.nil ?_
  refine GoE.then_normal ?_
  refine GoC.seq ?_
  refine GoC.region ?_
  refine GoL.y rfl (Y.lda Tryz.isAgg301 rfl Cells.a (by exact Tryz.sizeOf301)) ?_
  refine GoL.does rfl (Does.sta (by exact Tryz.sizeOf301) rfl rfl rfl (by rfl)) ?_
  rintro _ _ ⟨rfl, rfl⟩
  refine GoL.nil ?_
  refine GoE.then_normal ?_
  refine GoC.ret ?_
  refine GoE.retC rfl rfl Tryz.isAgg301 (by exact Tryz.sizeOf301) Cells.a fun w s => ⟨u13, ?_, trivial, finE .auto s⟩
  rfl

set_option maxRecDepth 20000 in
theorem tube_Put {W : World} {b : Nat} {t : Tub} {who : Int} (hl : TubLen t) {x : Int} : Fn Tryz.prog W 162 [ptr b, .int .i64 who, .int .u64 x] [tubH b t] Unit (fun _ => .tuple #[.bool (t.put who x).1, .int .i64 (t.put who x).2.1, .bool (t.put who x).2.2.1]) (fun _ => True) (fun _ => [tubH b (t.put who x).2.2.2]) := by
  refine Fn.intro (N := 61) Tryz.func162 rfl Tryz.ntmps162 rfl fun F => ?_
  show GoC _ _ _ _ _ _ [tubH b t, F]
  refine GoC.seq ?_
  refine GoC.region ?_
  refine GoL.y rfl (Y.assign rfl) ?_
  refine GoL.y rfl (Y.assign rfl) ?_
  refine GoL.y rfl (Y.assign rfl) ?_
  refine GoL.nil ?_
  refine GoE.then_normal ?_
  refine GoC.seq ?_
  refine GoC.block ?_
  refine GoC.seq ?_
  refine GoC.region ?_
  refine GoL.y rfl (Y.move rfl) ?_
  refine GoL.y rfl (Y.eqPtrNil Tryz.underlying124 rfl rfl) ?_
  refine GoL.y rfl (Y.move rfl) ?_
  refine GoL.yg rfl rfl rfl (Y.move rfl) ?_
  refine GoL.yg rfl rfl rfl (Y.move rfl) ?_
  refine GoL.dg rfl rfl rfl (Does.callE rfl Tryz.call206 rfl (tube_waits hl) .auto) ?_
  rintro _ _ ⟨⟨⟩, -, rfl, rfl⟩
  refine GoL.y rfl (Y.pickF rfl rfl) ?_
  refine GoL.y rfl (Y.assign rfl) ?_
  refine GoL.nil ?_
  refine GoE.then_normal ?_
  refine GoC.cond rfl (fun h9 => ?_) (fun h9 => ?_)
  · refine GoC.seq ?_
    refine GoC.region ?_
    refine GoL.y rfl (Y.assign rfl) ?_
    refine GoL.y rfl (Y.assign rfl) ?_
    refine GoL.y rfl (Y.assign rfl) ?_
    refine GoL.nil ?_
    refine GoE.then_normal ?_
    refine GoC.ret ?_
    refine GoE.block_ret (GoE.then_ret ?_)
    rw [put_waits h9]
    refine GoE.ret3 rfl rfl rfl rfl fun w s => ⟨(), ?_, trivial, finE .auto s⟩
    rfl
  · refine GoC.seq ?_
    refine GoC.region ?_
    refine GoL.o3 (C := tubH b t) .auto rfl ?_
    rintro vw vp vg -
    obtain ⟨hl1, hl2, hl3⟩ := hl
    refine GoL.y rfl (Y.move rfl) ?_
    refine GoL.y rfl (Y.nilCheck rfl) ?_
    refine GoL.y rfl (Y.fieldAddr0 3 23 Tryz.underlying181 rfl Tryz.sizeOf23 rfl) ?_
    refine GoL.y rfl (Y.load Tryz.isAgg23 rfl (Cell.a (by rfl))) ?_
    refine GoL.y rfl (Y.lenRd Tryz.underlying23 rfl Rd.s) ?_
    refine GoL.y rfl (Y.gtr rfl rfl) ?_
    refine GoL.y rfl (Y.assign rfl) ?_
    refine GoL.nil ?_
    refine GoE.then_normal ?_
    refine GoC.condD rfl (fun h17 => ?_) (fun h17 => ?_)
    · refine GoC.seq ?_
      refine GoC.region ?_
      obtain ⟨w, r, hw⟩ := cons_of (l := t.gets) (by omega)
      refine GoL.y rfl (Y.move rfl) ?_
      refine GoL.y rfl (Y.nilCheck rfl) ?_
      refine GoL.y rfl (Y.fieldAddr0 3 23 Tryz.underlying181 rfl Tryz.sizeOf23 rfl) ?_
      refine GoL.does rfl (Does.callE rfl Tryz.call207 rfl (firstI (i := 3) (v := vg) (xs := t.gets) (x := w) rfl (by rw [hw]; rfl) (by omega)) .auto) ?_
      rintro _ _ ⟨u27, -, rfl, rfl⟩
      rw [show t.gets.eraseIdx 0 = r from by rw [hw]; rfl]
      refine GoL.y rfl (Y.assign rfl) ?_
      refine GoL.y rfl (Y.assign rfl) ?_
      refine GoL.y rfl (Y.assign rfl) ?_
      refine GoL.nil ?_
      refine GoE.then_normal ?_
      refine GoC.ret ?_
      refine GoE.block_ret (GoE.then_ret ?_)
      rw [put_get h9 hw]
      refine GoE.ret3 rfl rfl rfl rfl fun w s => ⟨(), ?_, trivial, finE .auto s⟩
      rfl
    · refine GoC.seq ?_
      refine GoC.draw [] [1, 1, 1, 1, 1, 1, 1, 1, 1, 1, 1] rfl (by kernel_rfl) ?_
      have hg0 : t.gets = [] := nil_of (by omega)
      refine GoK.s rfl (Y.move rfl) ?_
      refine GoK.s rfl (Y.nilCheck rfl) ?_
      refine GoK.s rfl (Y.fieldAddr0 1 51 Tryz.underlying181 rfl Tryz.sizeOf51 rfl) ?_
      refine GoK.s rfl (Y.load Tryz.isAgg51 rfl (Cell.a (by rfl))) ?_
      refine GoK.s rfl (Y.lenRd Tryz.underlying51 rfl Rd.s) ?_
      refine GoK.s rfl (Y.move rfl) ?_
      refine GoK.s rfl (Y.nilCheck rfl) ?_
      refine GoK.s rfl (Y.fieldAddrZ 3 Tryz.underlying181 rfl Tryz.sizeOf3 rfl) ?_
      refine GoK.s rfl (Y.load Tryz.isAgg3 rfl (Cell.a (by rfl))) ?_
      refine GoK.s rfl (Y.lss rfl rfl) ?_
      refine GoK.s rfl (Y.assign rfl) ?_
      refine GoK.nil ?_
      refine GoE.then_normal ?_
      refine GoC.condD rfl (fun h28 => ?_) (fun h28 => ?_)
      · refine GoC.seq ?_
        refine GoC.region ?_
        refine GoL.y rfl (Y.move rfl) ?_
        refine GoL.y rfl (Y.move rfl) ?_
        refine GoL.y rfl (Y.nilCheck rfl) ?_
        refine GoL.y rfl (Y.fieldAddr0 1 51 Tryz.underlying181 rfl Tryz.sizeOf51 rfl) ?_
        refine GoL.y rfl (Y.load Tryz.isAgg51 rfl (Cell.a (by rfl))) ?_
        refine GoL.y rfl (Y.move rfl) ?_
        refine GoL.does rfl (Does.bsl 43 rfl rfl (by kernel_rfl)) ?_
        rintro _ _ ⟨b45, rfl, rfl⟩
        refine GoL.does rfl (Does.app1 (enc := wrdE) (k := 1) x rfl Tryz.underlying51 Tryz.underlying51 Tryz.typeInfo43 rfl rfl rfl (by decide) rfl rfl rfl .auto rfl .auto (by omega) rfl) ?_
        rintro _ _ ⟨v46, rfl, rfl⟩
        refine GoL.y rfl (Y.nilCheck rfl) ?_
        refine GoL.y rfl (Y.fieldAddr0 1 51 Tryz.underlying181 rfl Tryz.sizeOf51 rfl) ?_
        refine GoL.does rfl (Does.stS Tryz.sizeOf51 rfl rfl rfl) ?_
        rintro _ _ ⟨rfl, rfl⟩
        refine GoL.nil ?_
        refine GoE.then_normal ?_
        refine GoC.seq ?_
        refine GoC.region ?_
        refine GoL.y rfl (Y.assign rfl) ?_
        refine GoL.y rfl (Y.assign rfl) ?_
        refine GoL.y rfl (Y.assign rfl) ?_
        refine GoL.nil ?_
        refine GoE.then_normal ?_
        refine GoC.ret ?_
        refine GoE.block_ret (GoE.then_ret ?_)
        rw [put_room h9 hg0 h28]
        refine GoE.ret3 rfl rfl rfl rfl fun w s => ⟨(), ?_, trivial, finE .auto s⟩
        rfl
      · refine GoC.skip ?_
        refine GoE.block_normal (GoE.then_normal ?_)
        refine GoC.seq ?_
        refine GoC.region ?_
        refine GoL.y rfl (Y.move rfl) ?_
        refine GoL.y rfl (Y.move rfl) ?_
        refine GoL.y rfl (Y.nilCheck rfl) ?_
        refine GoL.y rfl (Y.fieldAddr0 2 179 Tryz.underlying181 rfl Tryz.sizeOf179 rfl) ?_
        refine GoL.y rfl (Y.load Tryz.isAgg179 rfl (Cell.a (by rfl))) ?_
        refine GoL.y rfl (Y.move rfl) ?_
        refine GoL.y rfl (Y.move rfl) ?_
        refine GoL.y rfl (Y.bld2 (fun v1 v2 => [v1, v2]) rfl rfl (by kernel_rfl)) ?_
        refine GoL.does rfl (Does.bsl 301 rfl rfl (by kernel_rfl)) ?_
        rintro _ _ ⟨b57, rfl, rfl⟩
        refine GoL.does rfl (Does.app1 (enc := putE) (k := 2) (⟨who, x⟩ : Ptr) rfl Tryz.underlying179 Tryz.underlying179 Tryz.typeInfo301 rfl rfl rfl (by decide) rfl rfl rfl .auto rfl .auto (by omega) rfl) ?_
        rintro _ _ ⟨v58, rfl, rfl⟩
        refine GoL.y rfl (Y.nilCheck rfl) ?_
        refine GoL.y rfl (Y.fieldAddr0 2 179 Tryz.underlying181 rfl Tryz.sizeOf179 rfl) ?_
        refine GoL.does rfl (Does.stS Tryz.sizeOf179 rfl rfl rfl) ?_
        rintro _ _ ⟨rfl, rfl⟩
        refine GoL.nil ?_
        refine GoE.then_normal ?_
        refine GoC.seq ?_
        refine GoC.region ?_
        refine GoL.y rfl (Y.assign rfl) ?_
        refine GoL.y rfl (Y.assign rfl) ?_
        refine GoL.y rfl (Y.assign rfl) ?_
        refine GoL.nil ?_
        refine GoE.then_normal ?_
        refine GoC.ret ?_
        rw [put_full h9 hg0 h28]
        refine GoE.ret3 rfl rfl rfl rfl fun w s => ⟨(), ?_, trivial, finE .auto s⟩
        rfl

set_option maxRecDepth 20000 in
theorem tube_Get {W : World} {b : Nat} {t : Tub} {who : Int} (hl : TubLen t) : Fn Tryz.prog W 163 [ptr b, .int .i64 who] [tubH b t] Unit (fun _ => .tuple #[.int .u64 (t.get who).1, .bool (t.get who).2.1, .int .i64 (t.get who).2.2.1, .bool (t.get who).2.2.2.1]) (fun _ => True) (fun _ => [tubH b (t.get who).2.2.2.2]) := by
  refine Fn.intro (N := 64) Tryz.func163 rfl Tryz.ntmps163 rfl fun F => ?_
  show GoC _ _ _ _ _ _ [tubH b t, F]
  refine GoC.seq ?_
  refine GoC.region ?_
  refine GoL.y rfl (Y.assign rfl) ?_
  refine GoL.y rfl (Y.assign rfl) ?_
  refine GoL.y rfl (Y.assign rfl) ?_
  refine GoL.y rfl (Y.assign rfl) ?_
  refine GoL.nil ?_
  refine GoE.then_normal ?_
  refine GoC.seq ?_
  refine GoC.block ?_
  refine GoC.seq ?_
  refine GoC.region ?_
  refine GoL.y rfl (Y.move rfl) ?_
  refine GoL.y rfl (Y.eqPtrNil Tryz.underlying124 rfl rfl) ?_
  refine GoL.y rfl (Y.move rfl) ?_
  refine GoL.yg rfl rfl rfl (Y.move rfl) ?_
  refine GoL.yg rfl rfl rfl (Y.move rfl) ?_
  refine GoL.dg rfl rfl rfl (Does.callE rfl Tryz.call206 rfl (tube_waits hl) .auto) ?_
  rintro _ _ ⟨⟨⟩, -, rfl, rfl⟩
  refine GoL.y rfl (Y.pickF rfl rfl) ?_
  refine GoL.y rfl (Y.assign rfl) ?_
  refine GoL.nil ?_
  refine GoE.then_normal ?_
  refine GoC.cond rfl (fun h10 => ?_) (fun h10 => ?_)
  · refine GoC.seq ?_
    refine GoC.region ?_
    refine GoL.y rfl (Y.assign rfl) ?_
    refine GoL.y rfl (Y.assign rfl) ?_
    refine GoL.y rfl (Y.assign rfl) ?_
    refine GoL.y rfl (Y.assign rfl) ?_
    refine GoL.nil ?_
    refine GoE.then_normal ?_
    refine GoC.ret ?_
    refine GoE.block_ret (GoE.then_ret ?_)
    rw [get_waits h10]
    refine GoE.ret4 rfl rfl rfl rfl rfl fun w s => ⟨(), ?_, trivial, finE .auto s⟩
    rfl
  · refine GoC.seq ?_
    refine GoC.region ?_
    refine GoL.o3 (C := tubH b t) .auto rfl ?_
    rintro vw vp vg -
    obtain ⟨hl1, hl2, hl3⟩ := hl
    refine GoL.y rfl (Y.move rfl) ?_
    refine GoL.y rfl (Y.nilCheck rfl) ?_
    refine GoL.y rfl (Y.fieldAddr0 1 51 Tryz.underlying181 rfl Tryz.sizeOf51 rfl) ?_
    refine GoL.y rfl (Y.load Tryz.isAgg51 rfl (Cell.a (by rfl))) ?_
    refine GoL.y rfl (Y.lenRd Tryz.underlying51 rfl Rd.s) ?_
    refine GoL.y rfl (Y.eql rfl rfl) ?_
    refine GoL.y rfl (Y.assign rfl) ?_
    refine GoL.nil ?_
    refine GoE.then_normal ?_
    refine GoC.condD rfl (fun h18 => ?_) (fun h18 => ?_)
    · refine GoC.seq ?_
      refine GoC.region ?_
      have hw0 : t.words = [] := nil_of (by omega)
      refine GoL.y rfl (Y.move rfl) ?_
      refine GoL.y rfl (Y.move rfl) ?_
      refine GoL.y rfl (Y.nilCheck rfl) ?_
      refine GoL.y rfl (Y.fieldAddr0 3 23 Tryz.underlying181 rfl Tryz.sizeOf23 rfl) ?_
      refine GoL.y rfl (Y.load Tryz.isAgg23 rfl (Cell.a (by rfl))) ?_
      refine GoL.y rfl (Y.move rfl) ?_
      refine GoL.does rfl (Does.bsl 3 rfl rfl (by kernel_rfl)) ?_
      rintro _ _ ⟨b31, rfl, rfl⟩
      refine GoL.does rfl (Does.app1 (enc := intE) (k := 1) who rfl Tryz.underlying23 Tryz.underlying23 Tryz.typeInfo3 rfl rfl rfl (by decide) rfl rfl rfl .auto rfl .auto (by omega) rfl) ?_
      rintro _ _ ⟨v32, rfl, rfl⟩
      refine GoL.y rfl (Y.nilCheck rfl) ?_
      refine GoL.y rfl (Y.fieldAddr0 3 23 Tryz.underlying181 rfl Tryz.sizeOf23 rfl) ?_
      refine GoL.does rfl (Does.stS Tryz.sizeOf23 rfl rfl rfl) ?_
      rintro _ _ ⟨rfl, rfl⟩
      refine GoL.nil ?_
      refine GoE.then_normal ?_
      refine GoC.seq ?_
      refine GoC.region ?_
      refine GoL.y rfl (Y.assign rfl) ?_
      refine GoL.y rfl (Y.assign rfl) ?_
      refine GoL.y rfl (Y.assign rfl) ?_
      refine GoL.y rfl (Y.assign rfl) ?_
      refine GoL.nil ?_
      refine GoE.then_normal ?_
      refine GoC.ret ?_
      refine GoE.block_ret (GoE.then_ret ?_)
      rw [get_none h10 hw0]
      refine GoE.ret4 rfl rfl rfl rfl rfl fun w s => ⟨(), ?_, trivial, finE .auto s⟩
      rfl
    · refine GoC.skip ?_
      refine GoE.block_normal (GoE.then_normal ?_)
      refine GoC.seq ?_
      refine GoC.region ?_
      obtain ⟨x, r, hw⟩ := cons_of (l := t.words) (by omega)
      refine GoL.y rfl (Y.move rfl) ?_
      refine GoL.y rfl (Y.nilCheck rfl) ?_
      refine GoL.y rfl (Y.fieldAddr0 1 51 Tryz.underlying181 rfl Tryz.sizeOf51 rfl) ?_
      refine GoL.does rfl (Does.callE rfl Tryz.call208 rfl (firstW (i := 1) (v := vw) (xs := t.words) (x := x) rfl (by rw [hw]; rfl) (by omega)) .auto) ?_
      rintro _ _ ⟨u38, -, rfl, rfl⟩
      rw [show t.words.eraseIdx 0 = r from by rw [hw]; rfl]
      refine GoL.y rfl (Y.assign rfl) ?_
      refine GoL.nil ?_
      refine GoE.then_normal ?_
      refine GoC.seq ?_
      refine GoC.seq ?_
      refine GoC.region ?_
      refine GoL.y rfl (Y.move rfl) ?_
      refine GoL.y rfl (Y.nilCheck rfl) ?_
      refine GoL.y rfl (Y.fieldAddr0 2 179 Tryz.underlying181 rfl Tryz.sizeOf179 rfl) ?_
      refine GoL.y rfl (Y.load Tryz.isAgg179 rfl (Cell.a (by rfl))) ?_
      refine GoL.y rfl (Y.lenRd Tryz.underlying179 rfl Rd.s) ?_
      refine GoL.y rfl (Y.eql rfl rfl) ?_
      refine GoL.nil ?_
      refine GoE.then_normal ?_
      refine GoC.condD rfl (fun h44 => ?_) (fun h44 => ?_)
      · refine GoC.seq ?_
        refine GoC.region ?_
        refine GoL.y rfl (Y.move rfl) ?_
        refine GoL.y rfl (Y.assign rfl) ?_
        refine GoL.y rfl (Y.assign rfl) ?_
        refine GoL.y rfl (Y.assign rfl) ?_
        refine GoL.y rfl (Y.assign rfl) ?_
        refine GoL.nil ?_
        refine GoE.then_normal ?_
        refine GoC.ret ?_
        refine GoE.then_ret ?_
        rw [get_one h10 hw (nil_of (by omega))]
        refine GoE.ret4 rfl rfl rfl rfl rfl fun w s => ⟨(), ?_, trivial, finE .auto s⟩
        rfl
      · refine GoC.skip ?_
        refine GoE.then_normal ?_
        refine GoC.seq ?_
        refine GoC.region ?_
        obtain ⟨p, q, hp⟩ := cons_of (l := t.puts) (by omega)
        refine GoL.y rfl (Y.move rfl) ?_
        refine GoL.y rfl (Y.nilCheck rfl) ?_
        refine GoL.y rfl (Y.fieldAddr0 2 179 Tryz.underlying181 rfl Tryz.sizeOf179 rfl) ?_
        refine GoL.does rfl (Does.callE rfl Tryz.call209 rfl (firstP (i := 2) (v := vp) (xs := t.puts) (x := p) rfl (by rw [hp]; rfl) (by omega)) .auto) ?_
        rintro _ _ ⟨u49, -, rfl, rfl⟩
        rw [show t.puts.eraseIdx 0 = q from by rw [hp]; rfl]
        refine GoL.does rfl (Does.alloc rfl Tryz.zeroValue301 rfl) ?_
        rintro _ _ ⟨b9, rfl, rfl⟩
        refine GoL.does rfl (Does.sta (by exact Tryz.sizeOf301) rfl rfl rfl (by rfl)) ?_
        rintro _ _ ⟨rfl, rfl⟩
        refine GoL.nil ?_
        refine GoE.then_normal ?_
        refine GoC.seq ?_
        refine GoC.draw [arr b 0 [.int .i64 t.room, u38, u49, vg], arr b9 0 (putE p)] [0, 0, 0, 0, 0, 1, 1, 2, 2, 1, 1, 3] rfl (by kernel_rfl) ?_
        refine GoK.k rfl Kept.auto (Y.move rfl) ?_
        refine GoK.k rfl Kept.auto (Y.move rfl) ?_
        refine GoK.k rfl Kept.auto (Y.nilCheck rfl) ?_
        refine GoK.k rfl Kept.auto (Y.fieldAddr0 1 51 Tryz.underlying181 rfl Tryz.sizeOf51 rfl) ?_
        refine GoK.k rfl Kept.auto (Y.load Tryz.isAgg51 rfl (Cell.a (by rfl))) ?_
        refine GoK.s rfl (Y.fieldAddr0 1 43 Tryz.underlying301 rfl Tryz.sizeOf43 rfl) ?_
        refine GoK.s rfl (Y.load Tryz.isAgg43 rfl (Cell.a (by rfl))) ?_
        refine GoK.d2 rfl Kept.auto (Does.bsl 43 rfl rfl (by kernel_rfl)) (by rintro _ _ ⟨b57, rfl, rfl⟩; exact Kept.auto) ?_
        rintro _ _ ⟨b57, rfl, rfl⟩
        refine GoK.d2 rfl Kept.auto (Does.app1 (enc := wrdE) (k := 1) p.x rfl Tryz.underlying51 Tryz.underlying51 Tryz.typeInfo43 rfl rfl rfl (by decide) rfl rfl rfl .auto rfl .auto (by have h5 : r.length + 1 = t.words.length := (by rw [hw]; rfl); omega) rfl) (by rintro _ _ ⟨v58, rfl, rfl⟩; exact Kept.auto) ?_
        rintro _ _ ⟨v58, rfl, rfl⟩
        refine GoK.s rfl (Y.nilCheck rfl) ?_
        refine GoK.s rfl (Y.fieldAddr0 1 51 Tryz.underlying181 rfl Tryz.sizeOf51 rfl) ?_
        refine GoK.d3 rfl (Does.stS Tryz.sizeOf51 rfl rfl rfl) ?_
        rintro _ _ ⟨rfl, rfl⟩
        refine GoK.nil ?_
        refine GoE.then_normal ?_
        refine GoC.seq ?_
        refine GoC.draw [] [1, 1, 1, 1, 1, 1, 1] rfl (by kernel_rfl) ?_
        refine GoK.s rfl (Y.move rfl) ?_
        refine GoK.s rfl (Y.fieldAddrZ 3 Tryz.underlying301 rfl Tryz.sizeOf3 rfl) ?_
        refine GoK.s rfl (Y.load Tryz.isAgg3 rfl (Cell.a (by rfl))) ?_
        refine GoK.s rfl (Y.assign rfl) ?_
        refine GoK.s rfl (Y.assign rfl) ?_
        refine GoK.s rfl (Y.assign rfl) ?_
        refine GoK.s rfl (Y.assign rfl) ?_
        refine GoK.nil ?_
        refine GoE.then_normal ?_
        refine GoC.ret ?_
        rw [get_two h10 hw hp]
        refine GoE.ret4 rfl rfl rfl rfl rfl fun w s => ⟨(), ?_, trivial, finE .auto s⟩
        rfl

set_option maxRecDepth 20000 in
theorem ask_f {W : World} {A : HProp} {x r : Rqs} {c : Nat} : Fn Tryz.prog W 205 [.agg (rqsE x).toArray, ptr c] [seps [arr c 0 (rqsE r), A]] Unit (fun _ => .bool (decide (x.who = r.who))) (fun _ => True) (fun _ => [seps [arr c 0 (rqsE r), A]]) := by
  refine Fn.intro (N := 9) Tryz.func205 rfl Tryz.ntmps205 rfl fun F => ?_
  show GoC _ _ _ _ _ _ [seps [arr c 0 (rqsE r), A], F]
  refine GoC.ungrp .auto ?_
  refine GoC.seq ?_
  refine GoC.region ?_
  refine GoL.does rfl (Does.box rfl rfl rfl) ?_
  rintro _ _ ⟨b2, rfl, rfl⟩
  refine GoL.mem (H' := [arr b2 0 (rqsE x), arr c 0 (rqsE r), A, F]) (fun w s => s) ?_
  refine GoL.y rfl (Y.assign rfl) ?_
  refine GoL.nil ?_
  refine GoE.then_normal ?_
  refine GoC.seq ?_
  refine GoC.region ?_
  refine GoL.y rfl (Y.fieldAddrZ 3 Tryz.underlying142 rfl Tryz.sizeOf3 rfl) ?_
  refine GoL.y rfl (Y.load Tryz.isAgg3 rfl (Cell.a (by rfl))) ?_
  refine GoL.y rfl (Y.fieldAddrZ 3 Tryz.underlying142 rfl Tryz.sizeOf3 rfl) ?_
  refine GoL.y rfl (Y.load Tryz.isAgg3 rfl (Cell.a (by rfl))) ?_
  refine GoL.y rfl (Y.eql rfl rfl) ?_
  refine GoL.y rfl (Y.assign rfl) ?_
  refine GoL.nil ?_
  refine GoE.then_normal ?_
  refine GoC.ret ?_
  refine GoE.ret1 rfl rfl fun w s => ⟨(), ?_, trivial, finE .auto s⟩
  rfl

set_option maxRecDepth 20000 in
theorem disk_Ask {W : World} {b : Nat} {d : Dsk} {r : Rqs} (hl : d.wait.length ≤ 1000000) : Fn Tryz.prog W 161 [ptr b, .agg (rqsE r).toArray] [dskH b d] Unit (fun _ => .int .i64 (d.ask r).1) (fun _ => True) (fun _ => [dskH b (d.ask r).2]) := by
  refine Fn.intro (N := 40) Tryz.func161 rfl Tryz.ntmps161 rfl fun F => ?_
  show GoC _ _ _ _ _ _ [dskH b d, F]
  refine GoC.o2 (C := dskH b d) .auto rfl ?_
  rintro vb vw -
  refine GoC.seq ?_
  refine GoC.region ?_
  refine GoL.does rfl (Does.box rfl rfl rfl) ?_
  rintro _ _ ⟨b3, rfl, rfl⟩
  refine GoL.mem (H' := [arr b3 0 (rqsE r), arr b 0 [vb, vw], sl wrdE 1 vb d.blocks, sl rqsE 4 vw d.wait, F]) (fun w s => s) ?_
  refine GoL.y rfl (Y.assign rfl) ?_
  refine GoL.nil ?_
  refine GoE.then_normal ?_
  refine GoC.seq ?_
  refine GoC.block ?_
  refine GoC.seq ?_
  refine GoC.draw [] [1, 1, 1, 1, 1, 1, 1, 1, 1, 1, 1, 1, 1, 1, 1, 1, 1, 1] rfl (by kernel_rfl) ?_
  refine GoK.s rfl (Y.move rfl) ?_
  refine GoK.s rfl (Y.eqPtrNil Tryz.underlying110 rfl rfl) ?_
  refine GoK.s rfl (Y.move rfl) ?_
  refine GoK.sg rfl rfl rfl (Y.fieldAddr0 1 3 Tryz.underlying142 rfl Tryz.sizeOf3 rfl) ?_
  refine GoK.sg rfl rfl rfl (Y.load Tryz.isAgg3 rfl (Cell.a (by rfl))) ?_
  refine GoK.sg rfl rfl rfl (Y.lss rfl rfl) ?_
  refine GoK.s rfl (Y.pickF rfl rfl) ?_
  refine GoK.s rfl (Y.move rfl) ?_
  apply GoK.segOD 9 22 13 [13, 14, 15, 16, 17, 18, 19, 20, 21, 22] rfl
  · intro h13
    refine GoK.sg rfl rfl rfl (Y.fieldAddr0 1 3 Tryz.underlying142 rfl Tryz.sizeOf3 rfl) ?_
    refine GoK.sg rfl rfl rfl (Y.load Tryz.isAgg3 rfl (Cell.a (by rfl))) ?_
    refine GoK.sg rfl rfl rfl (Y.move rfl) ?_
    refine GoK.sg rfl rfl rfl (Y.nilCheck rfl) ?_
    refine GoK.sg rfl rfl rfl (Y.fieldAddrZ 51 Tryz.underlying175 rfl Tryz.sizeOf51 rfl) ?_
    refine GoK.sg rfl rfl rfl (Y.load Tryz.isAgg51 rfl (Cell.a (by rfl))) ?_
    refine GoK.sg rfl rfl rfl (Y.lenRd Tryz.underlying51 rfl Rd.s) ?_
    refine GoK.sg rfl rfl rfl (Y.geq rfl rfl) ?_
    refine GoK.s rfl (Y.pickF rfl rfl) ?_
    refine GoK.nil ?_
    refine GoE.seg .auto rfl (by first | exact fun _ h => h | exact Ent.kept .auto)
  · intro h13
    refine GoK.sskip rfl rfl rfl rfl ?_
    refine GoK.sskip rfl rfl rfl rfl ?_
    refine GoK.sskip rfl rfl rfl rfl ?_
    refine GoK.sskip rfl rfl rfl rfl ?_
    refine GoK.sskip rfl rfl rfl rfl ?_
    refine GoK.sskip rfl rfl rfl rfl ?_
    refine GoK.sskip rfl rfl rfl rfl ?_
    refine GoK.sskip rfl rfl rfl rfl ?_
    refine GoK.s rfl (Y.pickT rfl rfl) ?_
    refine GoK.nil ?_
    refine GoE.seg .auto rfl (by first | exact fun _ h => h | exact Ent.kept .auto)
  refine GoK.s rfl (Y.assign rfl) ?_
  refine GoK.nil ?_
  refine GoE.then_normal ?_
  refine GoC.cond rfl (fun h5 => ?_) (fun h5 => ?_)
  · refine GoC.seq ?_
    refine GoC.region ?_
    refine GoL.y rfl (Y.assign rfl) ?_
    refine GoL.nil ?_
    refine GoE.then_normal ?_
    refine GoC.ret ?_
    refine GoE.block_ret (GoE.then_ret ?_)
    rw [ask_arg h5]
    refine GoE.ret1 rfl rfl fun w s => ⟨(), ?_, trivial, finE .auto s⟩
    rfl
  · refine GoC.seq ?_
    refine GoC.region ?_
    refine GoL.y rfl (Y.move rfl) ?_
    refine GoL.y rfl (Y.nilCheck rfl) ?_
    refine GoL.y rfl (Y.fieldAddr0 1 173 Tryz.underlying175 rfl Tryz.sizeOf173 rfl) ?_
    refine GoL.y rfl (Y.load Tryz.isAgg173 rfl (Cell.a (by rfl))) ?_
    refine GoL.y rfl (Y.makeFunc rfl rfl) ?_
    refine GoL.does rfl (Does.callE rfl Tryz.call204 rfl (ContainsFuncQ (A := seps [arr b3 0 (rqsE r), sl rqsE 4 vw d.wait]) (p := fun x => decide (x.who = r.who)) (Rd.grp (Rd.sl (.there .here))) (by omega) Tryz.call205 (fun x _ => ask_f)) .auto) ?_
    rintro _ _ ⟨⟨⟩, -, rfl, rfl⟩
    refine GoL.ungrp .auto ?_
    refine GoL.y rfl (Y.assign rfl) ?_
    refine GoL.nil ?_
    refine GoE.then_normal ?_
    refine GoC.cond rfl (fun h23 => ?_) (fun h23 => ?_)
    · refine GoC.seq ?_
      refine GoC.region ?_
      refine GoL.y rfl (Y.assign rfl) ?_
      refine GoL.nil ?_
      refine GoE.then_normal ?_
      refine GoC.ret ?_
      refine GoE.block_ret (GoE.then_ret ?_)
      rw [ask_busy h5 h23]
      refine GoE.ret1 rfl rfl fun w s => ⟨(), ?_, trivial, finE .auto s⟩
      rfl
    · refine GoC.skip ?_
      refine GoE.block_normal (GoE.then_normal ?_)
      refine GoC.seq ?_
      refine GoC.draw [arr b 0 [vb, vw], arr b3 0 (rqsE r)] [0, 0, 0, 0, 0, 1, 2, 2, 1, 1, 3] rfl (by kernel_rfl) ?_
      refine GoK.k rfl Kept.auto (Y.move rfl) ?_
      refine GoK.k rfl Kept.auto (Y.move rfl) ?_
      refine GoK.k rfl Kept.auto (Y.nilCheck rfl) ?_
      refine GoK.k rfl Kept.auto (Y.fieldAddr0 1 173 Tryz.underlying175 rfl Tryz.sizeOf173 rfl) ?_
      refine GoK.k rfl Kept.auto (Y.load Tryz.isAgg173 rfl (Cell.a (by rfl))) ?_
      refine GoK.s rfl (Y.lda Tryz.isAgg142 rfl Cells.a (by exact Tryz.sizeOf142)) ?_
      refine GoK.d2 rfl Kept.auto (Does.bsl 142 rfl rfl (by kernel_rfl)) (by rintro _ _ ⟨b36, rfl, rfl⟩; exact Kept.auto) ?_
      rintro _ _ ⟨b36, rfl, rfl⟩
      refine GoK.mem (H' := [arr b36 0 (rqsE r), arr b3 0 (rqsE r), sl rqsE 4 vw d.wait, arr b 0 [vb, vw], sl wrdE 1 vb d.blocks, F]) (fun w s => s) ?_
      refine GoK.d2 rfl Kept.auto (Does.app1 (enc := rqsE) (k := 4) r rfl Tryz.underlying173 Tryz.underlying173 Tryz.typeInfo142 rfl rfl rfl (by decide) rfl rfl rfl .auto rfl .auto (by omega) rfl) (by rintro _ _ ⟨v37, rfl, rfl⟩; exact Kept.auto) ?_
      rintro _ _ ⟨v37, rfl, rfl⟩
      refine GoK.s rfl (Y.nilCheck rfl) ?_
      refine GoK.s rfl (Y.fieldAddr0 1 173 Tryz.underlying175 rfl Tryz.sizeOf173 rfl) ?_
      refine GoK.d3 rfl (Does.stS Tryz.sizeOf173 rfl rfl rfl) ?_
      rintro _ _ ⟨rfl, rfl⟩
      refine GoK.nil ?_
      refine GoE.then_normal ?_
      refine GoC.seq ?_
      refine GoC.region ?_
      refine GoL.y rfl (Y.assign rfl) ?_
      refine GoL.nil ?_
      refine GoE.then_normal ?_
      refine GoC.ret ?_
      rw [ask_go h5 h23]
      refine GoE.ret1 rfl rfl fun w s => ⟨(), ?_, trivial, finE .auto s⟩
      rfl

end Go.SLYtpcjdohmjmeehaaGreat
namespace Go.SLYtpcjdohmjmeehaaGreat
open Go Go.RowKit Go.MapKept

def entI (e : MapEntry) : Int × Int := (match e.key with | .int _ k => k | _ => 0, match e.val with | .int _ k => k | _ => 0)
/-- Where a key is. -/
def findI (k : Int) : List (Int × Int) → Nat → Option (Nat × Value)
  | [], _ => none
  | p :: l, i => if k = p.1 then some (i, .int .i64 p.2) else findI k l (i + 1)
theorem find_now {k : Int} : ∀ {es : List MapEntry} {l : List (Int × Int)} {i : Nat}, es.map (fun e => (e.key, e.val)) = l.map (fun p => (Value.int .i64 p.1, Value.int .i64 p.2)) → Instr.findNow (.int .i64) (.int .i64 k) es i = some (findI k l i)
  | [], [], _, _ => rfl
  | [], _ :: _, _, h => by cases h
  | _ :: _, [], _, h => by cases h
  | e :: es, p :: l, i, h => by
    simp only [List.map_cons, List.cons.injEq, Prod.mk.injEq] at h
    obtain ⟨⟨hk, hv⟩, ht⟩ := h
    unfold Instr.findNow findI
    rw [hk, hv]
    by_cases e : k = p.1
    · subst e; simp [Instr.sameNow]
    · simp only [Instr.sameNow, if_pos, if_neg e]
      rw [show (k == p.1) = false from by simpa using e]
      exact find_now ht
theorem findI_get {k : Int} : ∀ (l : List (Int × Int)) (i : Nat), (findI k l i).map (·.2) = (mapGet l k).map (Value.int .i64)
  | [], _ => rfl
  | p :: l, i => by
    unfold findI mapGet
    rw [List.find?_cons]
    by_cases e : k = p.1
    · rw [if_pos e]; simp [e]
    · rw [if_neg e, show decide (p.1 = k) = false from by simpa using fun h => e h.symm]
      exact findI_get l (i + 1)
theorem findI_at {k : Int} : ∀ {l : List (Int × Int)} {i j : Nat} {v : Value}, findI k l i = some (j, v) → ∃ n v', j = i + n ∧ l[n]? = some (k, v') ∧ ∀ v'', mapSet l k v'' = l.set n (k, v'')
  | [], _, _, _, h => by cases h
  | p :: l, i, j, v, h => by
    unfold findI at h
    by_cases e : k = p.1
    · rw [if_pos e] at h; cases h
      exact ⟨0, p.2, rfl, by rw [e]; rfl, fun v'' => by rw [mapSet, if_pos e.symm]; rfl⟩
    · rw [if_neg e] at h
      obtain ⟨n, v', h1, h2, h3⟩ := findI_at h
      exact ⟨n + 1, v', by omega, by simpa using h2, fun v'' => by rw [mapSet, if_neg (fun h => e h.symm), h3]; rfl⟩
theorem findI_no {k : Int} : ∀ {l : List (Int × Int)} {i : Nat}, findI k l i = none → (∀ p ∈ l, p.1 ≠ k) ∧ ∀ v, mapSet l k v = l ++ [(k, v)]
  | [], _, _ => ⟨fun p hp => (by cases hp), fun v => rfl⟩
  | p :: l, i, h => by
    unfold findI at h
    by_cases e : k = p.1
    · rw [if_pos e] at h; cases h
    · rw [if_neg e] at h
      obtain ⟨h1, h2⟩ := findI_no h
      refine ⟨fun q hq => ?_, fun v => by rw [mapSet, if_neg (fun h => e h.symm), h2]; rfl⟩
      rcases List.mem_cons.1 hq with rfl | hq
      · exact fun h => e h.symm
      · exact h1 q hq
theorem mem_modify {α : Type} {l : List α} {n : Nat} {f : α → α} {x : α} (h : x ∈ l.modify n f) : x ∈ l ∨ ∃ y ∈ l, x = f y := by
  induction l generalizing n with
  | nil => simp at h
  | cons y l ih =>
    cases n with
    | zero =>
      rw [List.modify_zero_cons] at h
      rcases List.mem_cons.1 h with rfl | h
      · exact .inr ⟨y, by simp, rfl⟩
      · exact .inl (.tail _ h)
    | succ n =>
      rw [List.modify_succ_cons] at h
      rcases List.mem_cons.1 h with rfl | h
      · exact .inl (by simp)
      · rcases ih h with h | ⟨z, hz, rfl⟩
        · exact .inl (.tail _ h)
        · exact .inr ⟨z, .tail _ hz, rfl⟩
theorem map_modify {α β : Type} {l : List α} {n : Nat} {f : α → α} {g : α → β} (h : ∀ x, g (f x) = g x) : (l.modify n f).map g = l.map g := by
  induction l generalizing n with
  | nil => simp
  | cons y l ih =>
    cases n with
    | zero => simp [h]
    | succ n => simp [ih]
theorem map_modify_set {α β : Type} {l : List α} {n : Nat} {f : α → α} {g : α → β} {b : β} (h : ∀ x, g (f x) = b) : (l.modify n f).map g = (l.map g).set n b := by
  induction l generalizing n with
  | nil => simp
  | cons y l ih =>
    cases n with
    | zero => simp [h]
    | succ n => simp [ih]
theorem set_fst {l : List (Int × Int)} {n : Nat} {k v v' : Int} (h : l[n]? = some (k, v')) : (l.set n (k, v)).map (·.1) = l.map (·.1) := by
  rw [List.map_set]
  exact set_same (by rw [List.getElem?_map, h]; rfl)
theorem ok_set {es : List MapEntry} {c n : Nat} {l : List (Int × Int)} {k v v' : Int} (h : mapOk es c l) (hn : l[n]? = some (k, v')) :
    mapOk (es.modify n fun e => { e with key := .int .i64 k, val := .int .i64 v }) c (l.set n (k, v)) := by
  obtain ⟨h1, h2, h3, h4⟩ := h
  refine ⟨?_, by rw [set_fst hn]; exact h2, fun e he => ?_, ?_⟩
  · rw [map_modify_set (f := fun e : MapEntry => { e with key := .int .i64 k, val := .int .i64 v }) (g := fun e : MapEntry => (e.key, e.val)) (b := (Value.int .i64 k, Value.int .i64 v)) (fun _ => rfl), h1, List.map_set]
  · rcases mem_modify he with he | ⟨y, hy, rfl⟩
    · exact h3 e he
    · exact h3 y hy
  · rw [map_modify (f := fun e : MapEntry => { e with key := .int .i64 k, val := .int .i64 v }) (g := fun e : MapEntry => e.born) (fun _ => rfl)]; exact h4
theorem ok_push {es : List MapEntry} {c : Nat} {l : List (Int × Int)} {k v : Int} (h : mapOk es c l) (hn : ∀ p ∈ l, p.1 ≠ k) :
    mapOk (es ++ [{ key := .int .i64 k, val := .int .i64 v, born := c }]) (c + 1) (l ++ [(k, v)]) := by
  obtain ⟨h1, h2, h3, h4⟩ := h
  refine ⟨by simp [h1], ?_, fun e he => ?_, ?_⟩
  · rw [List.map_append, List.nodup_append]
    refine ⟨h2, by simp, fun a ha b hb => ?_⟩
    obtain ⟨p, hp, rfl⟩ := List.mem_map.1 ha
    simp only [List.map_cons, List.map_nil, List.mem_cons, List.not_mem_nil, or_false] at hb
    subst hb; exact hn p hp
  · rcases List.mem_append.1 he with he | he
    · have := h3 e he; omega
    · simp only [List.mem_cons, List.not_mem_nil, or_false] at he; subst he; exact Nat.lt_succ_self _
  · rw [List.map_append, List.nodup_append]
    refine ⟨h4, by simp, fun a ha b hb => ?_⟩
    obtain ⟨e, he, rfl⟩ := List.mem_map.1 ha
    simp only [List.map_cons, List.map_nil, List.mem_cons, List.not_mem_nil, or_false] at hb
    subst hb; have := h3 e he; omega
theorem del_at {l : List (Int × Int)} {n : Nat} {k v : Int} (hd : (l.map (·.1)).Nodup) (h : l[n]? = some (k, v)) : mapDel l k = l.eraseIdx n := by
  induction l generalizing n with
  | nil => simp at h
  | cons p l ih =>
    simp only [List.map_cons, List.nodup_cons] at hd
    cases n with
    | zero =>
      simp at h; subst h
      unfold mapDel
      rw [List.filter_cons, if_neg (by simp), List.eraseIdx_cons_zero, List.filter_eq_self]
      intro q hq
      have : q.1 ≠ k := fun e => hd.1 (List.mem_map.2 ⟨q, hq, e⟩)
      simpa using this
    | succ n =>
      have hn : l[n]? = some (k, v) := by simpa using h
      have hm : k ∈ l.map (·.1) := List.mem_map.2 ⟨_, List.mem_of_getElem? hn, rfl⟩
      unfold mapDel
      rw [List.filter_cons, if_pos (by have : p.1 ≠ k := (fun e => hd.1 (by rw [e]; exact hm)); simpa using this), List.eraseIdx_cons_succ]
      congr 1
      exact ih hd.2 hn
theorem del_no {l : List (Int × Int)} {k : Int} (h : ∀ p ∈ l, p.1 ≠ k) : mapDel l k = l := by
  unfold mapDel
  rw [List.filter_eq_self]
  exact fun q hq => by simpa using h q hq
theorem map_erase {α β : Type} (f : α → β) : ∀ (l : List α) (n : Nat), (l.eraseIdx n).map f = (l.map f).eraseIdx n
  | [], _ => rfl
  | x :: l, 0 => rfl
  | x :: l, n + 1 => by rw [List.eraseIdx_cons_succ, List.map_cons, List.map_cons, List.eraseIdx_cons_succ, map_erase f l n]
theorem ok_del {es : List MapEntry} {c n : Nat} {l : List (Int × Int)} (h : mapOk es c l) : mapOk (es.eraseIdx n) c (l.eraseIdx n) := by
  obtain ⟨h1, h2, h3, h4⟩ := h
  refine ⟨?_, ?_, fun e he => h3 e ((List.eraseIdx_sublist _ _).mem he), ?_⟩
  · rw [map_erase, map_erase, h1]
  · rw [map_erase]; exact h2.sublist (List.eraseIdx_sublist _ _)
  · rw [map_erase]; exact h4.sublist (List.eraseIdx_sublist _ _)

theorem push_arr {α : Type} (es : Array α) (x : α) : (es.toList ++ [x]).toArray = es.push x := by
  apply Array.ext'
  simp
theorem mod_arr {α : Type} (es : Array α) (n : Nat) (f : α → α) : (es.toList.modify n f).toArray = es.modify n f := by
  apply Array.ext'
  simp
theorem erase_arr {α : Type} (es : Array α) (n : Nat) : (es.toList.eraseIdx n).toArray = es.eraseIdxIfInBounds n := by
  apply Array.ext'
  simp
theorem getObjR {P : Program} {w : World} {r : Nat} {o : Obj} (hb : w.heap[r]? = some o) (hc : cellsB o = false := by rfl) : (getObj r).run P w = .ok o w := by
  cases o with
  | cells => exact absurd hc (by simp [cellsB])
  | _ => simp [getObj, Sem.run, hb]
theorem setObjR {P : Program} {w : World} {r : Nat} {o : Obj} (o' : Obj) (hb : w.heap[r]? = some o) (hc : cellsB o = false := by rfl) : (setObj r o').run P w = .ok () { w with heap := w.heap.setIfInBounds r o' } := by
  cases o with
  | cells => exact absurd hc (by simp [cellsB])
  | _ => simp [setObj, Sem.run, hb]
section
variable {P : Program} {W : World} {N : Nat} {L : List (Nat × Option Value)} {H R : List HProp} {T : TypeId} {O : Array Oper}
theorem map_at {m : Nat} {l : List (Int × Int)} (t : At H (mapH m l)) {w : World} (s : Sat W w (seps H)) : ∃ es c, mapOk es c l ∧ w.heap[m]? = some (.map es.toArray c) := by
  obtain ⟨R, s⟩ := t.sat s
  obtain ⟨h, ⟨h1, h2, ⟨es, c, ho, a⟩, r, d, e'⟩, hin⟩ := s.own
  simp only [seps, sep_emp] at a
  exact ⟨es, c, ho, (obj_lies (b := m) (x := .map es.toArray c) (R := R) { s with own := ⟨h, ⟨h1, h2, a, r, d, e'⟩, hin⟩ }).2.1⟩
theorem Y.lookI {t kt vt : TypeId} {x y : Operand} {m : Nat} {l : List (Int × Int)} {k : Int} (hu : P.underlying t = some (.map kt vt)) (hk : P.underlying kt = some (.int .i64)) (hz : ∀ w, (zeroValue vt).run P w = .ok (.int .i64 0) w) (hx : ev L x = some (.map (some m))) (hy : ev L y = some (.int .i64 k)) (ht : At H (mapH m l)) :
    Yields P W N (.lookup t x y false) T L H (.int .i64 ((mapGet l k).getD 0)) := fun dst pos after guard a w ha hs => by
  simp only [execOp, ha.eval hx, ha.eval hy]
  refine value_run ?_
  obtain ⟨es, c, ho, hb⟩ := map_at ht hs
  have hf := run_findKey (P := P) (w := w) hk (find_now (k := k) (i := 0) ho.1)
  have hc := run_checkKey (P := P) (w := w) hk (k := .int .i64 k) rfl (es.toArray.isEmpty) 9999
  have hg := findI_get (k := k) l 0
  unfold Instr.lookup
  simp only [Sem.run_bind, run_underlying hu, Result.andThen_ok, getObjR hb, Sem.run_pure, hc, hf]
  cases e : findI k l 0 with
  | none =>
    rw [e] at hg
    have : mapGet l k = none := by simpa using hg.symm
    simp [hz, this]
  | some p =>
    rw [e] at hg
    cases hm : mapGet l k with
    | none => rw [hm] at hg; cases hg
    | some v =>
      rw [hm] at hg
      have : p.2 = .int .i64 v := by simpa using hg
      simp [this]
/-- A change of a map. -/
theorem Does.mapCh {o : Oper} {m : Nat} {l l' : List (Int × Int)} (hd : o.dst = none) (t : Take H (mapH m l) R)
    (h : ∀ a w es c, Env N L a → w.heap[m]? = some (.map es c) → mapOk es.toList c l → ∃ es' c', mapOk es' c' l' ∧ ((execOp a.eval o).run P w = .ok .skip { w with heap := w.heap.setIfInBounds m (.map es'.toArray c') } ∨ ∃ v, (execOp a.eval o).run P w = .ok (.value v) { w with heap := w.heap.setIfInBounds m (.map es'.toArray c') })) :
    Does P W N o L H (fun L1 H1 => L1 = L ∧ H1 = mapH m l' :: R) := fun a w ha hs Kp hK => by
  rw [t.seps] at hs
  obtain ⟨hp, ⟨h1, h2, ⟨es, c, ho, am⟩, r, d, e'⟩, hin⟩ := hs.own
  simp only [seps, sep_emp] at am
  have hs2 : Sat W w (sep (objAt m (.map es.toArray c)) (seps R)) := { hs with own := ⟨hp, ⟨h1, h2, am, r, d, e'⟩, hin⟩ }
  obtain ⟨es', c', ho', hr⟩ := h a w es.toArray c ha (obj_lies hs2).2.1 (by simpa using ho)
  have hs3 := hs2.setObj (.map es'.toArray c') rfl
  have hs4 : Sat W { w with heap := w.heap.setIfInBounds m (.map es'.toArray c') } (seps (mapH m l' :: R)) :=
    hs3.mono (sep_mono (fun g b => ⟨es', c', ho', by simpa only [seps, sep_emp] using b⟩) fun _ b => b)
  unfold Oper.wp
  rcases hr with hr | ⟨v, hr⟩
  · rw [hr]
    simp only [Oper.upon]
    rw [hd]
    exact hK _ _ ⟨rfl, rfl⟩ _ _ ⟨ha.size, ha.get, ha.defers⟩ hs4
  · rw [hr]
    simp only [Oper.upon]
    rw [hd]
    exact hK _ _ ⟨rfl, rfl⟩ _ _ ⟨ha.size, ha.get, ha.defers⟩ hs4
theorem Does.mapSet {t kt vt : TypeId} {x y z : Operand} {pos : String} {after : Array Edge} {guard : Option (Nat × Bool)} {m : Nat} {l : List (Int × Int)} {k v : Int} (hu : P.underlying t = some (.map kt vt)) (hk : P.underlying kt = some (.int .i64)) (hx : ev L x = some (.map (some m))) (hy : ev L y = some (.int .i64 k)) (hz : ev L z = some (.int .i64 v)) (ht : Take H (mapH m l) R) :
    Does P W N ⟨none, .mapUpdate t x y z, T, pos, after, guard⟩ L H (fun L1 H1 => L1 = L ∧ H1 = mapH m (mapSet l k v) :: R) :=
  Does.mapCh rfl ht fun a w es c ha hb ho => by
    have hf := run_findKey (P := P) (w := w) hk (find_now (k := k) (i := 0) ho.1)
    have hc := run_checkKey (P := P) (w := w) hk (k := .int .i64 k) rfl false 9999
    cases e : findI k l 0 with
    | none =>
      obtain ⟨h1, h2⟩ := findI_no e
      refine ⟨es.toList ++ [{ key := .int .i64 k, val := .int .i64 v, born := c }], c + 1, by rw [h2]; exact ok_push ho h1, .inl ?_⟩
      rw [e] at hf
      simp only [execOp, ha.eval hx, ha.eval hy, ha.eval hz]
      show (Instr.mapUpdate t (.map (some m)) (.int .i64 k) (.int .i64 v) >>= fun _ => pure Next.skip).run P w = _
      simp only [Instr.mapUpdate, Sem.run_bind, run_underlying hu, Result.andThen_ok, getObjR hb, hc, hf, setObjR _ hb, Sem.run_pure, push_arr]
    | some p =>
      obtain ⟨j, val⟩ := p
      obtain ⟨n, v', hj, hn, h3⟩ := findI_at e
      obtain rfl : j = n := by omega
      refine ⟨es.toList.modify j fun e => { e with key := .int .i64 k, val := .int .i64 v }, c, by rw [h3]; exact ok_set ho hn, .inl ?_⟩
      rw [e] at hf
      have hkey : ((es[j]?).map (·.key)).getD (.int .i64 k) = .int .i64 k := by
        have h1 := ho.1
        have : (es.toList.map fun e => (e.key, e.val))[j]? = some (.int .i64 k, .int .i64 v') := by rw [h1, List.getElem?_map, hn]; rfl
        rw [List.getElem?_map] at this
        cases he : es.toList[j]? with
        | none => rw [he] at this; cases this
        | some en =>
          rw [he] at this
          have h5 : en.key = .int .i64 k := by simpa using congrArg (fun o => o.map Prod.fst) this
          rw [← Array.getElem?_toList, he]
          exact h5
      simp only [execOp, ha.eval hx, ha.eval hy, ha.eval hz]
      show (Instr.mapUpdate t (.map (some m)) (.int .i64 k) (.int .i64 v) >>= fun _ => pure Next.skip).run P w = _
      simp only [Instr.mapUpdate, Sem.run_bind, run_underlying hu, Result.andThen_ok, getObjR hb, hc, hf, hkey, run_keyThatStays (d := .int .i64) (k := .int .i64 k) rfl, setObjR _ hb, Sem.run_pure, mod_arr]
theorem Does.mapDel {t kt vt : TypeId} {ts : Array TypeId} {x y : Operand} {pos : String} {after : Array Edge} {guard : Option (Nat × Bool)} {m : Nat} {l : List (Int × Int)} {k : Int} (hu : P.underlying t = some (.map kt vt)) (hk : P.underlying kt = some (.int .i64)) (hx : ev L x = some (.map (some m))) (hy : ev L y = some (.int .i64 k)) (ht : Take H (mapH m l) R) (hts : ts[0]? = some t) :
    Does P W N ⟨none, .call ⟨.builtin .delete, #[x, y], ts⟩, T, pos, after, guard⟩ L H (fun L1 H1 => L1 = L ∧ H1 = mapH m (SLYtpcjdohmjmeehaaGreat.mapDel l k) :: R) :=
  Does.mapCh rfl ht fun a w es c ha hb ho => by
    have hf := run_findKey (P := P) (w := w) hk (find_now (k := k) (i := 0) ho.1)
    have hc := run_checkKey (P := P) (w := w) hk (k := .int .i64 k) rfl es.isEmpty 9999
    have hrun : ∀ o : Option (Nat × Value), Instr.findKey kt (.int .i64 k) es.toList = Instr.findKey kt (.int .i64 k) es.toList := fun _ => rfl
    cases e : findI k l 0 with
    | none =>
      obtain ⟨h1, h2⟩ := findI_no e
      refine ⟨es.toList, c, by rw [del_no h1]; exact ho, .inr ⟨.tuple #[], ?_⟩⟩
      rw [e] at hf
      simp [execOp, resolve, invoke, builtin, ha.eval hx, ha.eval hy, Builtin.delete_, hts, run_underlying hu, getObjR hb, hc, hf, setObjR _ hb]
    | some p =>
      obtain ⟨j, val⟩ := p
      obtain ⟨n, v', hj, hn, h3⟩ := findI_at e
      obtain rfl : j = n := by omega
      refine ⟨es.toList.eraseIdx j, c, by rw [del_at ho.2.1 hn]; exact ok_del ho, .inr ⟨.tuple #[], ?_⟩⟩
      rw [e] at hf
      simp [execOp, resolve, invoke, builtin, ha.eval hx, ha.eval hy, Builtin.delete_, hts, run_underlying hu, getObjR hb, hc, hf, setObjR _ hb, erase_arr]
end
end Go.SLYtpcjdohmjmeehaaGreat
namespace Go.SLYtpcjdohmjmeehaaGreat
open Go Go.RowKit Go.MapKept

def itH (it m c : Nat) (seen : List MapEntry) : HProp := objAt it (.mapIter (some m) c (seen.map (·.born)).toArray c)
def nextA : Option MapEntry → Array Value
  | none => #[.bool false]
  | some e => #[.bool true, e.key, e.val]
def nextV (o : Option MapEntry) : Value := .tuple (nextA o)
section
variable {P : Program} {W : World} {N : Nat} {L : List (Nat × Option Value)} {H R : List HProp} {T : TypeId} {O : Array Oper}
theorem obj_at {m : Nat} {x : Obj} (t : At H (objAt m x)) {w : World} (s : Sat W w (seps H)) : w.heap[m]? = some x := by
  obtain ⟨R, s⟩ := t.sat s
  exact (obj_lies s).2.1
/-- What is left of a map that is ranged over. -/
def leftA (es : Array MapEntry) (seen : Array Nat) : Array MapEntry := es.filter fun e => !seen.contains e.born
theorem left_old {es : Array MapEntry} {seen : Array Nat} {c : Nat} (h : ∀ e ∈ es.toList, e.born < c) : (leftA es seen).filter (fun e => decide (e.born < c)) = leftA es seen := by
  rw [Array.filter_eq_self]
  intro e he
  have : e ∈ es := (Array.mem_filter.1 he).1
  simpa using h e (by simpa using this)
theorem left_new {es : Array MapEntry} {seen : Array Nat} {c : Nat} (h : ∀ e ∈ es.toList, e.born < c) : (leftA es seen).filter (fun e => decide (e.born ≥ c)) = #[] := by
  rw [Array.filter_eq_empty_iff]
  intro e he
  have : e ∈ es := (Array.mem_filter.1 he).1
  have := h e (by simpa using this)
  simp; omega
theorem choose_lt {n : Nat} (hn : 0 < n) (w : World) : ∃ i w', (choose (.mapNext n)).run P w = .ok i w' ∧ i < n ∧ (w' = w ∨ w' = w.drew) := by
  rw [run_choose_drew]
  by_cases h : n ≤ 1
  · exact ⟨0, w, by simp [Question.forced, h], hn, .inl rfl⟩
  · exact ⟨(Question.mapNext n).cut (w.tape w.drawn (.mapNext n)), w.drew, by simp [Question.forced, h], Nat.mod_lt _ hn, .inr rfl⟩
def cands (l : Array MapEntry) : Array (Option MapEntry) := (if l.isEmpty = true then #[none] else #[]) ++ (l ++ #[]).map some
def stepN (it m c : Nat) (sn : Array Nat) : Option (Option MapEntry) → Sem Value
  | some (some e) => do
    setObj it (.mapIter (some m) c (sn.push e.born) c)
    pure (.tuple #[.bool true, e.key, e.val])
  | some none => pure (.tuple #[.bool false])
  | none => stuck "Next: no such candidate"
theorem run_next {it m c : Nat} {es : Array MapEntry} {sn : Array Nat} {w : World} (hit : w.heap[it]? = some (.mapIter (some m) c sn c)) (hbm : w.heap[m]? = some (.map es c)) (hc : ∀ e ∈ es.toList, e.born < c) :
    (Instr.next (ptr it) false T).run P w = ((choose (.mapNext (cands (leftA es sn)).size)).run P w).andThen fun i w' => (stepN it m c sn (cands (leftA es sn))[i]?).run P w' := by
  have hguard : (!sn.isEmpty && !es.isEmpty && es.all fun e => decide (e.born ≥ c)) = false := by
    obtain ⟨l⟩ := es
    cases l with
    | nil => simp
    | cons e es =>
      have := hc e (by simp)
      simp; intro _ _; omega
  have hold := left_old (seen := sn) hc
  have hnew := left_new (seen := sn) hc
  unfold leftA at hold hnew
  unfold Instr.next
  simp only [Sem.run_bind, getObjR hit, Result.andThen_ok, getObjR hbm, hguard, Sem.run_ite, Bool.false_eq_true, if_false]
  unfold leftA
  rw [hold, hnew]
  show ((choose (.mapNext (cands (leftA es sn)).size)).run P w).andThen _ = _
  rfl
theorem value_runW {s : Sem Value} {v : Value} {w w' : World} (h : s.run P w = .ok v w') : (do pure (Next.value (← s)) : Sem Next).run P w = .ok (.value v) w' := by
  simp [h]
theorem Does.nextI {x : Operand} {pos : String} {after : Array Edge} {guard : Option (Nat × Bool)} {d it m c : Nat} {es seen : List MapEntry} (hN : Nat.blt d N = true) (hx : ev L x = some (ptr it)) (ht : Take H (itH it m c seen) R) (hm : At R (objAt m (.map es.toArray c))) (hc : ∀ e ∈ es, e.born < c) :
    Does P W N ⟨some d, .next x false, T, pos, after, guard⟩ L H (fun L1 H1 => ∃ o : Option MapEntry, ((o = none → ∀ e ∈ es, e.born ∈ seen.map (fun e => e.born)) ∧ ∀ e, o = some e → e ∈ es ∧ ¬ e.born ∈ seen.map (fun e => e.born)) ∧ L1 = (d, some (nextV o)) :: L ∧ H1 = itH it m c (seen ++ o.toList) :: R) := fun a w ha hs Kp hK => by
  rw [ht.seps] at hs
  obtain ⟨sn, hsn⟩ : ∃ sn, sn = (seen.map (fun e => e.born)).toArray := ⟨_, rfl⟩
  have hit : w.heap[it]? = some (.mapIter (some m) c sn c) := by rw [hsn]; exact (obj_lies (b := it) (x := .mapIter (some m) c (seen.map (·.born)).toArray c) hs).2.1
  have hbm : w.heap[m]? = some (.map es.toArray c) := obj_at hm hs.right
  have hdone : ∀ o : Option MapEntry, ((o = none → ∀ e ∈ es, e.born ∈ seen.map (fun e => e.born)) ∧ ∀ e, o = some e → e ∈ es ∧ ¬ e.born ∈ seen.map (fun e => e.born)) → ∀ w', (Instr.next (ptr it) false T).run P w = .ok (nextV o) w' → Sat W w' (sep (itH it m c (seen ++ o.toList)) (seps R)) → Oper.wp P ⟨some d, .next x false, T, pos, after, guard⟩ a w Kp QF := fun o ho w' hr hs' => by
    have h2 : (execOp a.eval ⟨some d, .next x false, T, pos, after, guard⟩).run P w = .ok (.value (nextV o)) w' := by
      simp only [execOp, ha.eval hx]
      exact value_runW hr
    unfold Oper.wp
    rw [h2]
    simp only [Oper.upon]
    exact hK _ _ ⟨o, ho, rfl, rfl⟩ _ _ (ha.put (Nat.blt_eq.mp hN) _) hs'
  have hstart := run_next (P := P) (T := T) hit hbm (by simpa using hc)
  have hin : ∀ e, e ∈ leftA es.toArray sn ↔ e ∈ es ∧ ¬ e.born ∈ seen.map (fun e => e.born) := fun e => by
    unfold leftA
    rw [Array.mem_filter, hsn]
    simp
  generalize hl : leftA es.toArray sn = l at hstart hin
  by_cases he : l = #[]
  · subst he
    refine hdone none ⟨fun _ e hem => Decidable.byContradiction fun hn => ?_, fun e h => (by cases h)⟩ w ?_ (by simpa using hs)
    · have := (hin e).2 ⟨hem, hn⟩
      simp at this
    · rw [hstart]
      simp [run_choose_drew, Question.forced, nextV, nextA, cands, stepN]
  · have hne : l.isEmpty = false := by
      cases h : l.isEmpty
      · rfl
      · exact absurd (by simpa using h) he
    have hpos : 0 < l.size := by
      rcases Nat.eq_zero_or_pos l.size with h | h
      · exact absurd (Array.eq_empty_of_size_eq_zero h) he
      · exact h
    have hcs : cands l = l.map some := by unfold cands; rw [hne]; simp
    rw [hcs, Array.size_map] at hstart
    obtain ⟨i, w', hr, hi, hw⟩ := choose_lt (P := P) hpos w
    have hei : (l.map some)[i]? = some (some l[i]) := by simp [hi]
    have hmem := (hin l[i]).1 (Array.getElem_mem hi)
    have hs' : Sat W w' (sep (itH it m c seen) (seps R)) := by
      rcases hw with rfl | rfl
      · exact hs
      · exact hs.drew
    have hit' : w'.heap[it]? = some (.mapIter (some m) c sn c) := by rw [hsn]; exact (obj_lies (b := it) (x := .mapIter (some m) c (seen.map (·.born)).toArray c) hs').2.1
    refine hdone (some l[i]) ⟨fun h => (by cases h), fun e h => (by cases h; exact hmem)⟩ { w' with heap := w'.heap.setIfInBounds it (.mapIter (some m) c (sn.push l[i].born) c) } ?_ ?_
    · rw [hstart, hr]
      simp only [Result.andThen_ok, hei, stepN, Sem.run_bind, setObjR _ hit', Sem.run_pure]
      rfl
    · have := hs'.setObj (.mapIter (some m) c (sn.push l[i].born) c) rfl
      refine this.eq ?_
      unfold itH
      rw [hsn]
      congr 3
      simp
end
end Go.SLYtpcjdohmjmeehaaGreat
