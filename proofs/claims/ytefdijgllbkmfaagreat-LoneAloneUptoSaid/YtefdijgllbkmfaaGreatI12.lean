/- Walks of functions, and what they compute. Conditions: none, this text proves no statement. -/
import Derived.Test.YtefdijgllbkmfaaGreatI06
import Derived.Test.YtefdijgllbkmfaaGreatProg
import Derived.Test.YtefdijgllbkmfaaGreatI11
import Derived.Test.YtefdijgllbkmfaaGreatI03
import Derived.KernelRfl
import Derived.Test.YtefdijgllbkmfaaGreatI04
import Derived.Test.YtefdijgllbkmfaaGreatI05
import Derived.Test.YtefdijgllbkmfaaGreatI09
set_option maxRecDepth 20000
set_option maxHeartbeats 4000000
namespace Go.SLYtefdijgllbkmfaaGreat
open Go Go.RowKit Go.Proofs Go.Proofs.Tryz
attribute [local irreducible] ax aS bo bY bP Y
theorem uZ{W:World}{bd b p:Nat}{ps:List (Option Nat)}{d:Dng}{h:Int}(h0:0≤h)(hT:iW d.s.table)(hs:∀ n,bj d.s.table h=some n→bW ps d.s n):Fn Tryz.prog W 163 [ptr bd,.int .u64 h] [bu bd b p ps d] Unit (fun _=>.tuple #[.int .i64 (((d.other h).1:Nat):Int),.int .i64 (d.other h).2]) (fun _=>True) (fun _=>[bu bd b p ps d]):=by
 refine Fn.intro (N:=60) func163 rfl ntmps163 rfl fun F=>?_
 show ax _ _ _ _ _ _ [bu bd b p ps d,F]
 refine .o2 (C:=bu bd b p ps d) .auto rfl ?_
 rintro vw ve -
 refine .jR (C:=dE b ps d.s) .auto rfl ?_
 rintro fv sv pv bt vm bg vt bk bw vr -
 refine J 16 ?_
 refine .c call202 rfl (uV hT h0) fun _ _=>?_
 refine J 1 ?_
 refine .p (.extract (v:=.int .i64 (((bj d.s.table h).getD 0:Nat):Int)) rfl rfl) ?_
 refine .p (.extract (v:=.bool (bj d.s.table h).isSome) rfl rfl) ?_
 refine J 8 ?_
 obtain⟨m,hm⟩:∃ m,m=(bj d.s.table h).getD 0:=⟨_,rfl⟩
 rw[← hm]
 refine J 3 ?_
 refine .part (t:=23) rfl (fun h23=>?_) (fun h23=>?_)
 ·refine J 24 ?_
  refine .hJ rfl ?_
  refine J 9 ?_
  rw[ot (Option.isNone_iff_eq_none.mp (by simpa using h23))]
  exact JR 0 ()
 ·obtain⟨n,hf⟩:∃ n,bj d.s.table h=some n:=Option.isSome_iff_exists.mp (by simpa using h23)
  obtain rfl:m=n:=by rw[hm,hf];rfl
  obtain⟨hm16,q,u,hq,hu,hR⟩:=hs m hf
  refine .fr .auto (cq hq hu) ?_
  refine J 8 ?_
  refine .lE (t:=31) rfl (fun h31=>?_) (fun h31=>?_)
  ·refine J 16 ?_
   refine .hJ rfl ?_
   refine J 9 ?_
   refine .to (A:=aG ps d.s.thr) (Bs:=[arr q 0 (bH u),aG (ps.set m none) (d.s.thr.set m none)]) .auto (cI hq hu) ?_
   rw[jc hf hu (.inl (Int.ofNat_inj.mp h31))]
   exact JR 0 ()
  ·refine J 7 ?_
   refine .g (.aF m underlying123 sizeOf122 rfl rfl rfl hm16) ?_
   refine .g (.ld rfl (Cell.a (by rw[Nat.mul_one,eP hm16,fh hq]))) ?_
   refine JD 7 (fun h20=>?_) fun h20=>?_
   ·refine J 9 ?_
    refine .to (A:=aG ps d.s.thr) (Bs:=[arr q 0 (bH u),aG (ps.set m none) (d.s.thr.set m none)]) .auto (cI hq hu) ?_
    rw[jc hf hu (.inr h20)]
    exact JR 0 ()
   ·have hno:¬(m=d.n∨u.bn=true):=fun hh=>hh.elim (fun e=>h31 (Int.ofNat_inj.mpr e)) (fun e=>by rw[h20] at e;cases e)
    refine J 9 ?_
    refine .p (.aF m underlying123 sizeOf122 rfl rfl rfl hm16) ?_
    refine .p (.ld rfl (Cell.a (by rw[Nat.mul_one,eP hm16,fh hq]))) ?_
    refine JD 7 (fun h45=>?_) fun h45=>?_
    ·refine J 9 ?_
     refine .to (A:=aG ps d.s.thr) (Bs:=[arr q 0 (bH u),aG (ps.set m none) (d.s.thr.set m none)]) .auto (cI hq hu) ?_
     rw[kS hf hu hno h45]
     exact JR 0 ()
    ·refine J 11 ?_
     refine .to (A:=aG ps d.s.thr) (Bs:=[arr q 0 (bH u),aG (ps.set m none) (d.s.thr.set m none)]) .auto (cI hq hu) ?_
     rw[ou hf hu hno (Decidable.byContradiction h45)]
     exact JR 0 ()
theorem Aa{W:World}{bd b p:Nat}{ps:List (Option Nat)}{d:Dng}{t:bF}(hp:ps[d.n]?=some (some p))(ht:d.s.thr[d.n]?=some (some t))(hk:iA ps d t):Fn Tryz.prog W 119 [ptr bd] [bu bd b p ps d] (List (Option Nat)) (fun _=>.tuple #[]) (fun _=>True) (fun qs=>[bu bd b p qs d.cO]):=by
 refine Fn.intro (N:=51) func119 rfl ntmps119 rfl fun F=>?_
 show ax _ _ _ _ _ _ [bu bd b p ps d,F]
 refine J 3 ?_
 refine .c call120 rfl (uX hp ht hk.I.a) fun _ _=>?_
 have hx0:0≤d.a:=by
  unfold Dng.a;rw[bZ ht];exact(hk.R.r _).1
 obtain⟨x,hx⟩:∃ x,x=d.a:=⟨_,rfl⟩
 rw[← hx]
 rw[← hx] at hx0
 refine J 7 ?_
 refine .c call163 rfl (uZ hx0 hk.T (hk.slot x)) fun _ _=>?_
 refine J 1 ?_
 refine .p (.extract (v:=.int .i64 (((d.other x).1:Nat):Int)) rfl rfl) ?_
 refine .p (.extract (v:=.int .i64 (d.other x).2) rfl rfl) ?_
 refine JD 13 (fun h24=>?_) fun h24=>?_
 ·refine J 7 ?_
  refine .c call117 rfl (cR hp ht (Nat.le_trans hk.au (by decide)) j9 hk.R.l) fun _ _=>?_
  refine J 1 ?_
  rw[show d.cO=d.pass x 0 (d.other x).2 from by unfold Dng.cO;rw[← hx];simp only;rw[if_pos h24]]
  exact JR 0 ps
 ·have hz:(d.other x).2=0:=Decidable.byContradiction h24
  obtain⟨m,q,u,hf,ho1,hmn,hm16,hq,hu,hRu,hdt,hjo⟩:=sd (hk.slot x) hz
  rw[ho1,hz]
  refine J 2 ?_
  refine .o2 (C:=bu bd b p ps (d)) .auto rfl ?_
  rintro vw ve -
  refine .jR (C:=dE b ps (d).s) .auto rfl ?_
  rintro fv sv pv bt vm bg vt bk bw vr -
  refine .fr .auto (cq hq hu) ?_
  refine J 7 ?_
  refine .p (.aF m underlying123 sizeOf122 rfl rfl rfl hm16) ?_
  refine .p (.ld rfl (Cell.a (by rw[Nat.mul_one,eP hm16,fh hq]))) ?_
  refine JD 7 (fun h27=>?_) fun h27=>?_
  ·refine J 1 ?_
   refine .to (A:=aG ps d.s.thr) (Bs:=[arr q 0 (bH u),aG (ps.set m none) (d.s.thr.set m none)]) .auto (cI hq hu) ?_
   refine J 5 ?_
   refine .c call113 rfl (mK (s:=d.s) hq hu hk.lt hk.lp hk.T hRu.h.1) fun _ _=>?_
   refine J 7 ?_
   refine .c call117 rfl (cR (d:=d.free m) (ps:=ps.set m none) (p:=p) (t:=t) (by show(ps.set m none)[d.n]?=_;rw[List.getElem?_set_ne hmn];exact hp) (by show(d.s.thr.set m none)[d.n]?=_;rw[List.getElem?_set_ne hmn];exact ht) (Nat.le_trans hk.au (by decide)) (by decide) hk.R.l) fun _ _=>?_
   refine J 1 ?_
   rw[show d.cO=(d.free m).pass x 0 0 from by unfold Dng.cO;rw[← hx];simp only;rw[if_neg (by rw[hz];simp),ho1,cV hu,if_pos h27]]
   refine .C7 rfl fun w s=>⟨ps.set m none,?_,trivial,aq .auto s⟩
   rfl
  ·refine J 8 ?_
   refine .p (.aF m underlying123 sizeOf122 rfl rfl rfl hm16) ?_
   refine .p (.ld rfl (Cell.a (by rw[Nat.mul_one,eP hm16,fh hq]))) ?_
   refine J 3 ?_
   rw[Gi]
   refine J 7 ?_
   refine .to (A:=aG ps (d.s.thr.set m (some ({u with bn:=true })))) (Bs:=[arr q 0 (bH ({u with bn:=true })),aG (ps.set m none) (d.s.thr.set m none)]) .auto (cW (List.getElem?_eq_some_iff.1 hu).1 hq) ?_
   refine .c call117 rfl (cR (d:={d with s:=d.s.aj m {u with bn:=true } }) (ps:=ps) (p:=p) (t:=t) hp (cn ht hmn) (Nat.le_trans hk.au (by decide)) (by decide) hk.R.l) fun _ _=>?_
   refine J 1 ?_
   rw[show d.cO=({d with s:=d.s.aj m {u with bn:=true } }:Dng).pass x 0 0 from by unfold Dng.cO;rw[← hx];simp only;rw[if_neg (by rw[hz];simp),ho1,cV hu,if_neg h27]]
   exact JR 0 ps
theorem FD{W:World}{bd b p:Nat}{ps:List (Option Nat)}{d:Dng}{t:bF}(hp:ps[d.n]?=some (some p))(ht:d.s.thr[d.n]?=some (some t))(hk:iA ps d t):Fn Tryz.prog W 118 [ptr bd] [bu bd b p ps d] (List (Option Nat)) (fun _=>.tuple #[]) (fun _=>True) (fun qs=>[bu bd b p qs d.join]):=by
 refine Fn.intro (N:=94) func118 rfl ntmps118 rfl fun F=>?_
 show ax _ _ _ _ _ _ [bu bd b p ps d,F]
 have hIa:=hk.I.a
 have hRl:=hk.R.l
 refine J 3 ?_
 refine .c call162 rfl (Ia hp ht hk.I.b) fun _ _=>?_
 have hx0:0≤d.b:=by
  unfold Dng.b;rw[bZ ht];exact(hk.R.r _).1
 obtain⟨x,hx⟩:∃ x,x=d.b:=⟨_,rfl⟩
 rw[← hx]
 rw[← hx] at hx0
 refine J 7 ?_
 refine .c call163 rfl (uZ hx0 hk.T (hk.slot x)) fun _ _=>?_
 refine J 1 ?_
 refine .p (.extract (v:=.int .i64 (((d.other x).1:Nat):Int)) rfl rfl) ?_
 refine .p (.extract (v:=.int .i64 (d.other x).2) rfl rfl) ?_
 refine JD 12 (fun h37=>?_) fun h37=>?_
 ·refine J 4 ?_
  refine .c call117 rfl (cR hp ht (Nat.le_trans hk.au (by decide)) j9 hk.R.l) fun _ _=>?_
  refine J 2 ?_
  rw[show d.join=d.pass x 0 (d.other x).2 from by unfold Dng.join;rw[← hx];simp only;rw[if_pos h37]]
  exact JR 0 ps
 ·have hz:(d.other x).2=0:=Decidable.byContradiction h37
  obtain⟨m,q,u,hf,ho1,hmn,hm16,hq,hu,hRu,hdt,hjo⟩:=sd (hk.slot x) hz
  rw[ho1,hz]
  refine J 2 ?_
  refine .o2 (C:=bu bd b p ps (d)) .auto rfl ?_
  rintro vw ve -
  refine .jR (C:=dE b ps (d).s) .auto rfl ?_
  rintro fv sv pv bt vm bg vt bk bw vr -
  refine .fr .auto (cq hq hu) ?_
  refine J 7 ?_
  refine .p (.aF m underlying123 sizeOf122 rfl rfl rfl hm16) ?_
  refine .p (.ld rfl (Cell.a (by rw[Nat.mul_one,eP hm16,fh hq]))) ?_
  refine JD 7 (fun h44=>?_) fun h44=>?_
  ·refine J 9 ?_
   refine .p (.aF m underlying123 sizeOf122 rfl rfl rfl hm16) ?_
   refine .p (.ld rfl (Cell.a (by rw[Nat.mul_one,eP hm16,fh hq]))) ?_
   refine J 7 ?_
   refine .to (A:=aG ps d.s.thr) (Bs:=[arr q 0 (bH u),aG (ps.set m none) (d.s.thr.set m none)]) .auto (cI hq hu) ?_
   refine .fr .auto (cq hp ht) ?_
   refine .draw [arr bd 0 (ez b p d vw ve)] [1,1,1,1,1,1,1,1,1,1,1,1,1,1,3] rfl (by kernel_rfl) ?_
   refine J 13 ?_
   refine .p (.aF d.i.a.toNat underlying39 sizeOf38 rfl rfl (by omega) (by omega)) ?_
   refine .d3 rfl (af.st sizeOf38 rfl rfl rfl (Nat.blt_eq.mpr (by show 2+d.i.a.toNat * 1<18;omega))) ?_
   rintro _ _ ⟨rfl,rfl⟩
   rw[jb _ (by omega) (by omega) hRl]
   refine .to (A:=aG ps (d.s.thr.set d.n (some (t.put d.i.a u.value)))) (Bs:=[arr p 0 (bH (t.put d.i.a u.value)),aG (ps.set d.n none) (d.s.thr.set d.n none)]) .auto (cW (List.getElem?_eq_some_iff.1 ht).1 hp) ?_
   refine J 9 ?_
   refine .c call113 rfl (mK (s:=(d.aj (t.put d.i.a u.value)).s) hq (cn hu (Ne.symm hmn)) (by simp[Dng.aj,Spc.aj,hk.lt]) hk.lp hk.T hRu.h.1) fun _ _=>?_
   refine J 6 ?_
   refine .c call117 rfl (cR (d:=(d.aj (t.put d.i.a u.value)).free m) (ps:=ps.set m none) (p:=p) (t:=t.put d.i.a u.value) (by show(ps.set m none)[d.n]?=_;rw[List.getElem?_set_ne hmn];exact hp) (by show((d.aj (t.put d.i.a u.value)).s.thr.set m none)[d.n]?=_;rw[List.getElem?_set_ne hmn];exact bS ht) (Nat.le_trans hk.au (by decide)) (by decide) (by rw[jE];exact hRl)) fun _ _=>?_
   refine J 2 ?_
   rw[show d.join=((d.aj (t.put d.i.a u.value)).free m).pass x u.value 0 from by unfold Dng.join;rw[← hx];simp only;rw[if_neg (by rw[hz];simp),ho1,cV hu,if_pos h44,bZ ht]]
   refine .C7 rfl fun w s=>⟨ps.set m none,?_,trivial,aq .auto s⟩
   rfl
  ·refine J 1 ?_
   refine .draw [arr bd 0 (ez b p d vw ve)] [1,1,1,1,1,1,1,1,1,1,1,1,1,1,1,3] rfl (by kernel_rfl) ?_
   refine J 7 ?_
   refine .p (.aF m underlying123 sizeOf122 rfl rfl rfl hm16) ?_
   refine .p (.ld rfl (Cell.a (by rw[Nat.mul_one,eP hm16,fh hq]))) ?_
   refine J 7 ?_
   rw[zk]
   refine .to (A:=aG ps (d.s.thr.set m (some ({u with ar:=d.n })))) (Bs:=[arr q 0 (bH ({u with ar:=d.n })),aG (ps.set m none) (d.s.thr.set m none)]) .auto (cW (List.getElem?_eq_some_iff.1 hu).1 hq) ?_
   refine J 10 ?_
   refine .c call164 rfl (gz (d:={d with s:=d.s.aj m {u with ar:=d.n } }) (ps:=ps) (p:=p) (t:=t) hp (cn ht hmn) (Nat.le_trans hk.au (by decide))) fun _ _=>?_
   refine J 2 ?_
   rw[show d.join=({d with s:=d.s.aj m {u with ar:=d.n } }:Dng).block 4 d.i.a x 0 from by unfold Dng.join;rw[← hx];simp only;rw[if_neg (by rw[hz];simp),ho1,cV hu,if_neg h44]]
   exact JR 0 ps
theorem CP{W:World}{bd b p:Nat}{ps:List (Option Nat)}{d:Dng}{t:bF}(hp:ps[d.n]?=some (some p))(ht:d.s.thr[d.n]?=some (some t))(hk:iA ps d t):Fn Tryz.prog W 178 [ptr bd] [bu bd b p ps d] Unit (fun _=>.tuple #[]) (fun _=>True) (fun _=>[bu bd b p ps (d.sleep)]):=by
 refine Fn.intro (N:=34) func178 rfl ntmps178 rfl fun F=>?_
 show ax _ _ _ _ _ _ [bu bd b p ps d,F]
 refine J 3 ?_
 refine .c call120 rfl (uX hp ht hk.I.a) fun _ _=>?_
 have hx0:0≤d.a:=by
  unfold Dng.a;rw[bZ ht];exact(hk.R.r _).1
 obtain⟨x,hx⟩:∃ x,x=d.a:=⟨_,rfl⟩
 rw[← hx]
 rw[← hx] at hx0
 refine JD 11 (fun h22=>?_) fun h22=>?_
 ·refine J 3 ?_
  refine .c call117 rfl (cR hp ht (Nat.le_trans hk.au (by decide)) (by decide) hk.R.l) fun _ _=>?_
  refine J 2 ?_
  rw[show d.sleep=d.pass x 0 0 from by unfold Dng.sleep;rw[← hx];simp only;rw[if_pos h22]]
  exact JR 0 ()
 ·refine JD 7 (fun h28=>?_) fun h28=>?_
  ·refine J 3 ?_
   refine .c call117 rfl (cR hp ht (Nat.le_trans hk.au (by decide)) (by decide) hk.R.l) fun _ _=>?_
   refine J 2 ?_
   rw[show d.sleep=d.pass x 0 1 from by unfold Dng.sleep;rw[← hx];simp only;rw[if_neg h22,if_pos h28]]
   exact JR 0 ()
  ·refine J 1 ?_
   refine .o2 (C:=bu bd b p ps (d)) .auto rfl ?_
   rintro vw ve -
   refine .jR (C:=dE b ps (d).s) .auto rfl ?_
   rintro fv sv pv bt vm bg vt bk bw vr -
   refine .draw [arr bd 0 (ez b p d vw ve),arr b 0 (fU fv sv pv d.s.dG bt ps vm bg vt bk bw vr)] [1,1,1,1,1,1,1,1,1,1,1,1,1,3] rfl (by kernel_rfl) ?_
   refine J 12 ?_
   refine .p (.gp underlying38 underlying3 rfl (by omega)) ?_
   refine .c call218 rfl (yG hk.wn) fun _ _=>?_
   refine J 5 ?_
   refine .c call164 rfl (gz (d:=d.rQ (d.s.aA.sleep d.n x).2) hp ht (Nat.le_trans hk.au (by decide))) fun _ _=>?_
   refine J 2 ?_
   rw[show d.sleep=(d.rQ (d.s.aA.sleep d.n x).2).block 8 (-1) x 0 from by unfold Dng.sleep;rw[← hx];simp only;rw[if_neg h22,if_neg h28]]
   exact JR 0 ()
theorem Bo{W:World}{bd b p:Nat}{ps:List (Option Nat)}{d:Dng}{t:bF}(hp:ps[d.n]?=some (some p))(ht:d.s.thr[d.n]?=some (some t))(hk:iA ps d t){block y into:Int}(hb:0≤block):Fn Tryz.prog W 175 [ptr bd,.int .u64 block,.int .u64 y,.int .i64 into] [bu bd b p ps d] Unit (fun _=>.tuple #[]) (fun _=>True) (fun _=>[bu bd b p ps (d.ask block y into)]):=by
 refine Fn.intro (N:=45) func175 rfl ntmps175 rfl fun F=>?_
 show ax _ _ _ _ _ _ [bu bd b p ps d,F]
 refine JD 12 (fun h10=>?_) fun h10=>?_
 ·refine .o2 (C:=bu bd b p ps (d)) .auto rfl ?_
  rintro vw ve -
  refine .jR (C:=dE b ps (d).s) .auto rfl ?_
  rintro fv sv pv bt vm bg vt bk bw vr -
  refine .draw [arr bd 0 (ez b p d vw ve),arr b 0 (fU fv sv pv d.s.dG bt ps vm bg vt bk bw vr)] [1,1,1,1,1,1,1,1,1,1,1,1,1,1,1,1,1,1,1,1,1,3,1] rfl (by kernel_rfl) ?_
  refine J 12 ?_
  refine .p (.gp underlying38 underlying3 rfl (by omega)) ?_
  refine J 7 ?_
  refine .p (.Bv (fun v1 v2 v3 v4=>[v1,v2,v3,v4]) rfl rfl rfl rfl (by kernel_rfl)) ?_
  refine .c call215 rfl (FC (r:=(⟨d.n,block,decide (d.i.op=34),y⟩:pz)) hk.dw) fun _ _=>?_
  refine JD 10 (fun h34=>?_) fun h34=>?_
  ·refine J 6 ?_
   refine .c call117 rfl (cR (d:=d.dv (d.s.aN.ask ⟨d.n,block,decide (d.i.op=34),y⟩).2) hp ht (Nat.le_trans hk.au (by decide)) D0 hk.R.l) fun _ _=>?_
   refine J 4 ?_
   rw[show d.ask block y into=(d.dv (d.s.aN.ask ⟨d.n,block,decide (d.i.op=34),y⟩).2).pass block y (d.s.aN.ask ⟨d.n,block,decide (d.i.op=34),y⟩).1 from by unfold Dng.ask;rw[if_pos h10];simp only;rw[if_pos h34]]
   exact JR 0 ()
  ·refine J 7 ?_
   refine .c call164 rfl (gz (d:=d.dv (d.s.aN.ask ⟨d.n,block,decide (d.i.op=34),y⟩).2) hp ht (Nat.le_trans hk.au (by decide))) fun _ _=>?_
   refine J 1 ?_
   rw[show d.ask block y into=(d.dv (d.s.aN.ask ⟨d.n,block,decide (d.i.op=34),y⟩).2).block 5 into block y from by unfold Dng.ask;rw[if_pos h10];simp only;rw[if_neg h34]]
   exact JR 0 ()
 ·refine J 9 ?_
  refine .hJ rfl ?_
  refine J 6 ?_
  refine .c call117 rfl (cR hp ht (Nat.le_trans hk.au (by decide)) (by decide) hk.R.l) fun _ _=>?_
  refine J 4 ?_
  rw[show d.ask block y into=d.pass block y 1 from by unfold Dng.ask;rw[if_neg h10]]
  exact JR 0 ()
end Go.SLYtefdijgllbkmfaaGreat
namespace Go.SLYtefdijgllbkmfaaGreat
open Go Go.RowKit Go.Proofs Go.Proofs.Tryz
attribute [local irreducible] ax aS bo bY bP Y
theorem JK{W:World}{bd b p:Nat}{d:Dng}{t:bF}{vw ve:Value}(ht:d.s.thr[d.n]?=some (some t))(hI:0≤d.i.a∧d.i.a<8):Fn Tryz.prog W 120 [ptr bd] [arr bd 0 (ez b p d vw ve),arr p 0 (bH t)] Unit (fun _=>.int .u64 d.a) (fun _=>True) (fun _=>[arr bd 0 (ez b p d vw ve),arr p 0 (bH t)]):=by
 refine Fn.intro (N:=17) func120 rfl ntmps120 rfl fun F=>?_
 show ax _ _ _ _ _ _ [arr bd 0 (ez b p d vw ve),arr p 0 (bH t),F]
 refine J 6 ?_
 refine .draw [] [1,1,1,1,1,1,1,1,1,1,1,1,1,1,1] rfl (by kernel_rfl) ?_
 refine J 12 ?_
 refine .p (.aF d.i.a.toNat underlying39 sizeOf38 rfl rfl (by omega) (by omega)) ?_
 refine .p (.ld rfl (Cell.a (my (by omega)))) ?_
 refine J 4 ?_
 refine .aI rfl rfl fun w s=>⟨(),?_,trivial,aq .auto s⟩
 rw[show d.a=t.av.getD d.i.a.toNat 0 from by unfold Dng.a;rw[bZ ht];rfl]
theorem FE{W:World}{bd b p:Nat}{d:Dng}{t:bF}{vw ve:Value}(ht:d.s.thr[d.n]?=some (some t))(hI:0≤d.i.b∧d.i.b<8):Fn Tryz.prog W 162 [ptr bd] [arr bd 0 (ez b p d vw ve),arr p 0 (bH t)] Unit (fun _=>.int .u64 d.b) (fun _=>True) (fun _=>[arr bd 0 (ez b p d vw ve),arr p 0 (bH t)]):=by
 refine Fn.intro (N:=17) func162 rfl ntmps162 rfl fun F=>?_
 show ax _ _ _ _ _ _ [arr bd 0 (ez b p d vw ve),arr p 0 (bH t),F]
 refine J 6 ?_
 refine .draw [] [1,1,1,1,1,1,1,1,1,1,1,1,1,1,1] rfl (by kernel_rfl) ?_
 refine J 12 ?_
 refine .p (.aF d.i.b.toNat underlying39 sizeOf38 rfl rfl (by omega) (by omega)) ?_
 refine .p (.ld rfl (Cell.a (my (by omega)))) ?_
 refine J 4 ?_
 refine .aI rfl rfl fun w s=>⟨(),?_,trivial,aq .auto s⟩
 rw[show d.b=t.av.getD d.i.b.toNat 0 from by unfold Dng.b;rw[bZ ht];rfl]
theorem Bp{W:World}{bd b p:Nat}{ps:List (Option Nat)}{d:Dng}{t:bF}(hp:ps[d.n]?=some (some p))(ht:d.s.thr[d.n]?=some (some t))(hk:iA ps d t):Fn Tryz.prog W 124 [ptr bd] [bu bd b p ps d] Unit (fun _=>.tuple #[]) (fun _=>True) (fun _=>[bu bd b p ps (d.bX)]):=by
 refine Fn.intro (N:=86) func124 rfl ntmps124 rfl fun F=>?_
 show ax _ _ _ _ _ _ [bu bd b p ps d,F]
 refine .o2 (C:=bu bd b p ps (d)) .auto rfl ?_
 rintro vw ve -
 refine .jR (C:=dE b ps (d).s) .auto rfl ?_
 rintro fv sv pv bt vm bg vt bk bw vr -
 have hnn:=hk.nn
 have hn0:=hk.I.n
 refine J 7 ?_
 refine .p (.gp underlying38 underlying3 rfl (by omega)) ?_
 refine JD 14 (fun h19=>?_) fun h19=>?_
 ·refine J 1 ?_
  refine .draw [arr bd 0 (ez b p d vw ve),arr b 0 (fU fv sv pv d.s.dG bt ps vm bg vt bk bw vr)] [1,1,1,1,1,1,1,1,1,1,1,1,3,1,1,1,1,1,1,1] rfl (by kernel_rfl) ?_
  refine J 12 ?_
  refine .c call173 rfl (HC hk.gl hk.Gl) fun _ _=>?_
  refine J 1 ?_
  refine .p (.extract (v:=.int .i64 (d.s.ag.up d.i.n d.choice).1) rfl rfl) ?_
  refine .p (.extract (v:=.bool (d.s.ag.up d.i.n d.choice).2.1) rfl rfl) ?_
  refine .p (.extract (v:=.int .i64 (d.s.ag.up d.i.n d.choice).2.2.1) rfl rfl) ?_
  refine J 14 ?_
  refine .c call117 rfl (cR (d:=d.aY (d.s.ag.up d.i.n d.choice).2.2.2) hp ht (Nat.le_trans hk.au (by decide)) D1 hk.R.l) fun _ _=>?_
  refine J 7 ?_
  refine .c call167 rfl (qc (n:=(d.s.ag.up d.i.n d.choice).1) (ok:=(d.s.ag.up d.i.n d.choice).2.1) (d:=((d.aY (d.s.ag.up d.i.n d.choice).2.2.2).pass d.i.n 0 (d.s.ag.up d.i.n d.choice).2.2.1)) (fun h=>⟨(hk.iE _ (D2 h)).1,((hk.iE _ (D2 h)).2.of (s':=(d.aY (d.s.ag.up d.i.n d.choice).2.2.2).s) rfl).pass (d:=d.aY (d.s.ag.up d.i.n d.choice).2.2.2) ht hk.R D1⟩) (Nat.le_trans hk.ends (by decide)) (Nat.le_trans hk.Gk (by decide))) fun _ _=>?_
  refine J 4 ?_
  rw[show d.bX=((d.aY (d.s.ag.up d.i.n d.choice).2.2.2).pass d.i.n 0 (d.s.ag.up d.i.n d.choice).2.2.1).given (d.s.ag.up d.i.n d.choice).1 (d.s.ag.up d.i.n d.choice).2.1 from by unfold Dng.bX;rw[if_pos h19]]
  exact JR 0 ()
 ·refine J 3 ?_
  refine .draw [arr bd 0 (ez b p d vw ve),arr b 0 (fU fv sv pv d.s.dG bt ps vm bg vt bk bw vr)] [1,1,1,1,1,1,1,1,1,1,1,1,3,1,1,1,1,1] rfl (by kernel_rfl) ?_
  refine J 12 ?_
  refine .c call174 rfl (CL hk.gl hk.Gl) fun _ _=>?_
  refine J 1 ?_
  refine .p (.extract (v:=.bool (d.s.ag.down d.n d.i.n).1) rfl rfl) ?_
  refine .p (.extract (v:=.int .i64 (d.s.ag.down d.n d.i.n).2.1) rfl rfl) ?_
  refine J 10 ?_
  apply aS.gr 3 70 67 [67,68,69,70] rfl
  ·intro h67
   exact JS 4
  ·intro h67
   exact JS 4
  refine JD 2 (fun h70=>?_) fun h70=>?_
  ·simp only[Bool.and_eq_true,decide_eq_true_eq,Bool.not_eq_true'] at h70
   refine J 8 ?_
   refine .c call164 rfl (gz (d:=d.aY (d.s.ag.down d.n d.i.n).2.2) hp ht (Nat.le_trans hk.au (by decide))) fun _ _=>?_
   refine J 4 ?_
   rw[show d.bX=(d.aY (d.s.ag.down d.n d.i.n).2.2).block 3 (-1) d.i.n 0 from by unfold Dng.bX;rw[if_neg h19];simp only;rw[if_pos h70]]
   exact JR 0 ()
  ·simp only[Bool.and_eq_false_iff,decide_eq_false_iff_not,Bool.not_eq_false'] at h70
   refine J 10 ?_
   refine .c call117 rfl (cR (d:=d.aY (d.s.ag.down d.n d.i.n).2.2) hp ht (Nat.le_trans hk.au (by decide)) AF hk.R.l) fun _ _=>?_
   refine J 1 ?_
   rw[show d.bX=(d.aY (d.s.ag.down d.n d.i.n).2.2).pass d.i.n 0 (d.s.ag.down d.n d.i.n).2.1 from by unfold Dng.bX;rw[if_neg h19];simp only;rw[if_neg (by rintro⟨a,b⟩;rcases h70 with h | h;exact h a;rw[b] at h;cases h)]]
   exact JR 0 ()
theorem qd{W:World}{bd b p:Nat}{ps:List (Option Nat)}{d:Dng}{t:bF}(hp:ps[d.n]?=some (some p))(ht:d.s.thr[d.n]?=some (some t))(hk:iA ps d t):Fn Tryz.prog W 121 [ptr bd] [bu bd b p ps d] Unit (fun _=>.tuple #[]) (fun _=>True) (fun _=>[bu bd b p ps (d.mutex)]):=by
 refine Fn.intro (N:=155) func121 rfl ntmps121 rfl fun F=>?_
 show ax _ _ _ _ _ _ [bu bd b p ps d,F]
 refine .o2 (C:=bu bd b p ps (d)) .auto rfl ?_
 rintro vw ve -
 refine .jR (C:=dE b ps (d).s) .auto rfl ?_
 rintro fv sv pv bt vm bg vt bk bw vr -
 have hnn:=hk.nn
 have hn0:=hk.I.n
 have hIc:=hk.I.c
 have hwc:=IE hIc
 refine J 7 ?_
 refine .p (.gp underlying38 underlying3 rfl (by omega)) ?_
 refine JD 19 (fun h81=>?_) fun h81=>?_
 ·refine J 1 ?_
  refine .draw [arr bd 0 (ez b p d vw ve),arr b 0 (fU fv sv pv d.s.dG bt ps vm bg vt bk bw vr)] [1,1,1,1,1,1,1,1,1,1,1,1,3,1,1,1,1,1] rfl (by kernel_rfl) ?_
  refine J 12 ?_
  refine .c call165 rfl (CJ hk.gl) fun _ _=>?_
  refine J 1 ?_
  refine .p (.extract (v:=.bool (d.s.ag.lock d.n d.i.n).1) rfl rfl) ?_
  refine .p (.extract (v:=.int .i64 (d.s.ag.lock d.n d.i.n).2.1) rfl rfl) ?_
  refine J 10 ?_
  apply aS.gr 3 104 101 [101,102,103,104] rfl
  ·intro h101
   exact JS 4
  ·intro h101
   exact JS 4
  refine JD 2 (fun h104=>?_) fun h104=>?_
  ·simp only[Bool.and_eq_true,decide_eq_true_eq,Bool.not_eq_true'] at h104
   refine J 8 ?_
   refine .c call164 rfl (gz (d:=d.aY (d.s.ag.lock d.n d.i.n).2.2) hp ht (Nat.le_trans hk.au (by decide))) fun _ _=>?_
   refine J 5 ?_
   rw[show d.mutex=(d.aY (d.s.ag.lock d.n d.i.n).2.2).block 1 (-1) d.i.n 0 from by unfold Dng.mutex;simp only;rw[if_pos h81,if_pos h104]]
   exact JR 0 ()
  ·simp only[Bool.and_eq_false_iff,decide_eq_false_iff_not,Bool.not_eq_false'] at h104
   refine J 10 ?_
   refine .c call117 rfl (cR (d:=d.aY (d.s.ag.lock d.n d.i.n).2.2) hp ht (Nat.le_trans hk.au (by decide)) AD hk.R.l) fun _ _=>?_
   refine J 2 ?_
   rw[show d.mutex=(d.aY (d.s.ag.lock d.n d.i.n).2.2).pass d.i.n 0 (d.s.ag.lock d.n d.i.n).2.1 from by unfold Dng.mutex;simp only;rw[if_pos h81,if_neg (by rintro⟨a,b⟩;rcases h104 with h | h;exact h a;rw[b] at h;cases h)]]
   exact JR 0 ()
 ·refine JD 6 (fun h120=>?_) fun h120=>?_
  ·refine J 1 ?_
   refine .draw [arr bd 0 (ez b p d vw ve),arr b 0 (fU fv sv pv d.s.dG bt ps vm bg vt bk bw vr)] [1,1,1,1,1,1,1,1,1,1,1,1,1,1,1,1,3,1,1,1,1,1,1,1] rfl (by kernel_rfl) ?_
   refine J 16 ?_
   refine .c call166 rfl (yF hk.gl) fun _ _=>?_
   refine J 1 ?_
   refine .p (.extract (v:=.int .i64 (d.s.ag.unlock d.n d.i.n d.choice).1) rfl rfl) ?_
   refine .p (.extract (v:=.bool (d.s.ag.unlock d.n d.i.n d.choice).2.1) rfl rfl) ?_
   refine .p (.extract (v:=.int .i64 (d.s.ag.unlock d.n d.i.n d.choice).2.2.1) rfl rfl) ?_
   refine J 14 ?_
   refine .c call117 rfl (cR (d:=d.aY (d.s.ag.unlock d.n d.i.n d.choice).2.2.2) hp ht (Nat.le_trans hk.au (by decide)) pJ hk.R.l) fun _ _=>?_
   refine J 6 ?_
   refine .c call167 rfl (qc (n:=(d.s.ag.unlock d.n d.i.n d.choice).1) (ok:=(d.s.ag.unlock d.n d.i.n d.choice).2.1) (d:=((d.aY (d.s.ag.unlock d.n d.i.n d.choice).2.2.2).pass d.i.n 0 (d.s.ag.unlock d.n d.i.n d.choice).2.2.1)) (fun h=>⟨(hk.iE _ (se h)).1,((hk.iE _ (se h)).2.of (s':=(d.aY (d.s.ag.unlock d.n d.i.n d.choice).2.2.2).s) rfl).pass (d:=d.aY (d.s.ag.unlock d.n d.i.n d.choice).2.2.2) ht hk.R pJ⟩) (Nat.le_trans hk.ends (by decide)) (Nat.le_trans hk.Gk (by decide))) fun _ _=>?_
   refine J 2 ?_
   rw[show d.mutex=((d.aY (d.s.ag.unlock d.n d.i.n d.choice).2.2.2).pass d.i.n 0 (d.s.ag.unlock d.n d.i.n d.choice).2.2.1).given (d.s.ag.unlock d.n d.i.n d.choice).1 (d.s.ag.unlock d.n d.i.n d.choice).2.1 from by unfold Dng.mutex;simp only;rw[if_neg h81,if_pos h120]]
   exact JR 0 ()
  ·refine J 1 ?_
   refine .draw [arr bd 0 (ez b p d vw ve),arr b 0 (fU fv sv pv d.s.dG bt ps vm bg vt bk bw vr)] [1,1,1,1,1,1,1,1,1,1,1,1,1,1,1,1,1,1,1,1,1,3,1,1,1,1,1,1,1] rfl (by kernel_rfl) ?_
   refine J 21 ?_
   refine .c call168 rfl (CK hk.gl) fun _ _=>?_
   refine J 1 ?_
   refine .p (.extract (v:=.int .i64 (d.s.ag.wait d.n d.i.n d.i.c d.choice).1) rfl rfl) ?_
   refine .p (.extract (v:=.bool (d.s.ag.wait d.n d.i.n d.i.c d.choice).2.1) rfl rfl) ?_
   refine .p (.extract (v:=.int .i64 (d.s.ag.wait d.n d.i.n d.i.c d.choice).2.2.1) rfl rfl) ?_
   refine JD 12 (fun h48=>?_) fun h48=>?_
   ·refine J 1 ?_
    refine .draw [] [1,1,1,1,1,1,1,1,1,1,1,1,1,3] rfl (by kernel_rfl) ?_
    refine J 11 ?_
    refine .p (.fY underlying3 underlying38 rfl (by omega)) ?_
    refine J 1 ?_
    refine .c call117 rfl (cR (d:=d.aY (d.s.ag.wait d.n d.i.n d.i.c d.choice).2.2.2) hp ht (Nat.le_trans hk.au (by decide)) AE hk.R.l) fun _ _=>?_
    refine J 5 ?_
    rw[show d.mutex=(d.aY (d.s.ag.wait d.n d.i.n d.i.c d.choice).2.2.2).pass d.i.n d.i.c (d.s.ag.wait d.n d.i.n d.i.c d.choice).2.2.1 from by unfold Dng.mutex;simp only;rw[if_neg h81,if_neg h120,if_pos h48,hwc]]
    exact JR 0 ()
   ·refine J 3 ?_
    refine .draw [] [1,1,1,1,1,1,1,1,1,1,1,1,3] rfl (by kernel_rfl) ?_
    refine J 11 ?_
    refine .p (.fY underlying3 underlying38 rfl (by omega)) ?_
    refine .c call164 rfl (gz (d:=d.aY (d.s.ag.wait d.n d.i.n d.i.c d.choice).2.2.2) hp ht (Nat.le_trans hk.au (by decide))) fun _ _=>?_
    refine J 6 ?_
    refine .c call167 rfl (qc (n:=(d.s.ag.wait d.n d.i.n d.i.c d.choice).1) (ok:=(d.s.ag.wait d.n d.i.n d.i.c d.choice).2.1) (d:=((d.aY (d.s.ag.wait d.n d.i.n d.i.c d.choice).2.2.2).block 2 (-1) d.i.n d.i.c)) (fun h=>⟨(hk.iE _ (xz h)).1,((hk.iE _ (xz h)).2.of (s':=(d.aY (d.s.ag.wait d.n d.i.n d.i.c d.choice).2.2.2).s) rfl).block (d:=d.aY (d.s.ag.wait d.n d.i.n d.i.c d.choice).2.2.2) ht hk.R (by decide)⟩) (Nat.le_trans hk.ends (by decide)) (Nat.le_trans hk.Gk (by decide))) fun _ _=>?_
    refine J 2 ?_
    rw[show d.mutex=((d.aY (d.s.ag.wait d.n d.i.n d.i.c d.choice).2.2.2).block 2 (-1) d.i.n d.i.c).given (d.s.ag.wait d.n d.i.n d.i.c d.choice).1 (d.s.ag.wait d.n d.i.n d.i.c d.choice).2.1 from by unfold Dng.mutex;simp only;rw[if_neg h81,if_neg h120,if_neg h48,hwc]]
    exact JR 0 ()
end Go.SLYtefdijgllbkmfaaGreat
namespace Go.SLYtefdijgllbkmfaaGreat
open Go Go.RowKit Go.Proofs Go.Proofs.Tryz
attribute [local irreducible] ax aS bo bY bP Y
theorem HD{W:World}{bd b p:Nat}{ps:List (Option Nat)}{d:Dng}{t:bF}(hp:ps[d.n]?=some (some p))(ht:d.s.thr[d.n]?=some (some t))(hk:iA ps d t)(hop:d.i.op=35∨d.i.op=36):Fn Tryz.prog W 176 [ptr bd] [bu bd b p ps d] Unit (fun _=>.tuple #[]) (fun _=>True) (fun _=>[bu bd b p ps (d.put)]):=by
 refine Fn.intro (N:=57) func176 rfl ntmps176 rfl fun F=>?_
 show ax _ _ _ _ _ _ [bu bd b p ps d,F]
 refine .o2 (C:=bu bd b p ps (d)) .auto rfl ?_
 rintro vw ve -
 refine .jR (C:=dE b ps (d).s) .auto rfl ?_
 rintro fv sv pv bt vm bg vt bk bw vr -
 have hnn:=hk.nn
 have hn0:=hk.I.n
 refine .o1 (C:=qp vt d.s.bx) .auto rfl ?_
 rintro xs hxs
 obtain⟨xq,hx,hmem⟩:=AG hxs hn0.1 (hk.oy hop)
 have hxl:xs.length=d.s.bx.length:=by rw[← hxs,List.length_map]
 have hti:=hk.oy hop
 refine .fr .auto (cq hp ht) ?_
 refine J 1 ?_
 refine .draw [] [1,1,1,1,1,1,1,1,1,1,1,1,1,1,1] rfl (by kernel_rfl) ?_
 refine J 12 ?_
 refine .p (.ix d.i.n.toNat rfl rfl (by omega) (by omega)) ?_
 refine .p (.lr rfl hx) ?_
 refine J 6 ?_
 refine .c call120 rfl (JK ht hk.I.a) fun _ _=>?_
 refine J 5 ?_
 obtain⟨x,hx0⟩:∃ x,x=d.a:=⟨_,rfl⟩
 rw[← hx0]
 refine J 6 ?_
 refine .fr .auto (lT (f:=fun x:Nat×Tub=>ib x.1 x.2) hx) ?_
 refine .c call216 rfl (FA (hk.tl _ hmem)) fun _ _=>?_
 refine .to (A:=qp vt (d.s.bx.set d.i.n.toNat (d.bc.put d.n x).2.2.2)) (Bs:=[sl dD 1 vt xs,ib xq (d.bc.put d.n x).2.2.2,bb (fun x:Nat×Tub=>ib x.1 x.2) (xs.eraseIdx d.i.n.toNat)]) .auto (vL hx hxs (d.bc.put d.n x).2.2.2) ?_
 refine .to (A:=aG ps d.s.thr) (Bs:=[arr p 0 (bH t),aG (ps.set d.n none) (d.s.thr.set d.n none)]) .auto (cI hp ht) ?_
 refine J 1 ?_
 refine .p (.extract (v:=.bool (d.bc.put d.n x).1) rfl rfl) ?_
 refine .p (.extract (v:=.int .i64 (d.bc.put d.n x).2.1) rfl rfl) ?_
 refine .p (.extract (v:=.bool (d.bc.put d.n x).2.2.1) rfl rfl) ?_
 refine JD 12 (fun h35=>?_) fun h35=>?_
 ·refine J 9 ?_
  refine .c call164 rfl (gz (d:=(d.dM d.i.n.toNat (d.bc.put d.n x).2.2.2)) hp ht (Nat.le_trans hk.au (by decide))) fun _ _=>?_
  refine J 4 ?_
  rw[show d.put=(d.dM d.i.n.toNat (d.bc.put d.n x).2.2.2).block 7 (-1) d.i.n x from by unfold Dng.put;rw[← hx0];simp only;rw[if_pos (by simpa using h35)]]
  exact JR 0 ()
 ·refine J 11 ?_
  refine .c call117 rfl (cR (d:=(d.dM d.i.n.toNat (d.bc.put d.n x).2.2.2)) hp ht (Nat.le_trans hk.au (by decide)) (by decide) hk.R.l) fun _ _=>?_
  refine JD 7 (fun h52=>?_) fun h52=>?_
  ·have hlv:=(hk.xA _ hmem).1 _ (D3 h52)
   obtain⟨hw16,q,u,hq,hu,hRu⟩:=(hlv.2.of (s':=(d.dM d.i.n.toNat (d.bc.put d.n x).2.2.2).s) rfl).pass (x:=d.i.n) (y:=x) (e:=0) (d:=(d.dM d.i.n.toNat (d.bc.put d.n x).2.2.2)) ht hk.R (by decide)
   refine J 4 ?_
   refine .c call114 rfl (kE (d:=(d.dM d.i.n.toNat (d.bc.put d.n x).2.2.2).pass d.i.n x 0) hlv.1 hq hu hw16 hRu (Nat.le_trans hk.ends (by decide)) (Nat.le_trans hk.Gk (by decide))) fun _ _=>?_
   refine J 1 ?_
   rw[show d.put=((d.dM d.i.n.toNat (d.bc.put d.n x).2.2.2).pass d.i.n x 0).dW (d.bc.put d.n x).2.1.toNat x from by unfold Dng.put;rw[← hx0];simp only;rw[if_neg (by simpa using h35),if_pos h52]]
   exact JR 0 ()
  ·refine J 1 ?_
   rw[show d.put=(d.dM d.i.n.toNat (d.bc.put d.n x).2.2.2).pass d.i.n x 0 from by unfold Dng.put;rw[← hx0];simp only;rw[if_neg (by simpa using h35),if_neg (by rw[h52];simp)]]
   exact JR 0 ()
theorem HE{W:World}{bd b p:Nat}{ps:List (Option Nat)}{d:Dng}{t:bF}(hp:ps[d.n]?=some (some p))(ht:d.s.thr[d.n]?=some (some t))(hk:iA ps d t)(hop:d.i.op=35∨d.i.op=36):Fn Tryz.prog W 177 [ptr bd] [bu bd b p ps d] Unit (fun _=>.tuple #[]) (fun _=>True) (fun _=>[bu bd b p ps (d.get)]):=by
 refine Fn.intro (N:=70) func177 rfl ntmps177 rfl fun F=>?_
 show ax _ _ _ _ _ _ [bu bd b p ps d,F]
 refine .o2 (C:=bu bd b p ps (d)) .auto rfl ?_
 rintro vw ve -
 refine .jR (C:=dE b ps (d).s) .auto rfl ?_
 rintro fv sv pv bt vm bg vt bk bw vr -
 have hnn:=hk.nn
 have hn0:=hk.I.n
 refine .o1 (C:=qp vt d.s.bx) .auto rfl ?_
 rintro xs hxs
 obtain⟨xq,hx,hmem⟩:=AG hxs hn0.1 (hk.oy hop)
 have hxl:xs.length=d.s.bx.length:=by rw[← hxs,List.length_map]
 have hti:=hk.oy hop
 have hIa:=hk.I.a
 have hRl:=hk.R.l
 refine J 1 ?_
 refine .fr .auto (lT (f:=fun x:Nat×Tub=>ib x.1 x.2) hx) ?_
 refine .draw [arr bd 0 (ez b p d vw ve),arr b 0 (fU fv sv pv d.s.dG bt ps vm bg vt bk bw vr),sl dD 1 vt xs] [1,1,1,1,1,1,1,1,1,1,1,1,1,1,1,1,1,1,3,1,1,1,1,1,1,1,1,1] rfl (by kernel_rfl) ?_
 refine J 12 ?_
 refine .p (.ix d.i.n.toNat rfl rfl (by omega) (by omega)) ?_
 refine .p (.lr rfl hx) ?_
 refine J 4 ?_
 refine .c call217 rfl (FB (hk.tl _ hmem)) fun _ _=>?_
 refine J 1 ?_
 refine .p (.extract (v:=.int .u64 (d.bc.get d.n).1) rfl rfl) ?_
 refine .p (.extract (v:=.bool (d.bc.get d.n).2.1) rfl rfl) ?_
 refine .p (.extract (v:=.int .i64 (d.bc.get d.n).2.2.1) rfl rfl) ?_
 refine .p (.extract (v:=.bool (d.bc.get d.n).2.2.2.1) rfl rfl) ?_
 refine JD 13 (fun h31=>?_) fun h31=>?_
 ·refine J 1 ?_
  refine .to (A:=qp vt (d.s.bx.set d.i.n.toNat (d.bc.get d.n).2.2.2.2)) (Bs:=[sl dD 1 vt xs,ib xq (d.bc.get d.n).2.2.2.2,bb (fun x:Nat×Tub=>ib x.1 x.2) (xs.eraseIdx d.i.n.toNat)]) .auto (vL hx hxs (d.bc.get d.n).2.2.2.2) ?_
  refine .draw [] [1,1,1,1,1,1,1,1,1,1,1,3] rfl (by kernel_rfl) ?_
  refine J 11 ?_
  refine .c call164 rfl (gz (d:=(d.dM d.i.n.toNat (d.bc.get d.n).2.2.2.2)) hp ht (Nat.le_trans hk.au (by decide))) fun _ _=>?_
  refine J 4 ?_
  rw[show d.get=(d.dM d.i.n.toNat (d.bc.get d.n).2.2.2.2).block 6 d.i.a d.i.n 0 from by unfold Dng.get;simp only;rw[if_pos (by simpa using h31)]]
  exact JR 0 ()
 ·refine J 3 ?_
  refine .to (A:=qp vt (d.s.bx.set d.i.n.toNat (d.bc.get d.n).2.2.2.2)) (Bs:=[sl dD 1 vt xs,ib xq (d.bc.get d.n).2.2.2.2,bb (fun x:Nat×Tub=>ib x.1 x.2) (xs.eraseIdx d.i.n.toNat)]) .auto (vL hx hxs (d.bc.get d.n).2.2.2.2) ?_
  refine .fr .auto (cq hp ht) ?_
  refine .draw [arr bd 0 (ez b p d vw ve)] [1,1,1,1,1,1,1,1,1,1,1,1,1,1,3] rfl (by kernel_rfl) ?_
  refine J 13 ?_
  refine .p (.aF d.i.a.toNat underlying39 sizeOf38 rfl rfl (by omega) (by omega)) ?_
  refine .d3 rfl (af.st sizeOf38 rfl rfl rfl (Nat.blt_eq.mpr (by show 2+d.i.a.toNat * 1<18;omega))) ?_
  rintro _ _ ⟨rfl,rfl⟩
  rw[jb _ (by omega) (by omega) hRl]
  refine .to (A:=aG ps (d.s.thr.set d.n (some (t.put d.i.a (d.bc.get d.n).1)))) (Bs:=[arr p 0 (bH (t.put d.i.a (d.bc.get d.n).1)),aG (ps.set d.n none) (d.s.thr.set d.n none)]) .auto (cW (List.getElem?_eq_some_iff.1 ht).1 hp) ?_
  refine J 11 ?_
  refine .c call117 rfl (cR (d:=((d.dM d.i.n.toNat (d.bc.get d.n).2.2.2.2).aj (t.put d.i.a (d.bc.get d.n).1))) (t:=t.put d.i.a (d.bc.get d.n).1) hp (bS ht) (Nat.le_trans hk.au (by decide)) (by decide) (by rw[jE];exact hRl)) fun _ _=>?_
  refine JD 7 (fun h66=>?_) fun h66=>?_
  ·obtain⟨z,hz,hzw⟩:=D4 h66
   have hlv:=(hk.xA _ hmem).2 z hz
   rw[hzw] at hlv
   have hRg:=hk.R.put (i:=d.i.a) (D5 (who:=d.n) (hk.tw _ hmem))
   obtain⟨hw16,q,u,hq,hu,hRu⟩:=((hlv.2.of (s':=(d.dM d.i.n.toNat (d.bc.get d.n).2.2.2.2).s) rfl).aj (n:=d.n) hRg).pass (x:=d.i.n) (y:=(d.bc.get d.n).1) (e:=0) (d:=((d.dM d.i.n.toNat (d.bc.get d.n).2.2.2.2).aj (t.put d.i.a (d.bc.get d.n).1))) (bS ht) hRg (by decide)
   refine J 3 ?_
   refine .c call114 rfl (kE (d:=((d.dM d.i.n.toNat (d.bc.get d.n).2.2.2.2).aj (t.put d.i.a (d.bc.get d.n).1)).pass d.i.n (d.bc.get d.n).1 0) hlv.1 hq hu hw16 hRu (Nat.le_trans hk.ends (by decide)) (Nat.le_trans hk.Gk (by decide))) fun _ _=>?_
   refine J 1 ?_
   rw[show d.get=(((d.dM d.i.n.toNat (d.bc.get d.n).2.2.2.2).aj (t.put d.i.a (d.bc.get d.n).1)).pass d.i.n (d.bc.get d.n).1 0).dW (d.bc.get d.n).2.2.1.toNat 0 from by unfold Dng.get;simp only;rw[if_neg (by simpa using h31),if_pos h66,show(d.dM d.i.n.toNat (d.bc.get d.n).2.2.2.2).t=t from bZ ht]]
   exact JR 0 ()
  ·refine J 1 ?_
   rw[show d.get=((d.dM d.i.n.toNat (d.bc.get d.n).2.2.2.2).aj (t.put d.i.a (d.bc.get d.n).1)).pass d.i.n (d.bc.get d.n).1 0 from by unfold Dng.get;simp only;rw[if_neg (by simpa using h31),if_neg (by rw[h66];simp),show(d.dM d.i.n.toNat (d.bc.get d.n).2.2.2.2).t=t from bZ ht]]
   exact JR 0 ()
end Go.SLYtefdijgllbkmfaaGreat
namespace Go.SLYtefdijgllbkmfaaGreat
open Go Go.RowKit Go.Proofs Go.Proofs.Tryz
attribute [local irreducible] ax aS bo bY bP Y
theorem CQ{W:World}{bd b p:Nat}{ps:List (Option Nat)}{d:Dng}{t:bF}(hp:ps[d.n]?=some (some p))(ht:d.s.thr[d.n]?=some (some t))(hk:iA ps d t):Fn Tryz.prog W 116 [ptr bd] [bu bd b p ps d] (List (Option Nat)) (fun _=>.tuple #[]) (fun _=>True) (fun qs=>[bu bd b p qs d.spawn]):=by
 refine Fn.intro (N:=70) func116 rfl ntmps116 rfl fun F=>?_
 show ax _ _ _ _ _ _ [bu bd b p ps d,F]
 refine .o2 (C:=bu bd b p ps (d)) .auto rfl ?_
 rintro vw ve -
 refine .jR (C:=dE b ps (d).s) .auto rfl ?_
 rintro fv sv pv bt vm bg vt bk bw vr -
 have hnn:=hk.nn
 have hn0:=hk.I.n
 refine .fr .auto (cq hp ht) ?_
 have hIa:=hk.I.a
 have hRl:=hk.R.l
 have hlt:=hk.lt
 refine J 1 ?_
 refine .draw [arr bd 0 (ez b p d vw ve)] [0,0,0,0,0,0,0,0,0,0,1,2,3,1,1,1,1,1] rfl (by kernel_rfl) ?_
 refine J 9 ?_
 refine .q (.gp underlying38 underlying3 rfl (by omega)) ?_
 refine J 1 ?_
 refine .c2 call162 rfl (FE ht hk.I.b) fun _ _=>?_
 refine .to (A:=aG ps d.s.thr) (Bs:=[arr p 0 (bH t),aG (ps.set d.n none) (d.s.thr.set d.n none)]) .auto (cI hp ht) ?_
 refine .d3 rfl (af.fQ rfl call65 rfl (s6 hk.T hk.lt hk.free) .auto) ?_
 rintro _ _ ⟨qs,⟨q,hqs⟩,rfl,rfl⟩
 refine J 1 ?_
 refine .p (.extract (v:=.int .i64 (d.s.begin d.i.n d.b).1) rfl rfl) ?_
 refine .p (.extract (v:=.int .i64 (d.s.begin d.i.n d.b).2.1) rfl rfl) ?_
 refine JD 16 (fun h22=>?_) fun h22=>?_
 ·obtain⟨n,hfr⟩:∃ n,slotFree? d.s.table 0=some n:=by
   cases hh:slotFree? d.s.table 0 with
   | none=>rw[iX hh] at h22;cases h22
   | some n=>exact⟨n,rfl⟩
  have hb1:(d.s.begin d.i.n d.b).1=(n:Int):=by rw[dU hfr]
  have hn0e:=hk.free n hfr
  have hn16:n<16:=hlt ▸ (List.getElem?_eq_some_iff.1 hn0e).1
  obtain⟨t1,ht1,ht1e⟩:=pL (f:=d.i.n) (arg:=d.b) hfr (by omega)
  have hqn:qs[n]?=some (some q):=by
   rw[hqs];unfold mn;rw[hfr];exact List.getElem?_set_self (by rw[hk.lp];exact hn16)
  have hne:n≠d.n:=fun e=>by rw[e,ht] at hn0e;cases hn0e
  have hp2:qs[d.n]?=some (some p):=by
   rw[hqs];unfold mn;rw[hfr];exact(List.getElem?_set_ne hne).trans hp
  have ht2:(d.s.begin d.i.n d.b).2.2.thr[d.n]?=some (some t):=by
   rw[dU hfr];exact(List.getElem?_set_ne hne).trans ht
  rw[hb1]
  refine J 2 ?_
  refine .jR (C:=dE b qs (d.s.begin d.i.n d.b).2.2) .auto rfl ?_
  rintro fv sv pv bt vm bg vt bk bw vr -
  refine .fr .auto (cq hqn ht1) ?_
  refine J 7 ?_
  refine .p (.aF n underlying123 sizeOf122 rfl rfl rfl hn16) ?_
  refine .p (.ld rfl (Cell.a (by rw[Nat.mul_one,eP hn16,fh hqn]))) ?_
  refine J 14 ?_
  refine .aw rfl (af.gN 3 rfl rfl (by kernel_rfl)) ?_
  rintro _ _ ⟨b42,rfl,rfl⟩
  refine .aw rfl (af.fb (enc:=aP) (k:=1) (n:Int) rfl underlying23 underlying23 typeInfo3 rfl rfl rfl (by decide) rfl rfl rfl .auto rfl .auto (by have:=hk.Gk;omega) rfl) ?_
  rintro _ _ ⟨v43,rfl,rfl⟩
  refine J 3 ?_
  refine .aw rfl (af.pn sizeOf23 rfl rfl rfl) ?_
  rintro _ _ ⟨rfl,rfl⟩
  refine J 3 ?_
  refine .to (A:=aG qs (d.s.begin d.i.n d.b).2.2.thr) (Bs:=[arr q 0 (bH t1),aG (qs.set n none) ((d.s.begin d.i.n d.b).2.2.thr.set n none)]) .auto (cI hqn ht1) ?_
  refine .fr .auto (cq hp2 ht2) ?_
  refine .draw [arr bd 0 (ez b p d v43 ve)] [1,1,1,1,1,1,1,1,1,1,1,1,1,1,3] rfl (by kernel_rfl) ?_
  refine J 13 ?_
  refine .p (.aF d.i.a.toNat underlying39 sizeOf38 rfl rfl (by omega) (by omega)) ?_
  refine .d3 rfl (af.st sizeOf38 rfl rfl rfl (Nat.blt_eq.mpr (by show 2+d.i.a.toNat * 1<18;omega))) ?_
  rintro _ _ ⟨rfl,rfl⟩
  rw[jb _ (by omega) (by omega) hRl]
  refine .to (A:=aG qs ((d.s.begin d.i.n d.b).2.2.thr.set d.n (some (t.put d.i.a t1.handle)))) (Bs:=[arr p 0 (bH (t.put d.i.a t1.handle)),aG (qs.set d.n none) ((d.s.begin d.i.n d.b).2.2.thr.set d.n none)]) .auto (cW (List.getElem?_eq_some_iff.1 ht2).1 hp2) ?_
  refine J 11 ?_
  refine .c call117 rfl (cR (d:=({d with s:=(d.s.begin d.i.n d.b).2.2,out:={d.out with aL:=d.out.aL++[(n:Int)] } }:Dng).aj (t.put d.i.a t1.handle)) (ps:=qs) (p:=p) (t:=t.put d.i.a t1.handle) hp2 (bS ht2) (by show(d.s.begin d.i.n d.b).2.2.au.length≤_;rw[dU hfr];exact(Nat.le_trans hk.au (by decide))) (by rw[h22];decide) (by rw[jE];exact hRl)) fun _ _=>?_
  refine J 1 ?_
  rw[show d.spawn=(({d with s:=(d.s.begin d.i.n d.b).2.2,out:={d.out with aL:=d.out.aL++[(n:Int)] } }:Dng).aj (t.put d.i.a t1.handle)).pass d.i.n t1.handle (d.s.begin d.i.n d.b).2.1 from by unfold Dng.spawn;simp only;rw[if_pos h22,if_pos h22,hb1,Int.toNat_natCast,cV ht1,show({d with s:=(d.s.begin d.i.n d.b).2.2,out:={d.out with aL:=d.out.aL++[(n:Int)] } }:Dng).t=t from cV ht2]]
  exact JR 0 qs
 ·have hfr:slotFree? d.s.table 0=none:=by
   cases hh:slotFree? d.s.table 0 with
   | none=>rfl
   | some n=>exact absurd (by rw[dU hh]) h22
  have hb:(d.s.begin d.i.n d.b)=(0,2,d.s):=iX hfr
  obtain rfl:qs=ps:=by rw[hqs];unfold mn;rw[hfr]
  rw[hb]
  have hp2:=hp
  have ht2:=ht
  refine .to (A:=dE b qs d.s) (Bs:=[dE b qs d.s]) .auto (fun h a=>by simpa only[seps,aO] using a) ?_
  refine .jR (C:=dE b qs d.s) .auto rfl ?_
  rintro fv sv pv bt vm bg vt bk bw vr -
  refine .fr .auto (cq hp2 ht2) ?_
  refine J 3 ?_
  refine .draw [arr bd 0 (ez b p d vw ve)] [1,1,1,1,1,1,1,1,1,1,1,1,1,1,3] rfl (by kernel_rfl) ?_
  refine J 13 ?_
  refine .p (.aF d.i.a.toNat underlying39 sizeOf38 rfl rfl (by omega) (by omega)) ?_
  refine .d3 rfl (af.st sizeOf38 rfl rfl rfl (Nat.blt_eq.mpr (by show 2+d.i.a.toNat * 1<18;omega))) ?_
  rintro _ _ ⟨rfl,rfl⟩
  rw[jb _ (by omega) (by omega) hRl]
  refine .to (A:=aG qs (d.s.thr.set d.n (some (t.put d.i.a 0)))) (Bs:=[arr p 0 (bH (t.put d.i.a 0)),aG (qs.set d.n none) (d.s.thr.set d.n none)]) .auto (cW (List.getElem?_eq_some_iff.1 ht2).1 hp2) ?_
  refine J 11 ?_
  refine .c call117 rfl (cR (d:=d.aj (t.put d.i.a 0)) (ps:=qs) (p:=p) (t:=t.put d.i.a 0) (e:=2) hp2 (bS ht2) (Nat.le_trans hk.au (by decide)) (by decide) (by rw[jE];exact hRl)) fun _ _=>?_
  refine J 1 ?_
  rw[show d.spawn=(d.aj (t.put d.i.a 0)).pass d.i.n 0 2 from by unfold Dng.spawn;rw[hb];simp only;rw[if_neg (by decide),if_neg (by decide),bZ ht]]
  exact JR 0 qs
theorem Ab{W:World}{bd b p:Nat}{ps:List (Option Nat)}{d:Dng}{t:bF}(hp:ps[d.n]?=some (some p))(ht:d.s.thr[d.n]?=some (some t))(hk:iA ps d t):Fn Tryz.prog W 125 [ptr bd] [bu bd b p ps d] Unit (fun _=>.tuple #[]) (fun _=>True) (fun _=>[bu bd b p ps (d.kernel)]):=by
 refine Fn.intro (N:=42) func125 rfl ntmps125 rfl fun F=>?_
 show ax _ _ _ _ _ _ [bu bd b p ps d,F]
 refine .o2 (C:=bu bd b p ps (d)) .auto rfl ?_
 rintro vw ve -
 have ha0:0≤d.a:=by
  unfold Dng.a;rw[bZ ht];exact(hk.R.r _).1
 have hb0:0≤d.b:=by
  unfold Dng.b;rw[bZ ht];exact(hk.R.r _).1
 refine JD 16 (fun h11=>?_) fun h11=>?_
 ·refine .jR (C:=dE b ps (d).s) .auto rfl ?_
  rintro fv sv pv bt vm bg vt bk bw vr -
  refine .fr .auto (cq hp ht) ?_
  refine .draw [arr bd 0 (ez b p d vw ve)] [0,1,2,0,0,0,0,0,3] rfl (by kernel_rfl) ?_
  refine J 2 ?_
  refine .c2 call162 rfl (FE ht hk.I.b) fun _ _=>?_
  refine J 5 ?_
  refine .to (A:=aG ps d.s.thr) (Bs:=[arr p 0 (bH t),aG (ps.set d.n none) (d.s.thr.set d.n none)]) .auto (cI hp ht) ?_
  refine .c call175 rfl (Bo hp ht hk hb0) fun _ _=>?_
  refine J 2 ?_
  rw[show d.kernel=d.ask d.b 0 d.i.a from by unfold Dng.kernel;repeat (first | rw[if_neg (by omega)] | rw[if_pos (by omega)])]
  exact JR 0 ()
 ·refine JD 6 (fun h22=>?_) fun h22=>?_
  ·refine J 3 ?_
   refine .c call120 rfl (uX hp ht hk.I.a) fun _ _=>?_
   refine J 1 ?_
   refine .c call162 rfl (Ia hp ht hk.I.b) fun _ _=>?_
   refine .c call175 rfl (Bo hp ht hk ha0) fun _ _=>?_
   refine J 2 ?_
   rw[show d.kernel=d.ask d.a d.b (-1) from by unfold Dng.kernel;repeat (first | rw[if_neg (by omega)] | rw[if_pos (by omega)])]
   exact JR 0 ()
  ·refine JD 6 (fun h30=>?_) fun h30=>?_
   ·refine J 2 ?_
    refine .c call176 rfl (HD hp ht hk (.inl h30)) fun _ _=>?_
    refine J 2 ?_
    rw[show d.kernel=d.put from by unfold Dng.kernel;repeat (first | rw[if_neg (by omega)] | rw[if_pos (by omega)])]
    exact JR 0 ()
   ·refine JD 6 (fun h34=>?_) fun h34=>?_
    ·refine J 2 ?_
     refine .c call177 rfl (HE hp ht hk (.inr h34)) fun _ _=>?_
     refine J 2 ?_
     rw[show d.kernel=d.get from by unfold Dng.kernel;repeat (first | rw[if_neg (by omega)] | rw[if_pos (by omega)])]
     exact JR 0 ()
    ·refine JD 6 (fun h38=>?_) fun h38=>?_
     ·refine J 2 ?_
      refine .c call178 rfl (CP hp ht hk) fun _ _=>?_
      refine J 2 ?_
      rw[show d.kernel=d.sleep from by unfold Dng.kernel;repeat (first | rw[if_neg (by omega)] | rw[if_pos (by omega)])]
      exact JR 0 ()
     ·refine J 3 ?_
      refine .c call120 rfl (uX hp ht hk.I.a) fun _ _=>?_
      refine .c call117 rfl (cR hp ht (Nat.le_trans hk.au (by decide)) (by decide) hk.R.l) fun _ _=>?_
      refine J 2 ?_
      rw[show d.kernel=d.pass d.a 0 0 from by unfold Dng.kernel;repeat (first | rw[if_neg (by omega)] | rw[if_pos (by omega)])]
      exact JR 0 ()
end Go.SLYtefdijgllbkmfaaGreat
namespace Go.SLYtefdijgllbkmfaaGreat
open Go Go.RowKit Go.Proofs Go.Proofs.Tryz
attribute [local irreducible] ax aS bo bY bP Y
theorem u1{W:World}{bd b p:Nat}{ps:List (Option Nat)}{d:Dng}{l:List Int}{u:Value}(hl:∀ w∈l,0≤w∧bW ps d.s w.toNat)(hw:∀ w∈d.waits,0≤w∧bW ps d.s w.toNat)(hm:d.s.dG.ay≤(d.s.ag.aD.length:Int))(hgm:d.s.ag.aD.length≤1000000)(hmw:∀ x∈d.s.ag.aD,x.wait.length≤1000000)(hb:d.ends.length+l.length≤1000000∧d.out.aL.length+l.length≤1000000):Fn Tryz.prog W 123 [ptr bd,u] [bu bd b p ps d,sl aP 1 u l] Unit (fun _=>.tuple #[]) (fun _=>True) (fun _=>[bu bd b p ps (d.jY l),sl aP 1 u l]):=by
 refine Fn.intro (N:=57) func123 rfl ntmps123 rfl fun F=>?_
 show ax _ _ _ _ _ _ [bu bd b p ps d,sl aP 1 u l,F]
 refine .o2 (C:=bu bd b p ps d) .auto rfl ?_
 rintro vw ve -
 refine .jR (C:=dE b ps d.s) .auto rfl ?_
 rintro fv sv pv bt vm bg vt bk bw vr -
 have hww:eM d d.s.dG.ay.toNat=d.waits:=rfl
 refine J 15 ?_
 refine .da (X:=Nat) [4,6,17,18,19,20,21,22,23,24,25,26,27,28,29,30,31,32,33,34,35,36,37,38,39,40,41,42,43,44,45,46] (fun k=>d.s.dG.ay.toNat-k) (fun k=>k≤d.s.dG.ay.toNat) (fun k=>[(17,some (.int .i64 (k:Int)))]) (fun k=>[bu bd b p ps ({d with s:=bV d.s (eM d k) }:Dng),sl aP 1 u l,F]) 0 ?_ ?_ ?_ ?_
 ·exact Nat.zero_le _
 ·exact⟨rfl,trivial⟩
 ·exact fun w s=>aK.kept .auto w s
 rintro k hk
 refine JD 6 (fun h18=>?_) fun h18=>?_
 ·refine J 12 ?_
  obtain⟨x,hx⟩:=aB (show k<d.s.ag.aD.length by omega)
  refine .o2 (C:=bu bd b p ps (({d with s:=bV d.s (eM d k) }:Dng))) .auto rfl ?_
  rintro vw ve -
  refine .jR (C:=dE b ps (({d with s:=bV d.s (eM d k) }:Dng)).s) .auto rfl ?_
  rintro fv sv pv bt vm bg vt bk bw vr -
  refine J 8 ?_
  have hxg:(bV d.s (eM d k)).ag.aD[k]?=some x:=by rw[vN];exact hx
  have hxl:=hmw x (List.mem_of_getElem? hx)
  refine .c call172 rfl (tJ hxg hxl) fun u28 _=>?_
  refine J 5 ?_
  refine .da (X:=Nat) [6,30,31,32,33,34,35,36,37,38,39,40,41,42,43,44,45] (fun j=>(x.wait.map (·.who)).length-j) (fun j=>j≤(x.wait.map (·.who)).length) (fun j=>[(30,some (.int .i64 (j:Int)))]) (fun j=>[bu bd b p ps ({d with s:=bV d.s (eM d k++(x.wait.map (·.who)).take j) }:Dng),sl aP 1 u28 (x.wait.map (·.who)),sl aP 1 u l,F]) 0 ?_ ?_ ?_ ?_
  ·exact Nat.zero_le _
  ·exact⟨rfl,trivial⟩
  ·rw[List.take_zero,List.append_nil];exact fun w s=>aK.kept .auto w s
  rintro j hj
  refine JD 6 (fun h31=>?_) fun h31=>?_
  ·refine J 6 ?_
   have hxl2:(x.wait.map (·.who)).length≤1000000:=by rw[List.length_map];exact hxl
   obtain⟨w,hwj⟩:=aB (show j<(x.wait.map (·.who)).length by omega)
   have hwm:w∈d.waits:=List.mem_flatMap.2 ⟨x,List.mem_of_getElem? (i:=k) (by rw[List.getElem?_take_of_lt (by omega)];exact hx),List.mem_of_getElem? hwj⟩
   obtain⟨hw0,hwl⟩:=hw w hwm
   obtain⟨hw16,q,v,hq,hv,hRv⟩:=sf w.toNat (eM d k++(x.wait.map (·.who)).take j) hwl
   refine J 6 ?_
   refine .o2 (C:=bu bd b p ps (({d with s:=bV d.s (eM d k++(x.wait.map (·.who)).take j) }:Dng))) .auto rfl ?_
   rintro vw ve -
   refine .jR (C:=dE b ps (({d with s:=bV d.s (eM d k++(x.wait.map (·.who)).take j) }:Dng)).s) .auto rfl ?_
   rintro fv sv pv bt vm bg vt bk bw vr -
   refine .fr .auto (cq hq hv) ?_
   refine J 7 ?_
   refine .p (.aF w.toNat underlying123 sizeOf122 rfl rfl (by omega) hw16) ?_
   refine .p (.ld rfl (Cell.a (by rw[Nat.mul_one,eP hw16,fh hq]))) ?_
   refine J 3 ?_
   rw[oh]
   refine J 7 ?_
   refine .to (A:=aG ps (({d with s:=bV d.s (eM d k++(x.wait.map (·.who)).take j) }:Dng).s.thr.set w.toNat (some ({v with why:=1 })))) (Bs:=[arr q 0 (bH ({v with why:=1 })),aG (ps.set w.toNat none) (({d with s:=bV d.s (eM d k++(x.wait.map (·.who)).take j) }:Dng).s.thr.set w.toNat none)]) .auto (cW (List.getElem?_eq_some_iff.1 hv).1 hq) ?_
   refine .bq (j+1) .auto rfl ?_ ?_ ?_ ?_
   ·omega
   ·show j+1≤_;omega
   ·exact⟨rfl,trivial⟩
   ·rw[cx hwj, ← List.append_assoc,zl _ _ [w],show bV (bV d.s (eM d k++(x.wait.map (·.who)).take j)) [w]=(bV d.s (eM d k++(x.wait.map (·.who)).take j)).aj w.toNat {v with why:=1 } from by show Spc.aj _ _ _=_;rw[cV hv]];exact fun w s=>aK.kept .auto w s
  ·refine J 10 ?_
   rw[List.take_of_length_le (by omega), ← vQ hx]
   refine .bq (k+1) .auto rfl ?_ ?_ ?_ ?_
   ·omega
   ·show k+1≤_;omega
   ·exact⟨rfl,trivial⟩
   ·exact fun w s=>aK.kept .auto w s
 ·refine J 13 ?_
  rw[show k=d.s.dG.ay.toNat from by omega,hww]
  refine .da (X:=Nat) [8,49,50,51,52,53,54,55,56] (fun k=>l.length-k) (fun k=>k≤l.length) (fun k=>[(49,some (.int .i64 (k:Int)))]) (fun k=>[bu bd b p ps (({d with s:=bV d.s d.waits }:Dng).dy (l.take k)),sl aP 1 u l,F]) 0 ?_ ?_ ?_ ?_
  ·exact Nat.zero_le _
  ·exact⟨rfl,trivial⟩
  ·exact fun w s=>aK.kept .auto w s
  rintro k hk
  refine JD 6 (fun h50=>?_) fun h50=>?_
  ·refine J 6 ?_
   obtain⟨w,hwj⟩:=aB (show k<l.length by omega)
   have hwl:=hl w (List.mem_of_getElem? hwj)
   obtain⟨hw16,q,v,hq,hv,hRv⟩:=vP w.toNat (l.take k) ({d with s:=bV d.s d.waits }:Dng) (sf _ _ hwl.2) (fun z hz=>sf _ _ (hl z (List.mem_of_mem_take hz)).2)
   have hgl2:=qz ({d with s:=bV d.s d.waits }:Dng) (l.take k)
   rw[List.length_take] at hgl2
   refine J 8 ?_
   refine .c call114 rfl (kE (d:=({d with s:=bV d.s d.waits }:Dng).dy (l.take k)) hwl.1 hq hv hw16 hRv (by show(Dng.dy _ _).ends.length≤_;simp only at hgl2;omega) (by show(Dng.dy _ _).out.aL.length≤_;simp only at hgl2;omega)) fun _ _=>?_
   refine J 7 ?_
   refine .bq (k+1) .auto rfl ?_ ?_ ?_ ?_
   ·omega
   ·show k+1≤_;omega
   ·exact⟨rfl,trivial⟩
   ·rw[cx hwj,vO];exact fun w s=>aK.kept .auto w s
  ·refine J 4 ?_
   rw[show d.jY l=({d with s:=bV d.s d.waits }:Dng).dy (l.take k) from by rw[List.take_of_length_le (by omega)];rfl]
   exact JR 0 ()
theorem FF{W:World}{bd b p:Nat}{ps:List (Option Nat)}{d:Dng}{t:bF}(hp:ps[d.n]?=some (some p))(ht:d.s.thr[d.n]?=some (some t))(hk:iA ps d t):Fn Tryz.prog W 85 [ptr bd] [bu bd b p ps d] (List (Option Nat)) (fun _=>.tuple #[]) (fun _=>True) (fun qs=>[bu bd b p qs d.call]):=by
 refine Fn.intro (N:=124) func85 rfl ntmps85 rfl fun F=>?_
 show ax _ _ _ _ _ _ [bu bd b p ps d,F]
 refine .o2 (C:=bu bd b p ps (d)) .auto rfl ?_
 rintro vw ve -
 have hnn:=hk.nn
 have hn0:=hk.I.n
 have hIa:=hk.I.a
 have hRl:=hk.R.l
 refine JD 16 (fun h11=>?_) fun h11=>?_
 ·refine J 2 ?_
  refine .c call116 rfl (CQ hp ht hk) fun qs _=>?_
  refine J 2 ?_
  rw[show d.call=d.spawn from by unfold Dng.call;repeat (first | rw[if_neg (by omega)] | rw[if_pos (by omega)])]
  exact JR 0 qs
 ·refine JD 6 (fun h15=>?_) fun h15=>?_
  ·refine J 1 ?_
   refine .jR (C:=dE b ps (d).s) .auto rfl ?_
   rintro fv sv pv bt vm bg vt bk bw vr -
   refine .fr .auto (cq hp ht) ?_
   refine .draw [arr bd 0 (ez b p d vw ve)] [1,1,1,1,1,1,1,1,1,1,1,1,1,1,1,1,1,1,1,1,3] rfl (by kernel_rfl) ?_
   refine J 19 ?_
   refine .p (.aF d.i.a.toNat underlying39 sizeOf38 rfl rfl (by omega) (by omega)) ?_
   refine .d3 rfl (af.st sizeOf38 rfl rfl rfl (Nat.blt_eq.mpr (by show 2+d.i.a.toNat * 1<18;omega))) ?_
   rintro _ _ ⟨rfl,rfl⟩
   rw[jb _ (by omega) (by omega) hRl]
   refine J 10 ?_
   refine .p (.ld rfl (Cell.a (cs:=bH (t.put d.i.a t.handle)) rfl)) ?_
   refine .to (A:=aG ps (d.s.thr.set d.n (some (t.put d.i.a t.handle)))) (Bs:=[arr p 0 (bH (t.put d.i.a t.handle)),aG (ps.set d.n none) (d.s.thr.set d.n none)]) .auto (cW (List.getElem?_eq_some_iff.1 ht).1 hp) ?_
   refine .c call117 rfl (cR (d:=d.aj (t.put d.i.a t.handle)) (t:=t.put d.i.a t.handle) hp (bS ht) (Nat.le_trans hk.au (by decide)) (by decide) (by rw[jE];exact hRl)) fun _ _=>?_
   refine J 2 ?_
   rw[show d.call=(d.aj (t.put d.i.a t.handle)).pass 0 t.handle 0 from by unfold Dng.call;rw[if_neg h11,if_pos h15,bZ ht]]
   exact JR 0 ps
  ·refine JD 6 (fun h46=>?_) fun h46=>?_
   ·refine J 3 ?_
    refine .c call117 rfl (cR hp ht (Nat.le_trans hk.au (by decide)) (by decide) hk.R.l) fun _ _=>?_
    refine J 3 ?_
    refine .o2 (C:=bu bd b p ps (d.pass 0 0 0)) .auto rfl ?_
    rintro vw ve -
    refine J 5 ?_
    rw[Gj]
    refine J 2 ?_
    rw[show d.call = {d.pass 0 0 0 with out:={d.out with yielded:=true } } from by unfold Dng.call;repeat (first | rw[if_neg (by omega)] | rw[if_pos (by omega)])]
    exact JR 0 ps
   ·refine JD 6 (fun h54=>?_) fun h54=>?_
    ·refine J 2 ?_
     refine .c call118 rfl (FD hp ht hk) fun qs _=>?_
     refine J 2 ?_
     rw[show d.call=d.join from by unfold Dng.call;repeat (first | rw[if_neg (by omega)] | rw[if_pos (by omega)])]
     exact JR 0 qs
    ·refine JD 6 (fun h58=>?_) fun h58=>?_
     ·refine J 2 ?_
      refine .c call119 rfl (Aa hp ht hk) fun qs _=>?_
      refine J 2 ?_
      rw[show d.call=d.cO from by unfold Dng.call;repeat (first | rw[if_neg (by omega)] | rw[if_pos (by omega)])]
      exact JR 0 qs
     ·refine JD 6 (fun h62=>?_) fun h62=>?_
      ·refine J 4 ?_
       refine .c call120 rfl (uX hp ht hk.I.a) fun _ _=>?_
       refine .c call82 rfl (jq hp ht (Nat.le_trans hk.au (by decide))) fun _ _=>?_
       refine J 5 ?_
       refine .c call120 rfl (uX (d:=d.tell d.a 0 0 true) hp ht hk.I.a) fun _ _=>?_
       rw[show(d.tell d.a 0 0 true).a=d.a from rfl]
       refine .c call83 rfl (q9 (d:=d.tell d.a 0 0 true) hp ht hk.lt hk.lp hk.T hk.R (Nat.le_trans hk.ends (by decide)) (Nat.le_trans hk.Gk (by decide)) hk.join) fun qs _=>?_
       refine J 2 ?_
       rw[show d.call=(d.tell d.a 0 0 true).fin d.a from by unfold Dng.call;repeat (first | rw[if_neg (by omega)] | rw[if_pos (by omega)])]
       exact JR 0 qs
      ·refine JD 7 (fun h72=>?_) fun h72=>?_
       ·refine J 2 ?_
        first | refine ax.dK rfl (fun _=>?_) (fun hc=>absurd h72 hc) | refine ax.cond rfl (fun _=>?_) (fun hc=>by rw[h72] at hc;cases hc)
        refine J 2 ?_
        refine .c call121 rfl (qd hp ht hk) fun _ _=>?_
        refine J 2 ?_
        rw[show d.call=d.mutex from by unfold Dng.call;repeat (first | rw[if_neg (by omega)] | rw[if_pos (by omega)])]
        exact JR 0 ps
       ·refine JD 6 (fun h72=>?_) fun h72=>?_
        ·refine J 2 ?_
         first | refine ax.dK rfl (fun _=>?_) (fun hc=>absurd h72 hc) | refine ax.cond rfl (fun _=>?_) (fun hc=>by rw[h72] at hc;cases hc)
         refine J 2 ?_
         refine .c call121 rfl (qd hp ht hk) fun _ _=>?_
         refine J 2 ?_
         rw[show d.call=d.mutex from by unfold Dng.call;repeat (first | rw[if_neg (by omega)] | rw[if_pos (by omega)])]
         exact JR 0 ps
        ·refine JD 5 (fun h72c=>?_) fun h72c=>?_
         ·refine J 2 ?_
          refine .c call121 rfl (qd hp ht hk) fun _ _=>?_
          refine J 2 ?_
          rw[show d.call=d.mutex from by unfold Dng.call;repeat (first | rw[if_neg (by omega)] | rw[if_pos (by omega)])]
          exact JR 0 ps
         ·refine JD 7 (fun h78=>?_) fun h78=>?_
          ·refine J 2 ?_
           first | refine ax.dK rfl (fun _=>?_) (fun hc=>absurd h78 hc) | refine ax.cond rfl (fun _=>?_) (fun hc=>by rw[h78] at hc;cases hc)
           refine J 1 ?_
           refine .jR (C:=dE b ps (d).s) .auto rfl ?_
           rintro fv sv pv bt vm bg vt bk bw vr -
           refine .draw [arr bd 0 (ez b p d vw ve),arr b 0 (fU fv sv pv d.s.dG bt ps vm bg vt bk bw vr)] [1,1,1,1,1,1,1,1,1,1,1,1,1,1,1,1,1,1,1,1,1,1,1,3,1,1,1,1,1] rfl (by kernel_rfl) ?_
           refine J 12 ?_
           refine .p (.gp underlying38 underlying3 rfl (by omega)) ?_
           refine J 10 ?_
           refine .c call122 rfl (qK hk.gl hk.Gm) fun u105 _=>?_
           refine J 1 ?_
           refine .p (.extract (v:=u105) rfl rfl) ?_
           refine .p (.extract (v:=.int .i64 (d.s.ag.signal d.i.n d.choice (decide (d.i.op=29))).2.1) rfl rfl) ?_
           refine J 13 ?_
           refine .c call117 rfl (cR (d:=(d.aY (d.s.ag.signal d.i.n d.choice (decide (d.i.op=29))).2.2)) hp ht (Nat.le_trans hk.au (by decide)) gS hk.R.l) fun _ _=>?_
           have sigw:∀ w∈((d.aY (d.s.ag.signal d.i.n d.choice (decide (d.i.op=29))).2.2).pass d.i.n 0 (d.s.ag.signal d.i.n d.choice (decide (d.i.op=29))).2.1).waits,d.s.ag.has w:=fun w h=>by
            obtain⟨x,hx,hw⟩:=List.mem_flatMap.1 h
            obtain⟨y,hy,rfl⟩:=List.mem_map.1 hw
            exact(kU hk.zm.1 hk.zm.2 x (List.mem_of_mem_take hx)).2 y hy
           refine J 5 ?_
           refine .c call123 rfl (u1 (d:=((d.aY (d.s.ag.signal d.i.n d.choice (decide (d.i.op=29))).2.2).pass d.i.n 0 (d.s.ag.signal d.i.n d.choice (decide (d.i.op=29))).2.1)) (l:=(d.s.ag.signal d.i.n d.choice (decide (d.i.op=29))).1) (fun w h=>⟨(hk.iE w (kT w h)).1,((hk.iE w (kT w h)).2.of (s':=(d.aY (d.s.ag.signal d.i.n d.choice (decide (d.i.op=29))).2.2).s) rfl).pass (d:=(d.aY (d.s.ag.signal d.i.n d.choice (decide (d.i.op=29))).2.2)) ht hk.R gS⟩) (fun w h=>⟨(hk.iE w (sigw w h)).1,((hk.iE w (sigw w h)).2.of (s':=(d.aY (d.s.ag.signal d.i.n d.choice (decide (d.i.op=29))).2.2).s) rfl).pass (d:=(d.aY (d.s.ag.signal d.i.n d.choice (decide (d.i.op=29))).2.2)) ht hk.R gS⟩) (by show d.s.dG.ay≤((d.s.ag.signal d.i.n d.choice (decide (d.i.op=29))).2.2.aD.length:Int);rw[jG];exact hk.Gn) (by show((d.s.ag.signal d.i.n d.choice (decide (d.i.op=29))).2.2.aD.length)≤_;rw[jG];exact hk.gl.m) (fun x h=>(kU hk.zm.1 hk.zm.2 x h).1) (by have:=ni (c:=d.i.n) (ch:=d.choice) (all:=decide (d.i.op=29)) hk.zm.2;have:=hk.ends;have:=hk.Gk;exact⟨by show d.ends.length+_≤_;omega,by show d.out.aL.length+_≤_;omega⟩)) fun _ _=>?_
           refine J 2 ?_
           rw[show d.call=((d.aY (d.s.ag.signal d.i.n d.choice (decide (d.i.op=29))).2.2).pass d.i.n 0 (d.s.ag.signal d.i.n d.choice (decide (d.i.op=29))).2.1).jY (d.s.ag.signal d.i.n d.choice (decide (d.i.op=29))).1 from by unfold Dng.call;repeat (first | rw[if_neg (by omega)] | rw[if_pos (by omega)])]
           exact JR 0 ps
          ·refine JD 5 (fun h78=>?_) fun h78=>?_
           ·refine J 1 ?_
            refine .jR (C:=dE b ps (d).s) .auto rfl ?_
            rintro fv sv pv bt vm bg vt bk bw vr -
            refine .draw [arr bd 0 (ez b p d vw ve),arr b 0 (fU fv sv pv d.s.dG bt ps vm bg vt bk bw vr)] [1,1,1,1,1,1,1,1,1,1,1,1,1,1,1,1,1,1,1,1,1,1,1,3,1,1,1,1,1] rfl (by kernel_rfl) ?_
            refine J 12 ?_
            refine .p (.gp underlying38 underlying3 rfl (by omega)) ?_
            refine J 10 ?_
            refine .c call122 rfl (qK hk.gl hk.Gm) fun u105 _=>?_
            refine J 1 ?_
            refine .p (.extract (v:=u105) rfl rfl) ?_
            refine .p (.extract (v:=.int .i64 (d.s.ag.signal d.i.n d.choice (decide (d.i.op=29))).2.1) rfl rfl) ?_
            refine J 13 ?_
            refine .c call117 rfl (cR (d:=(d.aY (d.s.ag.signal d.i.n d.choice (decide (d.i.op=29))).2.2)) hp ht (Nat.le_trans hk.au (by decide)) gS hk.R.l) fun _ _=>?_
            have sigw:∀ w∈((d.aY (d.s.ag.signal d.i.n d.choice (decide (d.i.op=29))).2.2).pass d.i.n 0 (d.s.ag.signal d.i.n d.choice (decide (d.i.op=29))).2.1).waits,d.s.ag.has w:=fun w h=>by
             obtain⟨x,hx,hw⟩:=List.mem_flatMap.1 h
             obtain⟨y,hy,rfl⟩:=List.mem_map.1 hw
             exact(kU hk.zm.1 hk.zm.2 x (List.mem_of_mem_take hx)).2 y hy
            refine J 5 ?_
            refine .c call123 rfl (u1 (d:=((d.aY (d.s.ag.signal d.i.n d.choice (decide (d.i.op=29))).2.2).pass d.i.n 0 (d.s.ag.signal d.i.n d.choice (decide (d.i.op=29))).2.1)) (l:=(d.s.ag.signal d.i.n d.choice (decide (d.i.op=29))).1) (fun w h=>⟨(hk.iE w (kT w h)).1,((hk.iE w (kT w h)).2.of (s':=(d.aY (d.s.ag.signal d.i.n d.choice (decide (d.i.op=29))).2.2).s) rfl).pass (d:=(d.aY (d.s.ag.signal d.i.n d.choice (decide (d.i.op=29))).2.2)) ht hk.R gS⟩) (fun w h=>⟨(hk.iE w (sigw w h)).1,((hk.iE w (sigw w h)).2.of (s':=(d.aY (d.s.ag.signal d.i.n d.choice (decide (d.i.op=29))).2.2).s) rfl).pass (d:=(d.aY (d.s.ag.signal d.i.n d.choice (decide (d.i.op=29))).2.2)) ht hk.R gS⟩) (by show d.s.dG.ay≤((d.s.ag.signal d.i.n d.choice (decide (d.i.op=29))).2.2.aD.length:Int);rw[jG];exact hk.Gn) (by show((d.s.ag.signal d.i.n d.choice (decide (d.i.op=29))).2.2.aD.length)≤_;rw[jG];exact hk.gl.m) (fun x h=>(kU hk.zm.1 hk.zm.2 x h).1) (by have:=ni (c:=d.i.n) (ch:=d.choice) (all:=decide (d.i.op=29)) hk.zm.2;have:=hk.ends;have:=hk.Gk;exact⟨by show d.ends.length+_≤_;omega,by show d.out.aL.length+_≤_;omega⟩)) fun _ _=>?_
            refine J 2 ?_
            rw[show d.call=((d.aY (d.s.ag.signal d.i.n d.choice (decide (d.i.op=29))).2.2).pass d.i.n 0 (d.s.ag.signal d.i.n d.choice (decide (d.i.op=29))).2.1).jY (d.s.ag.signal d.i.n d.choice (decide (d.i.op=29))).1 from by unfold Dng.call;repeat (first | rw[if_neg (by omega)] | rw[if_pos (by omega)])]
            exact JR 0 ps
           ·refine JD 7 (fun h119=>?_) fun h119=>?_
            ·refine J 2 ?_
             first | refine ax.dK rfl (fun _=>?_) (fun hc=>absurd h119 hc) | refine ax.cond rfl (fun _=>?_) (fun hc=>by rw[h119] at hc;cases hc)
             refine J 2 ?_
             refine .c call124 rfl (Bp hp ht hk) fun _ _=>?_
             refine J 2 ?_
             rw[show d.call=d.bX from by unfold Dng.call;repeat (first | rw[if_neg (by omega)] | rw[if_pos (by omega)])]
             exact JR 0 ps
            ·refine JD 5 (fun h119=>?_) fun h119=>?_
             ·refine J 2 ?_
              refine .c call124 rfl (Bp hp ht hk) fun _ _=>?_
              refine J 2 ?_
              rw[show d.call=d.bX from by unfold Dng.call;repeat (first | rw[if_neg (by omega)] | rw[if_pos (by omega)])]
              exact JR 0 ps
             ·refine J 2 ?_
              refine .c call125 rfl (Ab hp ht hk) fun _ _=>?_
              refine J 2 ?_
              rw[show d.call=d.kernel from by unfold Dng.call;repeat (first | rw[if_neg (by omega)] | rw[if_pos (by omega)])]
              exact JR 0 ps
end Go.SLYtefdijgllbkmfaaGreat
namespace Go.SLYtefdijgllbkmfaaGreat
open Go Go.RowKit Go.Proofs Go.Proofs.Tryz
attribute [local irreducible] ax aS bo bY bP Y
theorem Ac{W:World}{fv c1 c2 c3 c4 c5 c6 c7:Value}{p:eB}{f:iD}(hl:p.funcs.length≤1000000)(hl2:∀ g∈p.funcs,g.length≤256):Fn Tryz.prog W 71 [.agg #[fv,c1,c2,c3,c4,c5,c6,c7],.agg (iI f).toArray] [Al fv p.funcs] Unit (fun _=>DM (eG p f)) (fun _=>True) (fun _=>[Al fv p.funcs]) :=
 Fn.Ld fun fs hfs=>zZ (A:=seps [sl cj 1 fv fs,bb (fun x=>sl dC 5 x.1 x.2) fs]) (Rd.kL (Rd.sl .here)) (fun x hx=>Rd.kL (vD (f:=fun x:Value×List Ins=>x.1) (g:=fun x=>x.2) hx (.there .here))) hfs (by rw[← List.length_map (f:=(·.2)),hfs];exact hl) (fun x hx=>Nat.le_trans (hl2 _ (by rw[← hfs];exact List.mem_map_of_mem hx)) (by decide))
theorem FG{W:World}{b:Nat}{s:Spc}{n choice:Int}(hO:ig s):Fn Tryz.prog W 40 [ptr b,.int .i64 n,.int .i64 choice] [dx b s] Value (fun u=>.tuple #[.agg (xy u (s.run n choice).1).toArray,.int .i64 (s.run n choice).2.1]) (fun _=>True) (fun u=>[sl aP 1 u (s.run n choice).1.aL,dx b (s.run n choice).2.2]):=by
 refine Fn.intro (N:=76) func40 rfl ntmps40 rfl fun F=>?_
 show ax _ _ _ _ _ _ [dx b s,F]
 refine .o1 (C:=dx b s) .auto rfl ?_
 rintro ps -
 refine .jR (C:=dE b ps s) .auto rfl ?_
 rintro fv sv pv bt vm bg vt bk bw vr -
 refine .fo (fun w st=>st.fact .auto mm) fun hs=>?_
 refine J 2 ?_
 refine .aw rfl (af.alloc rfl zeroValue93 rfl) ?_
 rintro _ _ ⟨b6,rfl,rfl⟩
 refine J 7 ?_
 refine .c call70 rfl Hu fun _ _=>?_
 refine JD 12 (fun h15=>?_) fun h15=>?_
 ·have hap:DV ps n=none:=by
   cases hh:DV ps n with
   | none=>rfl
   | some p=>rw[hh] at h15;cases h15
  refine J 2 ?_
  refine .p (.tu ([(.slice none 0 0),(.bool false),(.bool false),(.bool false)]) (by kernel_rfl)) ?_
  refine J 7 ?_
  rw[si (Ke hs hap hO.lt)]
  refine .jU rfl rfl isAgg93 (by exact sizeOf93) Cells.a rfl fun w s=>⟨(.slice none 0 0),?_,trivial,aq .auto s⟩
  rfl
 ·obtain⟨p,hap⟩:∃ p,DV ps n=some p:=by
   cases hh:DV ps n with
   | none=>rw[hh] at h15;cases h15
   | some p=>exact⟨p,rfl⟩
  rw[hap]
  obtain⟨k,t,rfl,hk16,hp,ht,hat⟩:=IF hs hap hO.lt
  have hR:=(hO.R k t ht).1
  have hpc:=(hO.R k t ht).2
  refine J 2 ?_
  refine .jR (C:=dE b ps s) .auto rfl ?_
  rintro fv sv pv bt vm bg vt bk bw vr -
  refine .fr .auto (cq hp ht) ?_
  refine JD 8 (fun h19=>?_) fun h19=>?_
  ·refine J 2 ?_
   refine .p (.tu ([(.slice none 0 0),(.bool false),(.bool false),(.bool false)]) (by kernel_rfl)) ?_
   refine J 7 ?_
   refine .to (A:=aG ps s.thr) (Bs:=[arr p 0 (bH t),aG (ps.set k none) (s.thr.set k none)]) .auto (cI hp ht) ?_
   rw[sj hat h19]
   refine .jU rfl rfl isAgg93 (by exact sizeOf93) Cells.a rfl fun w s=>⟨(.slice none 0 0),?_,trivial,aq .auto s⟩
   rfl
  ·have hw0:t.why=0:=Decidable.not_not.mp h19
   refine J 4 ?_
   refine .w9 [arr b 0 (fU fv sv pv s.dG bt ps vm bg vt bk bw vr),arr p 0 (bH t)] [0,0,0,0,0,0,0,0,2,0,0,0,4,2,0] [0,1,2,3,4,5,6,7,8,9,10,11,12,13,14] rfl (by kernel_rfl) ?_
   refine bP.q rfl rfl rfl Kept.auto (Y.m rfl) ?_
   refine bP.q rfl rfl rfl Kept.auto (Y.n rfl) ?_
   refine bP.q rfl rfl rfl Kept.auto (Y.iT 25 underlying126 rfl sizeOf25 rfl) ?_
   refine bP.q rfl rfl rfl Kept.auto (Y.FP isAgg25 rfl (Cells.lG (ds:=D6 fv sv pv s.dG) (Cells.a (cs:=fU fv sv pv s.dG bt ps vm bg vt bk bw vr)) rfl) (by exact sizeOf25)) ?_
   refine bP.q rfl rfl rfl Kept.auto (Y.m rfl) ?_
   refine bP.q rfl rfl rfl Kept.auto (Y.n rfl) ?_
   refine bP.q rfl rfl rfl Kept.auto (Y.iT 145 underlying147 rfl sizeOf145 rfl) ?_
   refine bP.q rfl rfl rfl Kept.auto (Y.FP isAgg145 rfl (Cells.lG (ds:=iI t.gY) (Cells.a (cs:=bH t)) rfl) (by exact sizeOf145)) ?_
   refine bP.fQ rfl (.inl rfl) rfl (fun _=>Kept.auto) call71 rfl (Ac (p:=s.dG) (f:=t.gY) hO.D7.1 hO.D7.2) .auto (fun _ _=>Kept.auto) ?_
   rintro⟨⟩ -
   refine bP.q rfl rfl rfl Kept.auto (Y.m rfl) ?_
   refine bP.q rfl rfl rfl Kept.auto (Y.extract (v:=.agg (dC ((eG s.dG t.gY).getD Ins.z)).toArray) rfl rfl) ?_
   refine bP.q rfl rfl rfl Kept.auto (Y.extract (v:=.bool (eG s.dG t.gY).isSome) rfl rfl) ?_
   refine bP.fresh rfl rfl rfl (by decide) Kept.auto (qo zeroValue131 rfl) ?_
   rintro b9
   refine bP.Kd rfl rfl (by exact sizeOf131) rfl rfl rfl (by rfl) Kept.auto Kept.auto ?_
   refine bP.q rfl rfl rfl Kept.auto (Y.a rfl) ?_
   refine bP.nil ?_
   refine J 8 ?_
   refine .p (.K3 (fun _ _ _ _ _=>ez b p (s.dI k ((eG s.dG t.gY).getD Ins.z) choice) (.slice none 0 0) (.slice none 0 0)) rfl rfl rfl rfl rfl (by kernel_rfl)) ?_
   refine .aw rfl (af.box rfl rfl rfl) ?_
   rintro _ _ ⟨b44,rfl,rfl⟩
   refine JD 12 (fun h56=>?_) fun h56=>?_
   ·have hn:(eG s.dG t.gY)=none:=Option.isNone_iff_eq_none.mp (by simpa using h56)
    refine J 3 ?_
    refine .p (.iv (fun v1=>[v1,(.int .i64 0),(.int .i64 0),(.int .i64 0),(.int .u64 0)]) rfl (by kernel_rfl)) ?_
    refine J 2 ?_
    refine .aw rfl (af.JT (vs:=dC ⟨23,0,0,0,0⟩) (by exact sizeOf131) rfl rfl rfl rfl) ?_
    rintro _ _ ⟨rfl,rfl⟩
    rw[show setFrom (ez b p (s.dI k ((eG s.dG t.gY).getD Ins.z) choice) (.slice none 0 0) (.slice none 0 0)) 3 (dC ⟨23,0,0,0,0⟩)=ez b p (s.dI k ⟨23,0,0,0,0⟩ choice) (.slice none 0 0) (.slice none 0 0) from rfl]
    refine J 5 ?_
    refine .to (A:=aG ps s.thr) (Bs:=[arr p 0 (bH t),aG (ps.set k none) (s.thr.set k none)]) .auto (cI hp ht) ?_
    refine .c call82 rfl (jq (d:=(s.dI k ⟨23,0,0,0,0⟩ choice)) hp ht (Nat.le_trans hO.au (by decide))) fun _ _=>?_
    refine J 4 ?_
    refine .c call83 rfl (q9 (d:=(s.dI k ⟨23,0,0,0,0⟩ choice).tell 0 0 0 true) hp ht hO.lt (hs.1.trans hO.lt) hO.T hR (Nat.zero_le _) (Nat.zero_le _) (hO.HT hs ht hw0)) fun qs _=>?_
    refine J 6 ?_
    refine .c call86 rfl (nA (d:=(((s.dI k ⟨23,0,0,0,0⟩ choice).tell 0 0 0 true).fin 0)) (Nat.le_trans (gv.trans kc).1 (by have:=hO.au;show s.au.length+_≤_;omega)) (Nat.le_trans (gv.trans kc).2 (by show 0+_≤_;decide))) fun u75 _=>?_
    refine .aw rfl (af.DW (vs:=[.bool (((s.dI k ⟨23,0,0,0,0⟩ choice).tell 0 0 0 true).fin 0).finish.1.bA,.bool (((s.dI k ⟨23,0,0,0,0⟩ choice).tell 0 0 0 true).fin 0).finish.1.ended,.bool (((s.dI k ⟨23,0,0,0,0⟩ choice).tell 0 0 0 true).fin 0).finish.1.yielded]) (by exact sizeOf93) rfl rfl rfl rfl) ?_
    rintro _ _ ⟨rfl,rfl⟩
    refine J 4 ?_
    rw[vR hat h19 hn rfl]
    refine .jU rfl rfl isAgg93 (by exact sizeOf93) Cells.a rfl fun w s=>⟨u75,?_,trivial,aq .auto s⟩
    rfl
   ·obtain⟨i,hn⟩:∃ i,(eG s.dG t.gY)=some i:=Option.isSome_iff_exists.mp (by simpa using h56)
    rw[show((eG s.dG t.gY).getD Ins.z)=i from by rw[hn];rfl]
    obtain⟨hI,hIn,hIt⟩:=kb hO hn
    refine J 4 ?_
    refine .c call72 rfl nv fun _ _=>?_
    refine JD 4 (fun h67=>?_) fun h67=>?_
    ·refine J 2 ?_
     refine .to (A:=aG ps s.thr) (Bs:=[arr p 0 (bH t),aG (ps.set k none) (s.thr.set k none)]) .auto (cI hp ht) ?_
     refine .c call84 rfl (CI (d:=(s.dI k i choice)) hp ht hI (hR.gY hpc) h67 hO.mem (Nat.le_trans hO.au (by decide)) hO.lt (hs.1.trans hO.lt) hO.T hR (Nat.zero_le _) (Nat.zero_le _) (hO.HT hs ht hw0)) fun qs _=>?_
     refine J 6 ?_
     refine .c call86 rfl (nA (d:=(s.dI k i choice).plain) (Nat.le_trans (nj).1 (by have:=hO.au;show s.au.length+_≤_;omega)) (Nat.le_trans (nj).2 (by show 0+_≤_;decide))) fun u75 _=>?_
     refine .aw rfl (af.DW (vs:=[.bool (s.dI k i choice).plain.finish.1.bA,.bool (s.dI k i choice).plain.finish.1.ended,.bool (s.dI k i choice).plain.finish.1.yielded]) (by exact sizeOf93) rfl rfl rfl rfl) ?_
     rintro _ _ ⟨rfl,rfl⟩
     refine J 4 ?_
     rw[pM hat h19 hn h67 rfl]
     refine .jU rfl rfl isAgg93 (by exact sizeOf93) Cells.a rfl fun w s=>⟨u75,?_,trivial,aq .auto s⟩
     rfl
    ·refine J 7 ?_
     refine .p (.add rfl rfl (by omega)) ?_
     refine J 4 ?_
     rw[IG]
     refine J 4 ?_
     refine .to (A:=aG ps (s.thr.set k (some ({t with pc:=t.pc+1 })))) (Bs:=[arr p 0 (bH ({t with pc:=t.pc+1 })),aG (ps.set k none) (s.thr.set k none)]) .auto (cW (List.getElem?_eq_some_iff.1 ht).1 hp) ?_
     refine .c call85 rfl (FF (d:=((s.dI k i choice).aj {t with pc:=t.pc+1 })) hp (bS ht) (hO.call hs ht hw0 hI (hIn h67) hIt)) fun qs _=>?_
     refine J 6 ?_
     refine .c call86 rfl (nA (d:=((s.dI k i choice).aj {t with pc:=t.pc+1 }).call) (Nat.le_trans (pN hO.zm.2).1 (by have:=hO.au;show s.au.length+_≤_;omega)) (Nat.le_trans (pN hO.zm.2).2 (by show 0+_≤_;decide))) fun u75 _=>?_
     refine .aw rfl (af.DW (vs:=[.bool ((s.dI k i choice).aj {t with pc:=t.pc+1 }).call.finish.1.bA,.bool ((s.dI k i choice).aj {t with pc:=t.pc+1 }).call.finish.1.ended,.bool ((s.dI k i choice).aj {t with pc:=t.pc+1 }).call.finish.1.yielded]) (by exact sizeOf93) rfl rfl rfl rfl) ?_
     rintro _ _ ⟨rfl,rfl⟩
     refine J 4 ?_
     rw[sk hat h19 hn h67 rfl]
     refine .jU rfl rfl isAgg93 (by exact sizeOf93) Cells.a rfl fun w s=>⟨u75,?_,trivial,aq .auto s⟩
     rfl
end Go.SLYtefdijgllbkmfaaGreat
namespace Go.SLYtefdijgllbkmfaaGreat
open Go Go.RowKit Go.Proofs Go.Proofs.Tryz
attribute [local irreducible] ax aS bo bY bP Y
theorem tK{W:World}  : Fn Tryz.prog W 22 [.pointer none] [] Unit (fun _=>(.slice none 0 0)) (fun _=>True) (fun _=>[]):=by
 refine Fn.intro (N:=11) func22 rfl ntmps22 rfl fun F=>?_
 show ax _ _ _ _ _ _ [F]
 refine J 12 ?_
 refine .hJ rfl ?_
 exact JR 7 ()
theorem u3{W:World}{b p:Nat}{ps:List (Option Nat)}{pr:eB}{n:Nat}{t:bF}{fv sv pv:Value}{bt:Nat}{vm:Value}{bg:Nat}{vt:Value}{bk bw:Nat}{vr:Value}(hp:ps[n]?=some (some p))(hn16:n<16)(hR:gL t){y:Int}:Fn Tryz.prog W 93 [ptr b,.int .i64 (n:Int),.int .u64 y] [arr b 0 (fU fv sv pv pr bt ps vm bg vt bk bw vr),arr p 0 (bH t)] Unit (fun _=>.agg (dp (t.dH y)).toArray) (fun _=>True) (fun _=>[arr b 0 (fU fv sv pv pr bt ps vm bg vt bk bw vr),arr p 0 (bH (t.cS y))]):=by
 refine Fn.intro (N:=50) func93 rfl ntmps93 rfl fun F=>?_
 show ax _ _ _ _ _ _ [arr b 0 (fU fv sv pv pr bt ps vm bg vt bk bw vr),arr p 0 (bH t),F]
 have hRl:=hR.l
 have hRi:=hR.i
 refine J 2 ?_
 refine .aw rfl (af.alloc rfl zeroValue101 rfl) ?_
 rintro _ _ ⟨b6,rfl,rfl⟩
 refine J 8 ?_
 refine .p (.aF n underlying123 sizeOf122 rfl rfl rfl hn16) ?_
 refine .p (.ld rfl (Cell.a (by rw[Nat.mul_one,eP hn16,fh hp]))) ?_
 refine J 3 ?_
 refine .mX (X:=Unit) [2,14,15,16,17,18,19,20,21,22,23,24,25,26,27,28] (fun _=>True) (fun _=>[(2,some (.int .u64 (if t.into = -1 then 0 else y)))]) (fun _=>[arr p 0 (bH (if t.into = -1 then t else t.put t.into y)),arr b6 0 [.int .u64 0,.int .i64 0,.int .u64 0,.int .u64 0,.int .i64 0,.bool false],arr b 0 (fU fv sv pv pr bt ps vm bg vt bk bw vr),F]) ?_ ?_
 ·refine JD 9 (fun h18=>?_) fun h18=>?_
  ·refine .draw [arr p 0 (bH t)] [1,1,1,1,1,1,1,1,1,1,3] rfl (by kernel_rfl) ?_
   refine J 9 ?_
   refine .p (.aF t.into.toNat underlying39 sizeOf38 rfl rfl (by omega) (by omega)) ?_
   refine .d3 rfl (af.st sizeOf38 rfl rfl rfl (Nat.blt_eq.mpr (by show 2+t.into.toNat * 1<18;omega))) ?_
   rintro _ _ ⟨rfl,rfl⟩
   rw[jb y (by omega) (by omega) hRl]
   refine J 1 ?_
   refine .eK () .auto ?_ ?_ ?_
   ·trivial
   ·rw[if_neg (by omega)];exact⟨rfl,trivial⟩
   ·rw[if_neg (by omega)];exact fun w s=>aK.kept .auto w s
  ·refine J 3 ?_
   refine .eK () .auto ?_ ?_ ?_
   ·trivial
   ·rw[if_pos (by omega)];exact⟨rfl,trivial⟩
   ·rw[if_pos (by omega)];exact fun w s=>aK.kept .auto w s
 ·rintro⟨⟩ -
  obtain⟨y1,hy1⟩:∃ y1,y1=(if t.into = -1 then 0 else y):=⟨_,rfl⟩
  obtain⟨t1,h1⟩:∃ t1,t1=(if t.into = -1 then t else t.put t.into y):=⟨_,rfl⟩
  have h1l:t1.av.length=8:=by
   rw[h1]
   split
   ·exact hRl
   ·rw[jE];exact hRl
  have h1h:t1.handle=t.handle∧t1.op=t.op:=by
   rw[h1]
   split <;> exact⟨rfl,rfl⟩
  rw[← hy1, ← h1]
  refine J 6 ?_
  refine .p (.aF 7 underlying39 sizeOf38 rfl rfl (by omega) (by omega)) ?_
  refine J 1 ?_
  rw[qW (n:=7) 0 (by decide) h1l]
  refine J 9 ?_
  rw[oh]
  refine J 3 ?_
  rw[rY]
  refine J 3 ?_
  refine .draw [arr p 0 (bH {t1.put 7 0 with why:=0,into := -1 })] [1,1,1,1,1,1,1,1,1,1,3] rfl (by kernel_rfl) ?_
  refine J 9 ?_
  refine .p (.Bv (fun v1 v2 v3 v4=>[v1,v2,(.int .u64 0),v3,(.int .i64 0),v4]) rfl rfl rfl rfl (by kernel_rfl)) ?_
  refine .d3 rfl (af.tf (by exact sizeOf101) rfl rfl rfl (by rfl)) ?_
  rintro _ _ ⟨rfl,rfl⟩
  refine J 3 ?_
  rw[AB t1 h1]
  refine .fp rfl rfl isAgg101 (by exact sizeOf101) Cells.a fun w s=>⟨(),?_,trivial,aq .auto s⟩
  show Ending.returned (Value.agg #[.int .u64 t1.handle,.int .i64 t1.op,.int .u64 0,.int .u64 y1,.int .i64 0,.bool true])=_;rw[h1h.1,h1h.2,hy1];rfl
theorem CR{W:World}{b:Nat}{s:Spc}{k:Int}(hO:ig s):Fn Tryz.prog W 42 [ptr b,.int .i64 k] [dx b s] Value (fun u=>.tuple #[.agg (xy u (s.done k).1).toArray,.int .i64 (s.done k).2.1]) (fun _=>True) (fun u=>[sl aP 1 u (s.done k).1.aL,dx b (s.done k).2.2]):=by
 refine Fn.intro (N:=43) func42 rfl ntmps42 rfl fun F=>?_
 show ax _ _ _ _ _ _ [dx b s,F]
 refine .o1 (C:=dx b s) .auto rfl ?_
 rintro ps -
 refine .jR (C:=dE b ps s) .auto rfl ?_
 rintro fv sv pv bt vm bg vt bk bw vr -
 refine .fo (fun w st=>st.fact .auto mm) fun hs=>?_
 refine J 2 ?_
 refine .aw rfl (af.alloc rfl zeroValue93 rfl) ?_
 rintro _ _ ⟨b4,rfl,rfl⟩
 refine J 10 ?_
 refine .nE rfl ?_
 refine J 9 ?_
 refine .c call92 rfl (CO hO.dw hO.db) fun _ _=>?_
 refine J 1 ?_
 refine .p (.extract (v:=.agg (dY (s.aN.done k).1).toArray) rfl rfl) ?_
 refine .p (.extract (v:=.int .u64 (s.aN.done k).2.1) rfl rfl) ?_
 refine .p (.extract (v:=.bool (s.aN.done k).2.2.1) rfl rfl) ?_
 refine .aw rfl (af.alloc rfl zeroValue170 rfl) ?_
 rintro _ _ ⟨b6,rfl,rfl⟩
 refine JD 12 (fun h23=>?_) fun h23=>?_
 ·refine J 2 ?_
  refine .p (.tu ([(.slice none 0 0),(.bool false),(.bool false),(.bool false)]) (by kernel_rfl)) ?_
  refine J 6 ?_
  rw[lU (by simpa using h23)]
  rw[BZ (by simpa using h23)]
  refine .jU rfl rfl isAgg93 (by exact sizeOf93) Cells.a rfl fun w s=>⟨(.slice none 0 0),?_,trivial,aq .auto s⟩
  rfl
 ·have hd1:(s.aN.done k).2.2.1=true:=by simpa using h23
  obtain⟨hdm, -⟩:=Eb hd1
  obtain⟨hw0,t,ht⟩:=hO.Kf _ hdm
  obtain⟨hn16,q,t2,hq,ht2,hR⟩:=hO.live hs ht
  have e2:=Option.some.inj (ht.symm.trans ht2)
  obtain rfl:=Option.some.inj e2
  obtain⟨m,hm⟩:∃ m:Nat,(s.aN.done k).1.who.toNat=m:=⟨_,rfl⟩
  rw[hm] at ht hn16 hq
  have hmc:(s.aN.done k).1.who=(m:Int):=by omega
  refine J 3 ?_
  refine .fr .auto (cq hq ht) ?_
  refine .draw [arr b6 0 (dY (s.aN.done k).1),arr b 0 (fU fv sv pv s.dG bt ps vm bg vt bk bw vr)] [0,0,0,0,0,1,1,1,1,2,2,2,1,1,3] rfl (by kernel_rfl) ?_
  refine J 8 ?_
  rw[hmc]
  refine J 1 ?_
  refine .c2 call93 rfl (u3 hq hn16 hR) fun _ _=>?_
  refine .d2 rfl Kept.auto (af.gN 101 rfl rfl (by kernel_rfl)) (by rintro _ _ ⟨b35,rfl,rfl⟩;exact Kept.auto) ?_
  rintro _ _ ⟨b35,rfl,rfl⟩
  refine .d2 rfl Kept.auto (af.fb (enc:=dp) (k:=6) (t.dH (s.aN.done k).2.1) rfl underlying49 underlying49 typeInfo101 rfl rfl rfl (by decide) rfl rfl rfl .auto rfl .auto (by have:=hO.au;omega) rfl) (by rintro _ _ ⟨v36,rfl,rfl⟩;exact Kept.auto) ?_
  rintro _ _ ⟨v36,rfl,rfl⟩
  refine J 2 ?_
  refine .d3 rfl (af.pn sizeOf49 rfl rfl rfl) ?_
  rintro _ _ ⟨rfl,rfl⟩
  rw[oq]
  refine J 6 ?_
  rw[hmc]
  refine .aw rfl (af.gN 3 rfl rfl (by kernel_rfl)) ?_
  rintro _ _ ⟨b41,rfl,rfl⟩
  refine .p (.iv (fun v1=>[v1,.bool false,.bool false,.bool false]) rfl (by kernel_rfl)) ?_
  refine .aw rfl (af.tf (vs:=[.slice (some ⟨b41,0,none⟩) 1 1,.bool false,.bool false,.bool false]) (by exact sizeOf93) rfl rfl rfl (by rfl)) ?_
  rintro _ _ ⟨rfl,rfl⟩
  refine .to (A:=sl aP 1 (.slice (some ⟨b41,0,none⟩) 1 1) [(m:Int)]) (Bs:=[arr b41 0 [.int .i64 (m:Int)]]) .auto IH ?_
  refine J 4 ?_
  refine .to (A:=aG ps (s.thr.set m (some (t.cS (s.aN.done k).2.1)))) (Bs:=[arr q 0 (bH (t.cS (s.aN.done k).2.1)),aG (ps.set m none) (s.thr.set m none)]) .auto (cW (List.getElem?_eq_some_iff.1 ht).1 hq) ?_
  rw[lV hd1 (by rw[hm];exact ht),hm,hmc,show(({s with aN:=(s.aN.done k).2.2.2 }:Spc).di m (s.aN.done k).2.1)=({s with aN:=(s.aN.done k).2.2.2 }:Spc).aj m (t.cS (s.aN.done k).2.1) from by unfold Spc.di;rw[cV (s:=({s with aN:=(s.aN.done k).2.2.2 }:Spc)) ht]]
  refine .jU rfl rfl isAgg93 (by exact sizeOf93) Cells.a rfl fun w s=>⟨(.slice (some ⟨b41,0,none⟩) 1 1),?_,trivial,aq .auto s⟩
  rfl
end Go.SLYtefdijgllbkmfaaGreat
namespace Go.SLYtefdijgllbkmfaaGreat
open Go Go.RowKit Go.Proofs Go.Proofs.Tryz
attribute [local irreducible] ax aS bo bY bP Y
theorem CS{W:World}{b:Nat}{s:Spc}(hO:ig s):Fn Tryz.prog W 44 [ptr b] [dx b s] Value (fun u=>.agg (xy u s.tick.1).toArray) (fun _=>True) (fun u=>[sl aP 1 u s.aA.due,dx b s.tick.2]):=by
 refine Fn.intro (N:=35) func44 rfl ntmps44 rfl fun F=>?_
 show ax _ _ _ _ _ _ [dx b s,F]
 refine .o1 (C:=dx b s) .auto rfl ?_
 rintro ps -
 refine .jR (C:=dE b ps s) .auto rfl ?_
 rintro fv sv pv bt vm bg vt bk bw vr -
 refine .fo (fun w st=>st.fact .auto mm) fun hs=>?_
 have hdl:=Nat.le_trans (xF s.aA) hO.wl
 have hrl:=hO.au
 refine J 2 ?_
 refine .aw rfl (af.alloc rfl zeroValue93 rfl) ?_
 rintro _ _ ⟨b2,rfl,rfl⟩
 refine J 9 ?_
 refine .nE rfl ?_
 refine J 8 ?_
 refine .c call96 rfl (z7 hO.wn hO.wl) fun u13 _=>?_
 refine J 12 ?_
 refine .da (X:=Nat) [5,16,17,18,19,20,21,22,23,24,25,26,27,28,29,30,31,32] (fun k=>s.aA.due.length-k) (fun k=>k≤s.aA.due.length) (fun k=>[(16,some (.int .i64 (k:Int)))]) (fun k=>[dE b ps (df ({s with aA:=s.aA.tick.2 }:Spc) (s.aA.due.take k)),sl aP 1 u13 s.aA.due,arr b2 0 [.slice none 0 0,.bool false,.bool false,.bool false],F]) 0 ?_ ?_ ?_ ?_
 ·exact Nat.zero_le _
 ·exact⟨rfl,trivial⟩
 ·exact fun w s=>aK.kept .auto w s
 rintro k hk
 refine JD 6 (fun h17=>?_) fun h17=>?_
 ·refine J 7 ?_
  obtain⟨x,hx⟩:=aB (show k<s.aA.due.length by omega)
  have hdl2:∀ x∈s.aA.due,0≤x∧bW ps s x.toNat:=fun x hx=>by
   obtain⟨y,hy,e⟩:=AK hx
   obtain⟨h0,u,hu⟩:=hO.Kg y hy
   rw[e] at h0 hu
   exact⟨h0,hO.live hs hu⟩
  obtain⟨hx0,hxl⟩:=hdl2 x (List.mem_of_getElem? hx)
  obtain⟨hn16,q,t,hq,ht,hR⟩:=vV x.toNat (s.aA.due.take k) ({s with aA:=s.aA.tick.2 }:Spc) (hxl.of rfl) (fun z hz=>(hdl2 z (List.mem_of_mem_take hz)).2.of rfl)
  have hwr:=oz ({s with aA:=s.aA.tick.2 }:Spc) (s.aA.due.take k)
  rw[List.length_take] at hwr
  simp only at hwr
  have hxc:x=((x.toNat:Nat):Int):=by omega
  refine J 4 ?_
  refine .jR (C:=dE b ps (df ({s with aA:=s.aA.tick.2 }:Spc) (s.aA.due.take k))) .auto rfl ?_
  rintro fv sv pv bt vm bg vt bk bw vr -
  refine .fr .auto (cq hq ht) ?_
  refine .draw [arr b 0 (fU fv sv pv (df ({s with aA:=s.aA.tick.2 }:Spc) (s.aA.due.take k)).dG bt ps vm bg vt bk bw vr)] [0,0,0,0,0,1,1,2,2,2,1,1,3] rfl (by kernel_rfl) ?_
  rw[hxc]
  refine J 7 ?_
  refine .c2 call93 rfl (u3 (n:=x.toNat) hq hn16 hR) fun _ _=>?_
  refine .d2 rfl Kept.auto (af.gN 101 rfl rfl (by kernel_rfl)) (by rintro _ _ ⟨b28,rfl,rfl⟩;exact Kept.auto) ?_
  rintro _ _ ⟨b28,rfl,rfl⟩
  refine .d2 rfl Kept.auto (af.fb (enc:=dp) (k:=6) (t.dH 0) rfl underlying49 underlying49 typeInfo101 rfl rfl rfl (by decide) rfl rfl rfl .auto rfl .auto (by have e:(df ({s with aA:=s.aA.tick.2 }:Spc) (s.aA.due.take k)).au.length=s.au.length+min k s.aA.due.length:=hwr;omega) rfl) (by rintro _ _ ⟨v29,rfl,rfl⟩;exact Kept.auto) ?_
  rintro _ _ ⟨v29,rfl,rfl⟩
  refine J 2 ?_
  refine .d3 rfl (af.pn sizeOf49 rfl rfl rfl) ?_
  rintro _ _ ⟨rfl,rfl⟩
  rw[oq]
  refine .to (A:=aG ps ((df ({s with aA:=s.aA.tick.2 }:Spc) (s.aA.due.take k)).thr.set x.toNat (some (t.cS 0)))) (Bs:=[arr q 0 (bH (t.cS 0)),aG (ps.set x.toNat none) ((df ({s with aA:=s.aA.tick.2 }:Spc) (s.aA.due.take k)).thr.set x.toNat none)]) .auto (cW (List.getElem?_eq_some_iff.1 ht).1 hq) ?_
  refine J 7 ?_
  refine .bq (k+1) .auto rfl ?_ ?_ ?_ ?_
  ·omega
  ·show k+1≤_;omega
  ·exact⟨rfl,trivial⟩
  ·rw[cx hx,vU,show(df ({s with aA:=s.aA.tick.2 }:Spc) (s.aA.due.take k)).di x.toNat 0=(df ({s with aA:=s.aA.tick.2 }:Spc) (s.aA.due.take k)).aj x.toNat (t.cS 0) from by unfold Spc.di;rw[cV ht],cV ht];exact fun w s=>aK.kept .auto w s
 ·refine J 7 ?_
  refine .fo (fun w st=>(Rd.s (v:=u13) (enc:=aP) (k:=1) (xs:=s.aA.due) w st).1) fun hr=>?_
  obtain⟨a13,c13,rfl, -, -⟩:=hr
  refine J 1 ?_
  refine .p (.iv (fun v1=>[v1,(.bool false),(.bool false),(.bool false)]) rfl (by kernel_rfl)) ?_
  refine .aw rfl (af.tf (vs:=[.slice a13 s.aA.due.length c13,.bool false,.bool false,.bool false]) (by exact sizeOf93) rfl rfl rfl (by rfl)) ?_
  rintro _ _ ⟨rfl,rfl⟩
  refine J 3 ?_
  have hkk:k=s.aA.due.length:=by omega
  rw[hkk,List.take_length]
  refine .fp rfl rfl isAgg93 (by exact sizeOf93) Cells.a fun w s=>⟨_,?_,trivial,aq .auto s⟩
  rfl
theorem wO{W:World}{b:Nat}{s:Spc}(hl:s.au.length≤1000000000):Fn Tryz.prog W 22 [ptr b] [dx b s] Value (fun u=>u) (fun _=>True) (fun u=>[sl dp 6 u s.au,dx b s]):=by
 refine Fn.intro (N:=11) func22 rfl ntmps22 rfl fun F=>?_
 show ax _ _ _ _ _ _ [dx b s,F]
 refine .o1 (C:=dx b s) .auto rfl ?_
 rintro ps -
 refine .jR (C:=dE b ps s) .auto rfl ?_
 rintro fv sv pv bt vm bg vt bk bw vr -
 refine J 12 ?_
 refine .nE rfl ?_
 refine J 8 ?_
 refine .c call75 rfl (JE (A:=sl dp 6 vr s.au) (Rd.sl .here) hl) fun u9 _=>?_
 refine .c call74 rfl KL fun u10 _=>?_
 exact JR 4 u10
end Go.SLYtefdijgllbkmfaaGreat
namespace Go.SLYtefdijgllbkmfaaGreat
open Go Go.RowKit Go.Proofs Go.Proofs.Tryz
attribute [local irreducible] ax aS bo bY bP Y
end Go.SLYtefdijgllbkmfaaGreat
namespace Go.SLYtefdijgllbkmfaaGreat
open Go Go.RowKit Go.Proofs Go.Proofs.Tryz
attribute [local irreducible] ax aS bo bY bP Y
theorem KP{a b:Rec}:rA Tryz.prog 101 2 (.agg (dp a).toArray) (.agg (dp b).toArray) (decide (a=b)):=fun d w=>by
 have hs:Tryz.prog.stoodInHeld 101=false:=by kernel_rfl
 have one:∀ (r:Rec) (t:TypeId) (i:Nat) (v:Value),(∀ w,(isAgg t).run Tryz.prog w = .ok false w)→(dp r)[i]?=some v→Part Tryz.prog t (dp r).toArray i v:=fun r t i v ha hv=>Part.one ha (by rw[List.getElem?_toArray];exact hv)
 refine(lZ underlying101 hs (d+1) _ _ w).trans ?_
 show(Op.eqFields (d+1) _ _ [_,_,_,_,_,_]).run Tryz.prog w=_
 have pa0:Part Tryz.prog 38 (dp a).toArray 0 (.int .u64 a.cy):=one a _ 0 _ isAgg38 rfl
 have pb0:Part Tryz.prog 38 (dp b).toArray 0 (.int .u64 b.cy):=one b _ 0 _ isAgg38 rfl
 refine Eq.trans (du (a:=.int .u64 a.cy) (b:=.int .u64 b.cy) (r:=decide (a.cy=b.cy)) ?_ ?_ ?_ ?_) ?_
 ·decide +kernel
 ·exact pa0
 ·exact pb0
 ·exact(rA.int underlying38 d w)
 by_cases h0:a.cy=b.cy
 rotate_left
 ·rw[decide_eq_false h0,decide_eq_false (fun e=>h0 (by rw[e])),if_neg (by simp)]
 rw[decide_eq_true h0,if_pos rfl]
 have pa1:Part Tryz.prog 3 (dp a).toArray 1 (.int .i64 a.op):=one a _ 1 _ isAgg3 rfl
 have pb1:Part Tryz.prog 3 (dp b).toArray 1 (.int .i64 b.op):=one b _ 1 _ isAgg3 rfl
 refine Eq.trans (du (a:=.int .i64 a.op) (b:=.int .i64 b.op) (r:=decide (a.op=b.op)) ?_ ?_ ?_ ?_) ?_
 ·decide +kernel
 ·exact pa1
 ·exact pb1
 ·exact(rA.int underlying3 d w)
 by_cases h1:a.op=b.op
 rotate_left
 ·rw[decide_eq_false h1,decide_eq_false (fun e=>h1 (by rw[e])),if_neg (by simp)]
 rw[decide_eq_true h1,if_pos rfl]
 have pa2:Part Tryz.prog 38 (dp a).toArray 2 (.int .u64 a.x):=one a _ 2 _ isAgg38 rfl
 have pb2:Part Tryz.prog 38 (dp b).toArray 2 (.int .u64 b.x):=one b _ 2 _ isAgg38 rfl
 refine Eq.trans (du (a:=.int .u64 a.x) (b:=.int .u64 b.x) (r:=decide (a.x=b.x)) ?_ ?_ ?_ ?_) ?_
 ·decide +kernel
 ·exact pa2
 ·exact pb2
 ·exact(rA.int underlying38 d w)
 by_cases h2:a.x=b.x
 rotate_left
 ·rw[decide_eq_false h2,decide_eq_false (fun e=>h2 (by rw[e])),if_neg (by simp)]
 rw[decide_eq_true h2,if_pos rfl]
 have pa3:Part Tryz.prog 38 (dp a).toArray 3 (.int .u64 a.y):=one a _ 3 _ isAgg38 rfl
 have pb3:Part Tryz.prog 38 (dp b).toArray 3 (.int .u64 b.y):=one b _ 3 _ isAgg38 rfl
 refine Eq.trans (du (a:=.int .u64 a.y) (b:=.int .u64 b.y) (r:=decide (a.y=b.y)) ?_ ?_ ?_ ?_) ?_
 ·decide +kernel
 ·exact pa3
 ·exact pb3
 ·exact(rA.int underlying38 d w)
 by_cases h3:a.y=b.y
 rotate_left
 ·rw[decide_eq_false h3,decide_eq_false (fun e=>h3 (by rw[e])),if_neg (by simp)]
 rw[decide_eq_true h3,if_pos rfl]
 have pa4:Part Tryz.prog 28 (dp a).toArray 4 (.int .i64 a.result):=one a _ 4 _ isAgg28 rfl
 have pb4:Part Tryz.prog 28 (dp b).toArray 4 (.int .i64 b.result):=one b _ 4 _ isAgg28 rfl
 refine Eq.trans (du (a:=.int .i64 a.result) (b:=.int .i64 b.result) (r:=decide (a.result=b.result)) ?_ ?_ ?_ ?_) ?_
 ·decide +kernel
 ·exact pa4
 ·exact pb4
 ·exact(rA.int underlying28 d w)
 by_cases h4:a.result=b.result
 rotate_left
 ·rw[decide_eq_false h4,decide_eq_false (fun e=>h4 (by rw[e])),if_neg (by simp)]
 rw[decide_eq_true h4,if_pos rfl]
 have pa5:Part Tryz.prog 4 (dp a).toArray 5 (.bool a.fin):=one a _ 5 _ isAgg4 rfl
 have pb5:Part Tryz.prog 4 (dp b).toArray 5 (.bool b.fin):=one b _ 5 _ isAgg4 rfl
 refine Eq.trans (du (a:=.bool a.fin) (b:=.bool b.fin) (r:=decide (a.fin=b.fin)) ?_ ?_ ?_ ?_) ?_
 ·decide +kernel
 ·exact pa5
 ·exact pb5
 ·exact(rA.bool underlying4 d w)
 by_cases h5:a.fin=b.fin
 rotate_left
 ·rw[decide_eq_false h5,decide_eq_false (fun e=>h5 (by rw[e])),if_neg (by simp)]
 rw[decide_eq_true h5,if_pos rfl]
 have e:a=b:=by
  obtain⟨a1,a2,a3,a4,a5,a6⟩:=a
  obtain⟨b1,b2,b3,b4,b5,b6⟩:=b
  simp only at h0 h1 h2 h3 h4 h5
  subst h0 h1 h2 h3 h4 h5
  rfl
 rw[decide_eq_true e]
 simp[Op.eqFields]
theorem FH{W:World}{A:aa}{v u:Value}{xs ys:List Rec}(hv:Rd W [A] dp 6 v xs)(hu:Rd W [A] dp 6 u ys)(hl:xs.length≤1000000000):Fn Tryz.prog W 21 [v,u] [A] Unit (fun _=>.bool (decide (xs=ys))) (fun _=>True) (fun _=>[A]):=by
 refine Fn.intro (N:=26) func21 rfl ntmps21 rfl fun F=>?_
 haveI hRI:∀ (H:List aa) [cf H A],aJ W H v dp 6 xs:=fun H h=>⟨hv.at h.has⟩
 haveI hRJ:∀ (H:List aa) [cf H A],aJ W H u dp 6 ys:=fun H h=>⟨hu.at h.has⟩
 show ax _ _ _ _ _ _ [A,F]
 refine JD 15 (fun h10=>?_) fun h10=>?_
 ·refine J 7 ?_
  refine .aI rfl rfl fun w s=>⟨(),?_,trivial,aq .auto s⟩
  rw[decide_eq_false (fun e=>h10 (by rw[e]))]
 ·refine J 9 ?_
  refine .da (X:=Nat) [4,5,11,12,13,14,15,16,17,18,19,20,21,22,23,24,25] (fun k=>xs.length-k) (fun k=>k≤xs.length∧xs.take k=ys.take k) (fun k=>[(5,some (.int .i64 (k:Int)))]) (fun k=>[A,F]) 0 ?_ ?_ ?_ ?_
  ·exact⟨Nat.zero_le _,rfl⟩
  ·exact⟨rfl,trivial⟩
  ·exact fun w s=>aK.kept .auto w s
  rintro k ⟨hk,hn⟩
  refine JD 9 (fun h14=>?_) fun h14=>?_
  ·refine J 5 ?_
   refine .draw [] [1,1,1,1,1,1,1,1,1] rfl (by kernel_rfl) ?_
   obtain⟨x,hx⟩:=aB (show k<xs.length by omega)
   obtain⟨y,hy⟩:=aB (show k<ys.length by omega)
   refine J 3 ?_
   refine .p (.la rfl (Cells.rd Rd.s hx)) ?_
   refine J 3 ?_
   refine .p (.la rfl (Cells.rd Rd.s hy)) ?_
   refine .p (.Im (by kernel_rfl) KP rfl rfl rfl) ?_
   refine JD 2 (fun h25=>?_) fun h25=>?_
   ·have h25:x≠y:=by simpa using h25
    refine J 11 ?_
    refine .aI rfl rfl fun w s=>⟨(),?_,trivial,aq .auto s⟩
    rw[decide_eq_false (fun e=>h25 (by rw[e] at hx;exact Option.some.inj (hx.symm.trans hy)))]
   ·have h25:¬x≠y:=by simpa using h25
    refine J 8 ?_
    refine .bq (k+1) .auto rfl ?_ ?_ ?_ ?_
    ·first | omega | (dsimp only;omega)
    ·exact⟨by omega,by rw[cx hx,cx hy,hn,Decidable.of_not_not h25]⟩
    ·exact⟨rfl,trivial⟩
    ·exact fun w s=>aK.kept .auto w s
  ·refine J 11 ?_
   obtain rfl:k=xs.length:=by omega
   rw[List.take_length,List.take_of_length_le (by omega)] at hn
   refine .aI rfl rfl fun w s=>⟨(),?_,trivial,aq .auto s⟩
   rw[decide_eq_true hn]
end Go.SLYtefdijgllbkmfaaGreat
namespace Go.SLYtefdijgllbkmfaaGreat
open Go Go.RowKit Go.Proofs Go.Proofs.Tryz
attribute [local irreducible] ax aS bo bY bP Y
theorem HF{W:World}{op:Int}:Fn Tryz.prog W 109 [.int .i64 op] [] Unit (fun _=>.string (im op)) (fun _=>True) (fun _=>[]):=by
 refine Fn.intro (N:=17) func109 rfl ntmps109 rfl fun F=>?_
 show ax _ _ _ _ _ _ [F]
 refine J 7 ?_
 refine .aw rfl (af.gN 9 rfl rfl (by kernel_rfl)) ?_
 rintro _ _ ⟨b4,rfl,rfl⟩
 refine J 9 ?_
 apply aS.fu 5 12 7 [7,8,9,10,11,12] rfl
 ·intro h7
  exact JS 6
 ·intro h7
  exact JS 6
 refine JD 2 (fun h12=>?_) fun h12=>?_
 ·simp only[Bool.or_eq_true,decide_eq_true_eq] at h12
  refine J 7 ?_
  refine .aI rfl rfl fun w s=>⟨(),?_,trivial,aq .auto s⟩
  rw[sG (by omega)]
 ·simp only[Bool.or_eq_false_iff,decide_eq_false_iff_not] at h12
  refine J 6 ?_
  obtain⟨n,rfl⟩:∃ n:Nat,op=(n:Int):=⟨op.toNat,by omega⟩
  obtain⟨x,hx⟩:=aB (show n<wC.length by show n<39;omega)
  refine .p (.hY n underlying257 sizeOf9 rfl rfl (Rd.lit (enc:=Kv) (k:=1) (xs:=wC) (b:=b4) .auto rfl (fun _ _=>rfl) rfl) rfl (by show n<39;omega)) ?_
  refine .p (.ld rfl (Cell.yQ (Rd.lit (enc:=Kv) (k:=1) (xs:=wC) (b:=b4) .auto rfl (fun _ _=>rfl) rfl) hx rfl)) ?_
  refine J 4 ?_
  refine .aI rfl rfl fun w s=>⟨(),?_,trivial,aq .auto s⟩
  rw[EP hx]
theorem wP{W:World}{s:ByteArray}{c:Int}(hs:s.size≤1000000):Fn Tryz.prog W 111 [.string s,.int .u8 c] [] Unit (fun _=>.bool (A7 s c)) (fun _=>True) (fun _=>[]):=by
 refine Fn.intro (N:=17) func111 rfl ntmps111 rfl fun F=>?_
 show ax _ _ _ _ _ _ [F]
 refine J 12 ?_
 refine .da (X:=Nat) [4,5,6,7,8,9,10,11,12,13,14,15,16] (fun k=>s.size-k) (fun k=>k≤s.size∧((s.data.toList.take k).any fun b=>decide ((b.toNat:Int)=c))=false) (fun k=>[(5,some (.int .i64 (k:Int)))]) (fun k=>[F]) 0 ?_ ?_ ?_ ?_
 ·exact⟨Nat.zero_le _,rfl⟩
 ·exact⟨rfl,trivial⟩
 ·exact fun w s=>aK.kept .auto w s
 rintro k ⟨hk,hn⟩
 refine J 5 ?_
 refine .p (.EL underlying9 rfl) ?_
 refine JD 3 (fun h9=>?_) fun h9=>?_
 ·refine J 8 ?_
  obtain⟨x,hx,hxl⟩:=yb (show k<s.size by omega)
  refine .p (.HZ k underlying9 rfl rfl rfl hx) ?_
  refine JD 4 (fun h16=>?_) fun h16=>?_
  ·refine J 11 ?_
   refine .aI rfl rfl fun w s=>⟨(),?_,trivial,aq .auto s⟩
   rw[GS hxl h16]
  ·refine J 8 ?_
   refine .bq (k+1) .auto rfl ?_ ?_ ?_ ?_
   ·first | omega | (dsimp only;omega)
   ·exact⟨by omega,sH hxl hn h16⟩
   ·exact⟨rfl,trivial⟩
   ·exact fun w s=>aK.kept .auto w s
 ·refine J 11 ?_
  have hkk:k=s.size:=by omega
  refine .aI rfl rfl fun w s=>⟨(),?_,trivial,aq .auto s⟩
  rw[EN hkk hn]
theorem mL{W:World}{n m:Int}{b:Bool}:Fn Tryz.prog W 110 [.int .i64 n,.bool b,.int .i64 m] [] Unit (fun _=>.bool (gK n b m)) (fun _=>True) (fun _=>[]):=by
 refine Fn.intro (N:=18) func110 rfl ntmps110 rfl fun F=>?_
 show ax _ _ _ _ _ _ [F]
 refine JD 12 (fun h8=>?_) fun h8=>?_
 ·refine J 9 ?_
  refine .aI rfl rfl fun w s=>⟨(),?_,trivial,aq .auto s⟩
  have hb:b=false:=by simpa using h8
  rw[hb];unfold gK;rw[if_pos rfl]
 ·refine J 7 ?_
  apply aS.gr 4 17 13 [13,14,15,16,17] rfl
  ·intro h13
   exact JS 5
  ·intro h13
   exact JS 5
  refine J 4 ?_
  refine .aI rfl rfl fun w s=>⟨(),?_,trivial,aq .auto s⟩
  have hb:b=true:=by simpa using h8
  rw[hb];unfold gK;rw[if_neg (by decide)]
theorem CT{W:World}{A:aa}{v:bI}(hp:eD W [A] v){i:Ins}(hc0:ei v.p=true):Fn Tryz.prog W 66 [.agg (eg v).toArray,.agg (dC i).toArray] [A] Unit (fun _=>.bool (ey v.p i)) (fun _=>True) (fun _=>[A]):=by
 refine Fn.intro (N:=88) func66 rfl ntmps66 rfl fun F=>?_
 haveI hI1:∀ (H:List aa) [cf H A],aJ W H v.fv cj 1 v.fs:=fun H h=>⟨hp.fs.at h.has⟩
 haveI hI2:∀ (H:List aa) [cf H A],aJ W H v.sv aP 1 v.aT:=fun H h=>⟨hp.aT.at h.has⟩
 haveI hI3:∀ (H:List aa) [cf H A],aJ W H v.pv aP 1 v.aC:=fun H h=>⟨hp.aC.at h.has⟩
 show ax _ _ _ _ _ _ [A,F]
 have hcp:=Ck hc0
 have hfl:v.p.funcs.length=v.fs.length:=List.length_map ..
 refine J 2 ?_
 refine .aw rfl (af.box rfl rfl rfl) ?_
 rintro _ _ ⟨b2,rfl,rfl⟩
 refine .aw rfl (af.box rfl rfl rfl) ?_
 rintro _ _ ⟨b3,rfl,rfl⟩
 refine J 7 ?_
 refine .c call109 rfl HF fun _ _=>?_
 refine J 5 ?_
 refine .draw [arr b3 0 (dC i)] [1,1,1,0,0,1,2,3,1,1,1,0,0,1,2,3,1,1] rfl (by kernel_rfl) ?_
 refine J 1 ?_
 refine .p (.Jc (Y.eqStr rfl rfl) (EM (im i.op))) ?_
 refine J 1 ?_
 refine .lE (t:=12) rfl (fun h0=>?_) (fun h0=>?_)
 ·refine J 3 ?_
  refine .yV rfl rfl rfl rfl Kept.auto ?_
  refine .Ah rfl rfl rfl rfl ?_
  refine J 6 ?_
  refine .yV rfl rfl rfl rfl Kept.auto ?_
  refine .Ah rfl rfl rfl rfl ?_
  refine J 4 ?_
  refine .hJ rfl ?_
  refine J 7 ?_
  refine .aI rfl rfl fun w s=>⟨(),?_,trivial,aq .auto s⟩
  rw[← fC v.p i hcp.1.1 hcp.2.1.1];unfold nr;rw[if_pos h0]
 ·refine J 3 ?_
  refine .LI rfl rfl rfl Kept.auto (af.fQ rfl call111 rfl (wP (s:=im i.op) (c:=65) (Nat.le_trans (kv _) (by decide))) .auto) (by rintro _ _ ⟨⟨⟩, -,rfl,rfl⟩;exact Kept.auto) ?_
  rintro _ _ ⟨⟨⟩, -,rfl,rfl⟩
  refine .dg rfl rfl rfl (af.fQ rfl call110 rfl mL .auto) ?_
  rintro _ _ ⟨⟨⟩, -,rfl,rfl⟩
  refine J 3 ?_
  refine .part (t:=20) rfl (fun hA=>?_) (fun hA=>?_)
  ·refine J 3 ?_
   refine .yV rfl rfl rfl rfl Kept.auto ?_
   refine .Ah rfl rfl rfl rfl ?_
   refine J 4 ?_
   refine .hJ rfl ?_
   refine J 7 ?_
   refine .aI rfl rfl fun w s=>⟨(),?_,trivial,aq .auto s⟩
   rw[← fC v.p i hcp.1.1 hcp.2.1.1,k9 h0 (show _=false by simpa using hA) rfl rfl rfl];rfl
  ·refine J 3 ?_
   refine .LI rfl rfl rfl Kept.auto (af.fQ rfl call111 rfl (wP (s:=im i.op) (c:=66) (Nat.le_trans (kv _) (by decide))) .auto) (by rintro _ _ ⟨⟨⟩, -,rfl,rfl⟩;exact Kept.auto) ?_
   rintro _ _ ⟨⟨⟩, -,rfl,rfl⟩
   refine .dg rfl rfl rfl (af.fQ rfl call110 rfl mL .auto) ?_
   rintro _ _ ⟨⟨⟩, -,rfl,rfl⟩
   refine JD 4 (fun hB=>?_) fun hB=>?_
   ·refine J 7 ?_
    refine .aI rfl rfl fun w s=>⟨(),?_,trivial,aq .auto s⟩
    rw[← fC v.p i hcp.1.1 hcp.2.1.1,k9 h0 rfl (show _=false by simpa using hB) rfl rfl,Bool.and_false];rfl
   ·rw[Bool.not_eq_false'] at hA hB
    refine J 2 ?_
    refine .mX (X:=Unit) [4,28,29,30,31,32,33,34,35,36,37,38,39,40,41] (fun _=>jP v.p i=true) (fun _=>[]) (fun _=>[arr b2 0 (eg v),arr b3 0 (dC i),A,F]) ?_ ?_
    ·refine J 3 ?_
     refine .c call111 rfl (wP (s:=im i.op) (c:=77) (Nat.le_trans (kv _) (by decide))) fun _ _=>?_
     refine JD 2 (fun h29=>?_) fun h29=>?_
     ·refine J 6 ?_
      refine .c call110 rfl mL fun _ _=>?_
      refine JD 3 (fun h35=>?_) fun h35=>?_
      ·refine J 7 ?_
       refine .aI rfl rfl fun w s=>⟨(),?_,trivial,aq .auto s⟩
       rw[← fC v.p i hcp.1.1 hcp.2.1.1,k9 h0 rfl rfl (show jP v.p i=false by unfold jP;rw[if_pos h29];exact(show gK i.c true v.ay=false by simpa using h35)) rfl,Bool.and_false,Bool.false_and]
      ·refine J 1 ?_
       refine .eK () .auto ?_ ?_ ?_
       ·unfold jP;rw[if_pos h29];exact(show gK i.c true v.ay=true by simpa using h35)
       ·trivial
       ·exact fun w s=>aK.kept .auto w s
     ·refine J 1 ?_
      refine .draw [arr b3 0 (dC i)] [0,0,1,2,3,1] rfl (by kernel_rfl) ?_
      refine J 3 ?_
      refine .c2 call111 rfl (wP (s:=im i.op) (c:=67) (Nat.le_trans (kv _) (by decide))) fun _ _=>?_
      refine .c call110 rfl mL fun _ _=>?_
      refine JD 3 (fun h41=>?_) fun h41=>?_
      ·refine J 7 ?_
       refine .aI rfl rfl fun w s=>⟨(),?_,trivial,aq .auto s⟩
       rw[← fC v.p i hcp.1.1 hcp.2.1.1,k9 h0 rfl rfl (show jP v.p i=false by unfold jP;rw[if_neg (by rw[h29];decide)];simpa using h41) rfl,Bool.and_false,Bool.false_and]
      ·refine J 1 ?_
       refine .eK () .auto ?_ ?_ ?_
       ·unfold jP;rw[if_neg (by rw[h29];decide)];simpa using h41
       ·trivial
       ·exact fun w s=>aK.kept .auto w s
    ·rintro⟨⟩ hthird
     refine J 5 ?_
     refine .mX (X:=Int) [4,6,42,43,44,45,46,47,48,49,50,51,52,53,54,55,56,57,58,59,60,61,62,63,64,65,66,67,68,69,70,71,72,73,74,75,76,77,78] (fun m=>mV v.p i (oT (im i.op))=(decide (0<m) && decide (i.n<m))∧m≤1000) (fun m=>[(6,some (.int .i64 m))]) (fun _=>[arr b2 0 (eg v),arr b3 0 (dC i),A,F]) ?_ ?_
     ·refine J 4 ?_
      obtain⟨h1s,cc,hcc,hlc⟩:=EO h0
      have hsz:=kv i.op
      refine .p (.EL underlying9 rfl) ?_
      refine J 1 ?_
      refine .p (.HZ ((im i.op).size-1) underlying9 rfl rfl (by omega) hcc) ?_
      refine JD 9 (fun h47=>?_) fun h47=>?_
      ·refine J 8 ?_
       refine .aI rfl rfl fun w s=>⟨(),?_,trivial,aq .auto s⟩
       rw[← fC v.p i hcp.1.1 hcp.2.1.1,k9 h0 hA hB hthird (GU (hlc.trans h47))];rfl
      ·refine JD 6 (fun h49=>?_) fun h49=>?_
       ·refine J 11 ?_
        refine .aI rfl rfl fun w s=>⟨(),?_,trivial,aq .auto s⟩
        rw[← fC v.p i hcp.1.1 hcp.2.1.1,k9 h0 hA hB hthird (GV (fun e=>h47 (hlc.symm.trans e)) (hlc.trans h49))];rfl
       ·have h1:¬oT (im i.op)=120:=fun e=>h47 (hlc.symm.trans e)
        have h2:¬oT (im i.op)=110:=fun e=>h49 (hlc.symm.trans e)
        refine JD 6 (fun h54=>?_) fun h54=>?_
        ·refine J 4 ?_
         refine .eK 257 .auto ?_ ?_ ?_
         ·exact⟨k8 h1 h2 (by unfold l6;rw[if_pos (hlc.trans h54)]),by decide⟩
         ·exact⟨rfl,trivial⟩
         ·exact fun w s=>aK.kept .auto w s
        ·refine JD 6 (fun h56=>?_) fun h56=>?_
         ·refine J 7 ?_
          refine .eK (v.fs.length:Int) .auto ?_ ?_ ?_
          ·exact⟨k8 h1 h2 (by unfold l6;rw[if_neg (fun e=>h54 (hlc.symm.trans e)),if_pos (hlc.trans h56),hfl]),by omega⟩
          ·exact⟨rfl,trivial⟩
          ·exact fun w s=>aK.kept .auto w s
         ·refine JD 6 (fun h61=>?_) fun h61=>?_
          ·refine J 6 ?_
           refine .eK v.p.ay .auto ?_ ?_ ?_
           ·exact⟨k8 h1 h2 (by unfold l6;rw[if_neg (fun e=>h54 (hlc.symm.trans e)),if_neg (fun e=>h56 (hlc.symm.trans e)),if_pos (hlc.trans h61)]),by omega⟩
           ·exact⟨rfl,trivial⟩
           ·exact fun w s=>aK.kept .auto w s
          ·refine JD 6 (fun h65=>?_) fun h65=>?_
           ·refine J 6 ?_
            refine .eK v.p.conds .auto ?_ ?_ ?_
            ·exact⟨k8 h1 h2 (by unfold l6;rw[if_neg (fun e=>h54 (hlc.symm.trans e)),if_neg (fun e=>h56 (hlc.symm.trans e)),if_neg (fun e=>h61 (hlc.symm.trans e)),if_pos (hlc.trans h65)]),by omega⟩
            ·exact⟨rfl,trivial⟩
            ·exact fun w s=>aK.kept .auto w s
           ·refine JD 6 (fun h69=>?_) fun h69=>?_
            ·refine J 7 ?_
             refine .eK (v.p.aT.length:Int) .auto ?_ ?_ ?_
             ·exact⟨k8 h1 h2 (by unfold l6;rw[if_neg (fun e=>h54 (hlc.symm.trans e)),if_neg (fun e=>h56 (hlc.symm.trans e)),if_neg (fun e=>h61 (hlc.symm.trans e)),if_neg (fun e=>h65 (hlc.symm.trans e)),if_pos (hlc.trans h69)]),by omega⟩
             ·exact⟨rfl,trivial⟩
             ·exact fun w s=>aK.kept .auto w s
            ·refine JD 6 (fun h74=>?_) fun h74=>?_
             ·refine J 7 ?_
              refine .eK (v.p.aC.length:Int) .auto ?_ ?_ ?_
              ·exact⟨k8 h1 h2 (by unfold l6;rw[if_neg (fun e=>h54 (hlc.symm.trans e)),if_neg (fun e=>h56 (hlc.symm.trans e)),if_neg (fun e=>h61 (hlc.symm.trans e)),if_neg (fun e=>h65 (hlc.symm.trans e)),if_neg (fun e=>h69 (hlc.symm.trans e)),if_pos (hlc.trans h74)]),by omega⟩
              ·exact⟨rfl,trivial⟩
              ·exact fun w s=>aK.kept .auto w s
             ·refine J 2 ?_
              refine .eK 0 .auto ?_ ?_ ?_
              ·exact⟨k8 h1 h2 (by unfold l6;rw[if_neg (fun e=>h54 (hlc.symm.trans e)),if_neg (fun e=>h56 (hlc.symm.trans e)),if_neg (fun e=>h61 (hlc.symm.trans e)),if_neg (fun e=>h65 (hlc.symm.trans e)),if_neg (fun e=>h69 (hlc.symm.trans e)),if_neg (fun e=>h74 (hlc.symm.trans e))]),by decide⟩
              ·exact⟨rfl,trivial⟩
              ·exact fun w s=>aK.kept .auto w s
     ·rintro m ⟨hm1,hm2⟩
      refine J 5 ?_
      apply aS.gr 6 87 81 [81,82,83,84,85,86,87] rfl
      ·intro h81
       refine J 3 ?_
       refine .g (.fY underlying3 underlying38 rfl (by omega)) ?_
       exact JS 3
      ·intro h81
       exact JS 7
      refine J 4 ?_
      refine .aI rfl rfl fun w s=>⟨(),?_,trivial,aq .auto s⟩
      refine F6 ?_
      rw[← fC v.p i hcp.1.1 hcp.2.1.1,k9 h0 hA hB hthird hm1];simp
theorem CU{W:World}{A:aa}{v:bI}(hp:eD W [A] v)(hl:v.fs.length≤1000000000∧v.aT.length≤1000000000∧v.aC.length≤1000000000):Fn Tryz.prog W 10 [.agg (eg v).toArray] [A] Unit (fun _=>.int .i64 (cK v.p)) (fun _=>True) (fun _=>[A]):=by
 refine Fn.intro (N:=164) func10 rfl ntmps10 rfl fun F=>?_
 haveI hI1:∀ (H:List aa) [cf H A],aJ W H v.fv cj 1 v.fs:=fun H h=>⟨hp.fs.at h.has⟩
 haveI hI2:∀ (H:List aa) [cf H A],aJ W H v.sv aP 1 v.aT:=fun H h=>⟨hp.aT.at h.has⟩
 haveI hI3:∀ (H:List aa) [cf H A],aJ W H v.pv aP 1 v.aC:=fun H h=>⟨hp.aC.at h.has⟩
 show ax _ _ _ _ _ _ [A,F]
 refine J 2 ?_
 refine .aw rfl (af.box rfl rfl rfl) ?_
 rintro _ _ ⟨b1,rfl,rfl⟩
 refine J 11 ?_
 apply aS.fu 5 17 12 [12,13,14,15,16,17] rfl
 ·intro h12
  exact JS 6
 ·intro h12
  exact JS 6
 refine J 1 ?_
 apply aS.gC 4 22 18 [18,19,20,21,22] rfl
 ·intro h18
  exact JS 5
 ·intro h18
  exact JS 5
 refine J 1 ?_
 apply aS.gC 4 27 23 [23,24,25,26,27] rfl
 ·intro h23
  exact JS 5
 ·intro h23
  exact JS 5
 refine J 1 ?_
 apply aS.gC 4 32 28 [28,29,30,31,32] rfl
 ·intro h28
  exact JS 5
 ·intro h28
  exact JS 5
 refine J 1 ?_
 apply aS.gC 4 37 33 [33,34,35,36,37] rfl
 ·intro h33
  exact JS 5
 ·intro h33
  exact JS 5
 refine J 1 ?_
 apply aS.gC 4 42 38 [38,39,40,41,42] rfl
 ·intro h38
  exact JS 5
 ·intro h38
  exact JS 5
 refine J 1 ?_
 apply aS.gC 4 47 43 [43,44,45,46,47] rfl
 ·intro h43
  exact JS 5
 ·intro h43
  exact JS 5
 refine J 1 ?_
 apply aS.gC 5 53 48 [48,49,50,51,52,53] rfl
 ·intro h48
  exact JS 6
 ·intro h48
  exact JS 6
 refine J 1 ?_
 apply aS.gC 5 59 54 [54,55,56,57,58,59] rfl
 ·intro h54
  exact JS 6
 ·intro h54
  exact JS 6
 refine J 1 ?_
 apply aS.gC 4 64 60 [60,61,62,63,64] rfl
 ·intro h60
  exact JS 5
 ·intro h60
  exact JS 5
 refine J 1 ?_
 apply aS.gC 4 69 65 [65,66,67,68,69] rfl
 ·intro h65
  exact JS 5
 ·intro h65
  exact JS 5
 refine J 1 ?_
 apply aS.gC 4 74 70 [70,71,72,73,74] rfl
 ·intro h70
  exact JS 5
 ·intro h70
  exact JS 5
 refine J 1 ?_
 apply aS.gC 4 79 75 [75,76,77,78,79] rfl
 ·intro h75
  exact JS 5
 ·intro h75
  exact JS 5
 refine JD 2 (fun h79=>?_) fun h79=>?_
 ·simp only[Bool.or_eq_true,decide_eq_true_eq] at h79
  refine J 7 ?_
  refine .aI rfl rfl fun w s=>⟨(),?_,trivial,aq .auto s⟩
  rw[mE (fun e=>by have:=(jj.1 e).1;omega)]
 ·simp only[Bool.or_eq_false_iff,decide_eq_false_iff_not] at h79
  have hc1:(0<v.fs.length∧v.fs.length≤8)∧(0≤v.words∧v.words≤64)∧(0≤v.ay∧v.ay≤4)∧(0≤v.conds∧v.conds≤4)∧(0≤v.blocks∧v.blocks≤64)∧(0≤v.prio∧v.prio≤7)∧v.aT.length≤4∧v.aC.length≤4:=by omega
  refine J 9 ?_
  refine .da (X:=Nat) [2,3,80,81,82,83,84,85,86,87,88,89,90,91,92,93,94,95,96,97,98,99,100] (fun k=>v.aT.length-k) (fun k=>k≤v.aT.length∧((v.aT.take k).all fun n=>within n 1048576)=true) (fun k=>[(3,some (.int .i64 (k:Int)))]) (fun k=>[arr b1 0 (eg v),A,F]) 0 ?_ ?_ ?_ ?_
  ·exact⟨Nat.zero_le _,rfl⟩
  ·exact⟨rfl,trivial⟩
  ·exact fun w s=>aK.kept .auto w s
  rintro k ⟨hk,hs1⟩
  refine JD 10 (fun h84=>?_) fun h84=>?_
  ·refine J 9 ?_
   obtain⟨x,hx⟩:=aB (show k<v.aT.length by omega)
   refine .p (.ix k rfl rfl rfl (by omega)) ?_
   refine .p (.lr rfl hx) ?_
   refine J 2 ?_
   apply aS.fu 7 100 93 [93,94,95,96,97,98,99,100] rfl
   ·intro h93
    refine J 3 ?_
    refine .g (.ix k rfl rfl rfl (by omega)) ?_
    refine .g (.lr rfl hx) ?_
    exact JS 3
   ·intro h93
    exact JS 8
   refine JD 2 (fun h100=>?_) fun h100=>?_
   ·simp only[Bool.or_eq_true,decide_eq_true_eq] at h100
    refine J 11 ?_
    refine .aI rfl rfl fun w s=>⟨(),?_,trivial,aq .auto s⟩
    rw[mE (fun e=>by have:=List.all_eq_true.1 (jj.1 e).2.2.1 x (List.mem_of_getElem? hx);rw[zG (by omega)] at this;cases this)]
   ·simp only[Bool.or_eq_false_iff,decide_eq_false_iff_not] at h100
    refine J 8 ?_
    refine .bq (k+1) .auto rfl ?_ ?_ ?_ ?_
    ·first | omega | (dsimp only;omega)
    ·exact⟨by omega,by rw[ga hx,hs1,uq (by omega) (by omega)];rfl⟩
    ·exact⟨rfl,trivial⟩
    ·exact fun w s=>aK.kept .auto w s
  ·obtain rfl:k=v.aT.length:=by omega
   rw[List.take_length] at hs1
   refine J 12 ?_
   refine .da (X:=Nat) [2,4,101,102,103,104,105,106,107,108,109,110,111,112,113,114,115,116,117,118,119,120,121] (fun k=>v.aC.length-k) (fun k=>k≤v.aC.length∧((v.aC.take k).all fun n=>decide (0<n) && within n 8)=true) (fun k=>[(4,some (.int .i64 (k:Int)))]) (fun k=>[arr b1 0 (eg v),A,F]) 0 ?_ ?_ ?_ ?_
   ·exact⟨Nat.zero_le _,rfl⟩
   ·exact⟨rfl,trivial⟩
   ·exact fun w s=>aK.kept .auto w s
   rintro k ⟨hk,hs2⟩
   refine JD 10 (fun h105=>?_) fun h105=>?_
   ·refine J 9 ?_
    obtain⟨x,hx⟩:=aB (show k<v.aC.length by omega)
    refine .p (.ix k rfl rfl rfl (by omega)) ?_
    refine .p (.lr rfl hx) ?_
    refine J 2 ?_
    apply aS.fu 7 121 114 [114,115,116,117,118,119,120,121] rfl
    ·intro h114
     refine J 3 ?_
     refine .g (.ix k rfl rfl rfl (by omega)) ?_
     refine .g (.lr rfl hx) ?_
     exact JS 3
    ·intro h114
     exact JS 8
    refine JD 2 (fun h121=>?_) fun h121=>?_
    ·simp only[Bool.or_eq_true,decide_eq_true_eq] at h121
     refine J 11 ?_
     refine .aI rfl rfl fun w s=>⟨(),?_,trivial,aq .auto s⟩
     rw[mE (fun e=>by have:=List.all_eq_true.1 (jj.1 e).2.2.2 x (List.mem_of_getElem? hx);unfold within at this;simp only[Bool.and_eq_true,decide_eq_true_eq] at this;omega)]
    ·simp only[Bool.or_eq_false_iff,decide_eq_false_iff_not] at h121
     refine J 8 ?_
     refine .bq (k+1) .auto rfl ?_ ?_ ?_ ?_
     ·first | omega | (dsimp only;omega)
     ·exact⟨by omega,by rw[ga hx,hs2,uq (by omega) (by omega),decide_eq_true (show 0<x by omega)];rfl⟩
     ·exact⟨rfl,trivial⟩
     ·exact fun w s=>aK.kept .auto w s
   ·obtain rfl:k=v.aC.length:=by omega
    rw[List.take_length] at hs2
    refine J 12 ?_
    refine .da (X:=Nat) [2,5,122,123,124,125,126,127,128,129,130,131,132,133,134,135] (fun k=>v.fs.length-k) (fun k=>k≤v.fs.length∧((v.fs.take k).all fun f=>decide (f.2.length≤256))=true) (fun k=>[(5,some (.int .i64 (k:Int)))]) (fun k=>[arr b1 0 (eg v),A,F]) 0 ?_ ?_ ?_ ?_
    ·exact⟨Nat.zero_le _,rfl⟩
    ·exact⟨rfl,trivial⟩
    ·exact fun w s=>aK.kept .auto w s
    rintro k ⟨hk,hs3⟩
    refine JD 10 (fun h126=>?_) fun h126=>?_
    ·refine J 9 ?_
     obtain⟨x,hx⟩:=aB (show k<v.fs.length by omega)
     have hi:=hp.ins x (List.mem_of_getElem? hx)
     haveI hI4:∀ (H:List aa) [cf H A],aJ W H x.1 dC 5 x.2:=fun H h=>⟨hi.at h.has⟩
     refine JD 6 (fun h135=>?_) fun h135=>?_
     ·refine J 11 ?_
      refine .aI rfl rfl fun w s=>⟨(),?_,trivial,aq .auto s⟩
      rw[mE (fun e=>by have:=List.all_eq_true.1 (jj.1 e).2.1 x (List.mem_of_getElem? hx);simp only[decide_eq_true_eq] at this;omega)]
     ·refine J 8 ?_
      refine .bq (k+1) .auto rfl ?_ ?_ ?_ ?_
      ·first | omega | (dsimp only;omega)
      ·exact⟨by omega,by rw[ga hx,hs3,decide_eq_true (show x.2.length≤256 by omega)];rfl⟩
      ·exact⟨rfl,trivial⟩
      ·exact fun w s=>aK.kept .auto w s
    ·obtain rfl:k=v.fs.length:=by omega
     rw[List.take_length] at hs3
     have hcap:ei v.p=true:=jj.2 ⟨hc1,hs3,hs1,hs2⟩
     refine J 12 ?_
     refine .da (X:=Nat) [2,6,7,136,137,138,139,140,141,142,143,144,145,146,147,148,149,150,151,152,153,154,155,156,157,158,159,160,161,162,163] (fun k=>v.fs.length-k) (fun k=>k≤v.fs.length∧(v.fs.take k).all (fun f:Value×List Ins=>f.2.all (ey v.p))=true) (fun k=>[(6,some (.int .i64 (k:Int)))]) (fun k=>[arr b1 0 (eg v),A,F]) 0 ?_ ?_ ?_ ?_
     ·exact⟨Nat.zero_le _,rfl⟩
     ·exact⟨rfl,trivial⟩
     ·exact fun w s=>aK.kept .auto w s
     rintro k ⟨hk,hs⟩
     refine JD 10 (fun h140=>?_) fun h140=>?_
     ·obtain⟨x,hx⟩:=aB (show k<v.fs.length by omega)
      have hi:=hp.ins x (List.mem_of_getElem? hx)
      haveI hI4:∀ (H:List aa) [cf H A],aJ W H x.1 dC 5 x.2:=fun H h=>⟨hi.at h.has⟩
      have hx256:x.2.length≤256:=vx hcap (List.mem_of_getElem? hx)
      refine J 10 ?_
      refine .da (X:=Nat) [2,7,143,144,145,146,147,148,149,150,151,152,153,154,155,156,157,158,159,160,161,162,163] (fun j=>x.2.length-j) (fun j=>j≤x.2.length∧(x.2.take j).all (ey v.p)=true) (fun j=>[(7,some (.int .i64 (j:Int)))]) (fun j=>[arr b1 0 (eg v),A,F]) 0 ?_ ?_ ?_ ?_
      ·exact⟨Nat.zero_le _,rfl⟩
      ·exact⟨rfl,trivial⟩
      ·exact fun w s=>aK.kept .auto w s
      rintro j ⟨hj0,hsj⟩
      refine JD 13 (fun hin=>?_) fun hin=>?_
      ·refine J 5 ?_
       refine .draw [arr b1 0 (eg v)] [1,1,1,1,1,1,1,1,1,3,1] rfl (by kernel_rfl) ?_
       refine J 7 ?_
       obtain⟨i,hj⟩:=aB (show j<x.2.length by omega)
       refine J 2 ?_
       refine .c call66 rfl (CT hp hcap) fun _ _=>?_
       refine JD 3 (fun hsd=>?_) fun hsd=>?_
       ·refine J 15 ?_
        refine .aI rfl rfl fun w s=>⟨(),?_,trivial,aq .auto s⟩
        exact jt (tN hcap hx hj (by simpa using hsd)).symm
       ·refine J 8 ?_
        refine .bq (j+1) .auto rfl ?_ ?_ ?_ ?_
        ·first | omega | (dsimp only;omega)
        ·exact⟨by omega,by rw[ga hj,hsj,show ey v.p i=true by simpa using hsd];rfl⟩
        ·exact⟨rfl,trivial⟩
        ·exact fun w s=>aK.kept .auto w s
      ·refine J 11 ?_
       obtain rfl:j=x.2.length:=by omega
       rw[List.take_length] at hsj
       refine .bq (k+1) .auto rfl ?_ ?_ ?_ ?_
       ·first | omega | (dsimp only;omega)
       ·exact⟨by omega,by rw[ga hx,hs,hsj];rfl⟩
       ·exact⟨rfl,trivial⟩
       ·exact fun w s=>aK.kept .auto w s
     ·refine J 11 ?_
      obtain rfl:k=v.fs.length:=by omega
      rw[List.take_length] at hs
      refine .aI rfl rfl fun w s=>⟨(),?_,trivial,aq .auto s⟩
      exact jt (xj hcap hs).symm
end Go.SLYtefdijgllbkmfaaGreat
namespace Go.SLYtefdijgllbkmfaaGreat
open Go Go.RowKit
variable{p0:eB}
theorem FI{k:Nat}{s:Spc}{r:RSp}(h:fk p0 s r)(hO:Ok k s [] []){n:Int}(c:n<0∨15<n∨(r.thr n.toNat).used=false):s.at n=none:=by
 have e:=h.seen hO (n:=n)
 have e2:r.seen n=false:=by
  unfold RSp.seen
  rcases c with c | c | c
  ·rw[decide_eq_false (show ¬ 0≤n by omega)];rfl
  ·rw[decide_eq_false (show ¬n<16 by omega)];simp
  ·rw[show(r.t n.toNat).used=false from c];simp
 rw[e2] at e
 exact Option.isNone_iff_eq_none.1 (by cases hs:s.at n with | none=>rfl | some t=>rw[hs] at e;cases e)
theorem CV{k:Nat}{s:Spc}{r:RSp}(h:fk p0 s r)(hO:Ok k s [] []){n:Int}(c1:¬n<0)(c2:¬ 15<n)(c3:(r.thr n.toNat).used=true):∃ (m:Nat) (t:bF),n=(m:Int)∧m<16∧s.thr[m]?=some (some t)∧s.at n=some t∧(r.thr m).why=t.why:=by
 have e:=h.seen hO (n:=n)
 have e2:r.seen n=true:=by
  unfold RSp.seen
  rw[decide_eq_true (show 0≤n by omega),decide_eq_true (show n<16 by omega),show(r.t n.toNat).used=true from c3];rfl
 rw[e2] at e
 obtain⟨t,ht⟩:=Option.isSome_iff_exists.1 e.symm
 obtain⟨h0,hat⟩:=fi ht
 exact⟨n.toNat,t,by omega,hO.lt ▸ (List.getElem?_eq_some_iff.1 hat).1,hat,ht,(h.th _ t hat).w⟩
theorem fk.LD{k:Nat}{s:Spc}{r:RSp}(h:fk p0 s r)(hO:tm k s)(hk:k≤1990){m:Nat}{t:bF}(ht:s.thr[m]?=some (some t))(hw:t.why=0){c:Int} :
  (s.run m c).1=(r.run p0 m c).1∧(s.run m c).2.1=0∧fk p0 (s.run m c).2.2 (r.run p0 m c).2∧Ff p0 r m∧(r.run p0 m c).2.au.length≤900000000:=by
 have e:=h.run hO.1 hO.2.2 (by omega) (hO.rec hk) ht hw (c:=c)
 have e2:=h.LA hO.1 (by omega) (hO.rec hk) ht
 rw[h.pg] at e e2
 have h3:=(hO.1.run hO.2.2 (n:=(m:Int)) (c:=c) (by omega) (hO.rec hk)).2.2.2.1
 have h4:=hO.rec hk
 exact⟨e.1,e.2.1,e.2.2,e2,by rw[e.2.2.rc];omega⟩
end Go.SLYtefdijgllbkmfaaGreat
namespace Go.SLYtefdijgllbkmfaaGreat
open Go Go.RowKit Go.Proofs Go.Proofs.Tryz
attribute [local irreducible] ax aS bo bY bP Y
end Go.SLYtefdijgllbkmfaaGreat
