/- Walks. Conditions: none. -/
import Derived.Test.YtpbjdoplfgeliaaGreatU07
import Derived.Test.YtpbjdoplfgeliaaGreatProg
import Derived.Test.YtpbjdoplfgeliaaGreatU11
import Derived.Test.YtpbjdoplfgeliaaGreatU06
import Derived.KernelRfl
import Derived.Test.YtpbjdoplfgeliaaGreatU03
import Derived.Test.YtpbjdoplfgeliaaGreatU05
set_option maxRecDepth 20000
set_option maxHeartbeats 4000000
namespace Go.SLYtpbjdoplfgeliaaGreat
open Go Go.RowKit Go.Proofs Go.Proofs.Tryz
attribute [local irreducible] ar aR bm bA bH Y
theorem KR{W:World}{b bs br i:Nat}{l:Lib}{v:aH}(hv:l.vs[i]?=some v){c:Int}(hz:HZ l)(hw:∀ t,(l.aI.run t c).1.av.length≤17):Fn Tryz.prog W 141 [ptr b,.int .i64 (i:Int),.int .i64 c] [bj b bs br l] Value (fun u=>.agg (dy u (l.gR (i:Int) c).1).toArray) (fun _=>True) (fun u=>[sl aq 1 u (l.gR (i:Int) c).1.xb.av,bj b bs br (l.gR (i:Int) c).2]):=by
 refine Fn.intro (N:=77) func141 rfl ntmps141 rfl fun F=>?_
 show ar _ _ _ _ _ _ [bj b bs br l,F]
 refine .o2 (C:=bj b bs br l) .auto rfl ?_
 rintro vv vw -
 refine .o1 (C:=cv vv l.vs) .auto rfl ?_
 rintro xs hxs
 have hxl:=au hxs
 obtain⟨x,hx,hxv⟩:=di hxs hv
 have hil:=(List.getElem?_eq_some_iff.1 hx).1
 subst hxv
 refine J 2 ?_
 refine .aj rfl (af.alloc rfl zeroValue75 rfl) ?_
 rintro _ _ ⟨b6,rfl,rfl⟩
 refine J 9 ?_
 refine .p (.ix i rfl rfl rfl (by omega)) ?_
 refine J 1 ?_
 refine .p (.ld rfl (Cell.rd (c:=1) Rd.s hx rfl)) ?_
 refine J 10 ?_
 refine .c call192 rfl (CL (s:=l.aI) (n:=x.2.ab) hz.sp) fun _ _=>?_
 refine JD 10 (fun h25=>?_) fun h25=>?_
 ·refine J 7 ?_
  refine .p (.ix i rfl rfl rfl (by omega)) ?_
  refine J 1 ?_
  refine .aj rfl (af.er (x':=(x.1,{x.2 with mode:=6 })) rfl rfl sizeOf3 rfl hx (by decide) rfl .auto) ?_
  rintro _ _ ⟨rfl,rfl⟩
  refine .to (A:=cv vv (l.vs.set i {x.2 with mode:=6 })) (Bs:=[sl eZ 3 vv (xs.set i (x.1,{x.2 with mode:=6 })),aO (fun x:Value×aH=>sl cf 3 x.1 x.2.evs) xs]) .auto (kV hxs hx rfl) ?_
  refine J 4 ?_
  refine .p (.mq (dy (.slice none 0 0) gg.z) (by kernel_rfl)) ?_
  refine .aj rfl (af.iy (vs:=dy (.slice none 0 0) gg.z) (by exact sizeOf75) rfl rfl (by rfl) (by rfl)) ?_
  rintro _ _ ⟨rfl,rfl⟩
  refine J 4 ?_
  rw[lY hv h25]
  refine .dJ rfl rfl isAgg75 (by exact sizeOf75) Cells.a fun w s=>⟨(.slice none 0 0),?_,trivial,ak .auto s⟩
  rfl
 ·refine J 7 ?_
  refine .to (A:=cv vv l.vs) (Bs:=[sl eZ 3 vv xs,aO (fun x:Value×aH=>sl cf 3 x.1 x.2.evs) xs]) .auto (fp hxs) ?_
  refine .c call193 rfl (oX (l:=l) (t:=x.2.ab) (c:=c) hz.sp) fun u37 _=>?_
  refine .cM (fun w s=>Rd.isSl (Rd.sl .auto) w s) fun hu37=>?_
  obtain⟨v,hvd⟩:∃ v,v=x.2:=⟨_,rfl⟩
  rw[← hvd] at hv h25 ⊢
  refine .aj rfl (af.alloc rfl zeroValue75 rfl) ?_
  rintro _ _ ⟨b9,rfl,rfl⟩
  refine .aj rfl (af.iy (vs:=dy u37 (l.aJ v.ab c).1) (by exact sizeOf75) rfl rfl (dh hu37) (by rfl)) ?_
  rintro _ _ ⟨rfl,rfl⟩
  refine JD 12 (fun h38=>?_) fun h38=>?_
  ·refine .o2 (C:=bj b bs br (l.aJ v.ab c).2) .auto rfl ?_
   rintro vv vw -
   refine .o1 (C:=cv vv l.vs) .auto rfl ?_
   rintro xs hxs
   have hxl:=au hxs
   obtain⟨x,hx,hxv⟩:=di hxs hv
   have hil:=(List.getElem?_eq_some_iff.1 hx).1
   subst hxv
   refine .fr .auto (cc (f:=(fun x:Value×aH=>sl cf 3 x.1 x.2.evs)) hx) ?_
   refine .draw [arr b 0 (mM bs br vv vw l.locked)] [0,0,0,0,0,1,1,2,2,1,3] rfl (by kernel_rfl) ?_
   refine J 6 ?_
   refine .p (.fY (fun v1 v2=>[v1,v2,(.int .i64 0)]) rfl rfl (by kernel_rfl)) ?_
   refine .d2 rfl Kept.auto (af.gj 232 rfl rfl (by kernel_rfl)) (by rintro _ _ ⟨b49,rfl,rfl⟩;exact Kept.auto) ?_
   rintro _ _ ⟨b49,rfl,rfl⟩
   refine .c2 call133 rfl (oT (A:=arr b49 0 [.int .i64 2,.int .i64 x.2.ab,.int .i64 0]) (xs:=[⟨2,x.2.ab,0⟩]) (Rd.lit .here rfl (fun _ _=>rfl) rfl) (by show 1≤_;decide)) fun u50 _=>?_
   refine .cM (fun w s=>Rd.isSl (Rd.sl .auto) w s) fun hu50=>?_
   refine .p (.ix i rfl rfl rfl (by omega)) ?_
   refine .d3 rfl (af.mN (x':=(u50,(aH.new [⟨2,x.2.ab,0⟩]))) rfl rfl sizeOf228 (lE hu50) hx rfl rfl .auto) ?_
   rintro _ _ ⟨rfl,rfl⟩
   refine J 9 ?_
   refine .to (A:=cv vv (l.vs.set i (aH.new [⟨2,x.2.ab,0⟩]))) (Bs:=[sl eZ 3 vv (xs.set i (u50,(aH.new [⟨2,x.2.ab,0⟩]))),sl cf 3 u50 ((aH.new [⟨2,x.2.ab,0⟩])).evs,aO (fun x:Value×aH=>sl cf 3 x.1 x.2.evs) (xs.eraseIdx i)]) .auto (m6 hxs hx) ?_
   refine .c call131 rfl (iC (A:=sl aq 1 u37 (l.aI.run x.2.ab c).1.av) (Rd.sl .here) (Nat.le_trans (hw _) (by decide))) fun u74 _=>?_
   refine .aj rfl (af.eD rfl call136 rfl (nk (l:={l with aI:=(l.aI.run x.2.ab c).2.2,vs:=l.vs.set i (aH.new [⟨2,x.2.ab,0⟩]) }) (A:=sl cf 3 u74 (aG (l.aI.run x.2.ab c).1.av)) (Rd.sl .here) ⟨by unfold aG;rw[List.length_map];exact Nat.le_trans (hw _) (by decide),Nat.le_trans hz.wt (by decide),by show(l.vs.set i _).length≤_;rw[List.length_set];exact Nat.le_trans hz.vl (by decide),fun z hzm=>by
     rcases List.mem_or_eq_of_mem_set hzm with h | rfl
     ·exact Nat.le_trans (hz.ev z h) (by decide)
     ·show 1≤_;decide⟩) .auto) ?_
   rintro _ _ ⟨⟨⟩, -,rfl,rfl⟩
   refine J 5 ?_
   refine .aj rfl (af.iy (vs:=dy u37 (l.aJ x.2.ab c).1) (by exact sizeOf75) rfl rfl (dh hu37) (by rfl)) ?_
   rintro _ _ ⟨rfl,rfl⟩
   refine J 3 ?_
   rw[nN hv h25 h38]
   refine .dJ rfl rfl isAgg75 (by exact sizeOf75) Cells.a fun w s=>⟨u37,?_,trivial,ak .auto s⟩
   rfl
  ·refine JD 8 (fun h52=>?_) fun h52=>?_
   ·refine .o2 (C:=bj b bs br (l.aJ v.ab c).2) .auto rfl ?_
    rintro vv vw -
    refine .o1 (C:=cv vv l.vs) .auto rfl ?_
    rintro xs hxs
    have hxl:=au hxs
    obtain⟨x,hx,hxv⟩:=di hxs hv
    have hil:=(List.getElem?_eq_some_iff.1 hx).1
    subst hxv
    refine .draw [arr b 0 (mM bs br vv vw l.locked)] [1,1,1,1,1,1,1,1,1,0,1,1,2,1,1,3] rfl (by kernel_rfl) ?_
    refine J 10 ?_
    refine .p (.ix i rfl rfl rfl (by omega)) ?_
    refine J 1 ?_
    refine .d2 rfl Kept.auto (af.er (x':=(x.1,{x.2 with mode:=3 })) rfl rfl sizeOf3 rfl hx (by decide) rfl .auto) (by rintro _ _ ⟨rfl,rfl⟩;exact Kept.auto) ?_
    rintro _ _ ⟨rfl,rfl⟩
    have hx2:(xs.set i (x.1,{x.2 with mode:=3 }))[i]?=some (x.1,{x.2 with mode:=3 }):=List.getElem?_set_self hil
    refine .p (.ix i rfl rfl rfl (by rw[List.length_set];omega)) ?_
    refine J 1 ?_
    refine .d3 rfl (af.lf (c:=1) (x':=(x.1,{x.2 with mode:=3,ab := -1 })) rfl rfl sizeOf3 rfl hx2 (by decide) rfl .auto) ?_
    rintro _ _ ⟨rfl,rfl⟩
    rw[List.set_set]
    refine .to (A:=cv vv (l.vs.set i {x.2 with mode:=3,ab := -1 })) (Bs:=[sl eZ 3 vv (xs.set i (x.1,{x.2 with mode:=3,ab := -1 })),aO (fun x:Value×aH=>sl cf 3 x.1 x.2.evs) xs]) .auto (kV hxs hx rfl) ?_
    refine J 9 ?_
    refine .c call131 rfl (iC (A:=sl aq 1 u37 (l.aI.run x.2.ab c).1.av) (Rd.sl .here) (Nat.le_trans (hw _) (by decide))) fun u74 _=>?_
    refine .aj rfl (af.eD rfl call136 rfl (nk (l:={l with aI:=(l.aI.run x.2.ab c).2.2,vs:=l.vs.set i ({x.2 with mode:=3,ab := -1 }:aH) }) (A:=sl cf 3 u74 (aG (l.aI.run x.2.ab c).1.av)) (Rd.sl .here) ⟨by unfold aG;rw[List.length_map];exact Nat.le_trans (hw _) (by decide),Nat.le_trans hz.wt (by decide),by show(l.vs.set i _).length≤_;rw[List.length_set];exact Nat.le_trans hz.vl (by decide),fun z hzm=>by
      rcases List.mem_or_eq_of_mem_set hzm with h | rfl
      ·exact Nat.le_trans (hz.ev z h) (by decide)
      ·exact Nat.le_trans (show x.2.evs.length≤1000000 from hz.ev _ (List.mem_of_getElem? hv)) (by decide)⟩) .auto) ?_
    rintro _ _ ⟨⟨⟩, -,rfl,rfl⟩
    refine J 5 ?_
    refine .aj rfl (af.iy (vs:=dy u37 (l.aJ x.2.ab c).1) (by exact sizeOf75) rfl rfl (dh hu37) (by rfl)) ?_
    rintro _ _ ⟨rfl,rfl⟩
    refine J 3 ?_
    rw[qd hv h25 (by rw[show(l.aI.run x.2.ab c).1.aQ=false from h38];simp) h52]
    refine .dJ rfl rfl isAgg75 (by exact sizeOf75) Cells.a fun w s=>⟨u37,?_,trivial,ak .auto s⟩
    rfl
   ·refine J 9 ?_
    refine .c call131 rfl (iC (A:=sl aq 1 u37 (l.aI.run v.ab c).1.av) (Rd.sl .here) (Nat.le_trans (hw _) (by decide))) fun u74 _=>?_
    refine .c call136 rfl (nk (l:=(l.aJ v.ab c).2) (A:=sl cf 3 u74 (aG (l.aI.run v.ab c).1.av)) (Rd.sl .here) ⟨by unfold aG;rw[List.length_map];exact Nat.le_trans (hw _) (by decide),Nat.le_trans hz.wt (by decide),Nat.le_trans hz.vl (by decide),fun z hzm=>Nat.le_trans (hz.ev z hzm) (by decide)⟩) fun _ _=>?_
    refine J 5 ?_
    refine .aj rfl (af.iy (vs:=dy u37 (l.aJ v.ab c).1) (by exact sizeOf75) rfl rfl (dh hu37) (by rfl)) ?_
    rintro _ _ ⟨rfl,rfl⟩
    refine J 3 ?_
    rw[nO hv h25 (by rw[show(l.aI.run v.ab c).1.aQ=false from h38];simp) (by rw[show(l.aI.run v.ab c).1.ended=false from h52];simp)]
    refine .dJ rfl rfl isAgg75 (by exact sizeOf75) Cells.a fun w s=>⟨u37,?_,trivial,ak .auto s⟩
    rfl
theorem CR{W:World}{b bs br i:Nat}{l:Lib}{v:aH}(hv:l.vs[i]?=some v){c:Int}(hz:HZ l)(hw:∀ t,(l.aI.run t c).1.av.length≤17):Fn Tryz.prog W 142 [ptr b,.int .i64 (i:Int),.int .i64 c] [bj b bs br l] Value (fun u=>.agg (dy u (l.inside (i:Int) c).1).toArray) (fun _=>True) (fun u=>[sl aq 1 u (l.inside (i:Int) c).1.xb.av,bj b bs br (l.inside (i:Int) c).2]):=by
 refine Fn.intro (N:=52) func142 rfl ntmps142 rfl fun F=>?_
 show ar _ _ _ _ _ _ [bj b bs br l,F]
 refine .o2 (C:=bj b bs br l) .auto rfl ?_
 rintro vv vw -
 refine .o1 (C:=cv vv l.vs) .auto rfl ?_
 rintro xs hxs
 have hxl:=au hxs
 obtain⟨x,hx,rfl⟩:=di hxs hv
 have hil:=(List.getElem?_eq_some_iff.1 hx).1
 refine J 2 ?_
 refine .aj rfl (af.alloc rfl zeroValue75 rfl) ?_
 rintro _ _ ⟨b6,rfl,rfl⟩
 refine J 9 ?_
 refine .p (.ix i rfl rfl rfl (by omega)) ?_
 refine J 1 ?_
 refine .p (.ld rfl (Cell.rd (c:=1) Rd.s hx rfl)) ?_
 refine J 5 ?_
 refine .to (A:=cv vv l.vs) (Bs:=[sl eZ 3 vv xs,aO (fun x:Value×aH=>sl cf 3 x.1 x.2.evs) xs]) .auto (fp hxs) ?_
 refine J 3 ?_
 refine .c call193 rfl (oX (l:=l) (t:=x.2.ab) (c:=c) hz.sp) fun u20 _=>?_
 refine .cM (fun w s=>Rd.isSl (Rd.sl .auto) w s) fun hu20=>?_
 refine .aj rfl (af.alloc rfl zeroValue75 rfl) ?_
 rintro _ _ ⟨b8,rfl,rfl⟩
 refine .aj rfl (af.iy (vs:=dy u20 (l.aJ x.2.ab c).1) (by exact sizeOf75) rfl rfl (dh hu20) (by rfl)) ?_
 rintro _ _ ⟨rfl,rfl⟩
 refine J 4 ?_
 refine .o2 (C:=bj b bs br (l.aJ x.2.ab c).2) .auto rfl ?_
 rintro vv2 vw2 -
 refine J 5 ?_
 refine .c call190 rfl (qv (rows:=l.rows) (p:=(i:Int)) (A:=sl aq 1 u20 (l.aI.run x.2.ab c).1.av) (ts:=(l.aI.run x.2.ab c).1.av) (Rd.sl .here) ⟨Nat.le_trans (hw _) (by decide),(yU ⟨hz.rl,hz.rw⟩)⟩) fun _ _=>?_
 refine J 7 ?_
 refine .p (.la rfl (Cells.mg (ds:=oE u20 (l.aJ x.2.ab c).1.xb) Cells.a rfl)) ?_
 refine .c call194 rfl A2 fun _ _=>?_
 refine JD 4 (fun h31=>?_) fun h31=>?_
 ·refine J 3 ?_
  refine .c call189 rfl (ju (l:={l with aI:=(l.aI.run x.2.ab c).2.2,rows:=(eb l.rows (i:Int) (l.aI.run x.2.ab c).1.av) }) hv) fun _ _=>?_
  refine J 6 ?_
  refine .aj rfl (af.iy (vs:=dy u20 (l.aJ x.2.ab c).1) (by exact sizeOf75) rfl rfl (dh hu20) (by rfl)) ?_
  rintro _ _ ⟨rfl,rfl⟩
  refine J 3 ?_
  rw[lZ hv (by rw[show(l.aI.run x.2.ab c).1.cq=false from by have h:=h31;simp only[Bool.not_eq_true'] at h;exact h];simp)]
  refine .dJ rfl rfl isAgg75 (by exact sizeOf75) Cells.a fun w s=>⟨u20,?_,trivial,ak .auto s⟩
  rfl
 ·have hg:(l.aI.run x.2.ab c).1.cq=true:=by have h:=h31;simp only[Bool.not_eq_false'] at h;exact h
  refine JD 8 (fun h39=>?_) fun h39=>?_
  ·refine J 5 ?_
   refine .aj rfl (af.gj 3 rfl rfl (by kernel_rfl)) ?_
   rintro _ _ ⟨b46,rfl,rfl⟩
   refine .c call190 rfl (qv (rows:=(eb l.rows (i:Int) (l.aI.run x.2.ab c).1.av)) (p:=(i:Int)) (A:=arr b46 0 [.int .i64 x.2.ab]) (ts:=[x.2.ab]) (Rd.lit .here rfl (fun _ _=>rfl) rfl) ⟨by show 1≤_;decide,(AM ⟨hz.rl,hz.rw⟩ (Nat.le_trans (hw _) (by decide)))⟩) fun _ _=>?_
   refine J 5 ?_
   refine .c call189 rfl (ju (l:={l with aI:=(l.aI.run x.2.ab c).2.2,rows:=(eb (eb l.rows (i:Int) (l.aI.run x.2.ab c).1.av) (i:Int) [x.2.ab]) }) hv) fun _ _=>?_
   refine J 6 ?_
   refine .aj rfl (af.iy (vs:=dy u20 (l.aJ x.2.ab c).1) (by exact sizeOf75) rfl rfl (dh hu20) (by rfl)) ?_
   rintro _ _ ⟨rfl,rfl⟩
   refine J 3 ?_
   rw[jh hv hg h39]
   refine .dJ rfl rfl isAgg75 (by exact sizeOf75) Cells.a fun w s=>⟨u20,?_,trivial,ak .auto s⟩
   rfl
  ·refine J 4 ?_
   refine .c call189 rfl (ju (l:={l with aI:=(l.aI.run x.2.ab c).2.2,rows:=(eb l.rows (i:Int) (l.aI.run x.2.ab c).1.av) }) hv) fun _ _=>?_
   refine J 6 ?_
   refine .aj rfl (af.iy (vs:=dy u20 (l.aJ x.2.ab c).1) (by exact sizeOf75) rfl rfl (dh hu20) (by rfl)) ?_
   rintro _ _ ⟨rfl,rfl⟩
   refine J 3 ?_
   rw[nP hv hg (by rw[show(l.aI.run x.2.ab c).1.yielded=false from h39];simp)]
   refine .dJ rfl rfl isAgg75 (by exact sizeOf75) Cells.a fun w s=>⟨u20,?_,trivial,ak .auto s⟩
   rfl
theorem IZ{W:World}{b bs br:Nat}{l:Lib}{p c:Int}(hz:HZ l)(hw:∀ t,(l.aI.run t c).1.av.length≤17):Fn Tryz.prog W 93 [ptr b,.int .i64 p,.int .i64 c] [bj b bs br l] Value (fun u=>.tuple #[.agg (dy u (l.step p c).1).toArray,.int .i64 (l.step p c).2.1]) (fun _=>True) (fun u=>[sl aq 1 u (l.step p c).1.xb.av,bj b bs br (l.step p c).2.2]):=by
 refine Fn.intro (N:=76) func93 rfl ntmps93 rfl fun F=>?_
 show ar _ _ _ _ _ _ [bj b bs br l,F]
 refine J 2 ?_
 refine .aj rfl (af.alloc rfl zeroValue75 rfl) ?_
 rintro _ _ ⟨b6,rfl,rfl⟩
 refine J 8 ?_
 refine .c call96 rfl kW fun _ _=>?_
 refine JD 3 (fun h12=>?_) fun h12=>?_
 ·refine J 2 ?_
  refine .p (.mq (dy (.slice none 0 0) gg.z) (by kernel_rfl)) ?_
  refine .aj rfl (af.iy (vs:=dy (.slice none 0 0) gg.z) (by exact sizeOf75) rfl rfl (by rfl) (by rfl)) ?_
  rintro _ _ ⟨rfl,rfl⟩
  refine J 5 ?_
  rw[qe (by simpa using h12)]
  refine .eQ rfl rfl isAgg75 (by exact sizeOf75) Cells.a rfl fun w s=>⟨(.slice none 0 0),?_,trivial,ak .auto s⟩
  rfl
 ·have h12:l.has p=true:=by simpa using h12
  refine J 4 ?_
  refine .aj rfl (af.alloc rfl zeroValue75 rfl) ?_
  rintro _ _ ⟨b8,rfl,rfl⟩
  refine J 5 ?_
  obtain⟨i,v,rfl,hv,hm0⟩:=iq h12
  refine .o2 (C:=bj b bs br l) .auto rfl ?_
  rintro vv vw -
  refine .o1 (C:=cv vv l.vs) .auto rfl ?_
  rintro xs hxs
  have hxl:=au hxs
  obtain⟨x,hx,rfl⟩:=di hxs hv
  have hil:=(List.getElem?_eq_some_iff.1 hx).1
  refine J 5 ?_
  refine .p (.ix i rfl rfl rfl (by omega)) ?_
  refine J 1 ?_
  refine .p (.lr rfl hx) ?_
  refine JD 9 (fun h23=>?_) fun h23=>?_
  ·refine J 1 ?_
   refine .to (A:=cv vv l.vs) (Bs:=[sl eZ 3 vv xs,aO (fun x:Value×aH=>sl cf 3 x.1 x.2.evs) xs]) .auto (fp hxs) ?_
   refine J 3 ?_
   refine .c call137 rfl (CP hv hz hw) fun u27 _=>?_
   refine .cM (fun w s=>Rd.isSl (Rd.sl .auto) w s) fun hu27=>?_
   refine .aj rfl (af.iy (vs:=dy u27 (l.upcall (i:Int) c).1) (by exact sizeOf75) rfl rfl (dh hu27) (by rfl)) ?_
   rintro _ _ ⟨rfl,rfl⟩
   refine J 6 ?_
   refine .aj rfl (af.iy (vs:=dy u27 (l.upcall (i:Int) c).1) (by exact sizeOf75) rfl rfl (dh hu27) (by rfl)) ?_
   rintro _ _ ⟨rfl,rfl⟩
   refine J 4 ?_
   rw[sQ h12 hv h23]
   refine .eQ rfl rfl isAgg75 (by exact sizeOf75) Cells.a rfl fun w s=>⟨u27,?_,trivial,ak .auto s⟩
   rfl
  ·refine JD 6 (fun h29=>?_) fun h29=>?_
   ·refine J 1 ?_
    refine .to (A:=cv vv l.vs) (Bs:=[sl eZ 3 vv xs,aO (fun x:Value×aH=>sl cf 3 x.1 x.2.evs) xs]) .auto (fp hxs) ?_
    refine J 2 ?_
    refine .c call138 rfl (CQ hv hz) fun _ _=>?_
    refine J 6 ?_
    refine .aj rfl (af.iy (vs:=dy (.slice none 0 0) gg.z) (by exact sizeOf75) rfl rfl (by rfl) (by rfl)) ?_
    rintro _ _ ⟨rfl,rfl⟩
    refine J 4 ?_
    rw[sR h12 hv (by omega)]
    refine .eQ rfl rfl isAgg75 (by exact sizeOf75) Cells.a rfl fun w s=>⟨(.slice none 0 0),?_,trivial,ak .auto s⟩
    rfl
   ·refine JD 6 (fun h34=>?_) fun h34=>?_
    ·refine J 1 ?_
     refine .to (A:=cv vv l.vs) (Bs:=[sl eZ 3 vv xs,aO (fun x:Value×aH=>sl cf 3 x.1 x.2.evs) xs]) .auto (fp hxs) ?_
     refine J 2 ?_
     refine .c call139 rfl (ru hv) fun _ _=>?_
     refine J 6 ?_
     refine .aj rfl (af.iy (vs:=dy (.slice none 0 0) gg.z) (by exact sizeOf75) rfl rfl (by rfl) (by rfl)) ?_
     rintro _ _ ⟨rfl,rfl⟩
     refine J 4 ?_
     rw[sS h12 hv (by omega)]
     refine .eQ rfl rfl isAgg75 (by exact sizeOf75) Cells.a rfl fun w s=>⟨(.slice none 0 0),?_,trivial,ak .auto s⟩
     rfl
    ·refine JD 6 (fun h39=>?_) fun h39=>?_
     ·refine J 1 ?_
      refine .to (A:=cv vv l.vs) (Bs:=[sl eZ 3 vv xs,aO (fun x:Value×aH=>sl cf 3 x.1 x.2.evs) xs]) .auto (fp hxs) ?_
      refine J 2 ?_
      refine .c call140 rfl (IY hv hz) fun _ _=>?_
      refine J 6 ?_
      refine .aj rfl (af.iy (vs:=dy (.slice none 0 0) gg.z) (by exact sizeOf75) rfl rfl (by rfl) (by rfl)) ?_
      rintro _ _ ⟨rfl,rfl⟩
      refine J 4 ?_
      rw[sT h12 hv (by omega)]
      refine .eQ rfl rfl isAgg75 (by exact sizeOf75) Cells.a rfl fun w s=>⟨(.slice none 0 0),?_,trivial,ak .auto s⟩
      rfl
     ·refine JD 6 (fun h44=>?_) fun h44=>?_
      ·refine J 1 ?_
       refine .to (A:=cv vv l.vs) (Bs:=[sl eZ 3 vv xs,aO (fun x:Value×aH=>sl cf 3 x.1 x.2.evs) xs]) .auto (fp hxs) ?_
       refine J 3 ?_
       refine .c call141 rfl (KR hv hz hw) fun u48 _=>?_
       refine .cM (fun w s=>Rd.isSl (Rd.sl .auto) w s) fun hu48=>?_
       refine .aj rfl (af.iy (vs:=dy u48 (l.gR (i:Int) c).1) (by exact sizeOf75) rfl rfl (dh hu48) (by rfl)) ?_
       rintro _ _ ⟨rfl,rfl⟩
       refine J 6 ?_
       refine .aj rfl (af.iy (vs:=dy u48 (l.gR (i:Int) c).1) (by exact sizeOf75) rfl rfl (dh hu48) (by rfl)) ?_
       rintro _ _ ⟨rfl,rfl⟩
       refine J 4 ?_
       rw[sU h12 hv h44]
       refine .eQ rfl rfl isAgg75 (by exact sizeOf75) Cells.a rfl fun w s=>⟨u48,?_,trivial,ak .auto s⟩
       rfl
      ·refine JD 6 (fun h50=>?_) fun h50=>?_
       ·refine J 1 ?_
        refine .to (A:=cv vv l.vs) (Bs:=[sl eZ 3 vv xs,aO (fun x:Value×aH=>sl cf 3 x.1 x.2.evs) xs]) .auto (fp hxs) ?_
        refine J 2 ?_
        refine .c call139 rfl (ru hv) fun _ _=>?_
        refine J 6 ?_
        refine .aj rfl (af.iy (vs:=dy (.slice none 0 0) gg.z) (by exact sizeOf75) rfl rfl (by rfl) (by rfl)) ?_
        rintro _ _ ⟨rfl,rfl⟩
        refine J 4 ?_
        rw[sV h12 hv (by omega)]
        refine .eQ rfl rfl isAgg75 (by exact sizeOf75) Cells.a rfl fun w s=>⟨(.slice none 0 0),?_,trivial,ak .auto s⟩
        rfl
       ·refine JD 6 (fun h55=>?_) fun h55=>?_
        ·refine J 1 ?_
         refine .to (A:=cv vv l.vs) (Bs:=[sl eZ 3 vv xs,aO (fun x:Value×aH=>sl cf 3 x.1 x.2.evs) xs]) .auto (fp hxs) ?_
         refine J 3 ?_
         refine .c call142 rfl (CR hv hz hw) fun u59 _=>?_
         refine .cM (fun w s=>Rd.isSl (Rd.sl .auto) w s) fun hu59=>?_
         refine .aj rfl (af.iy (vs:=dy u59 (l.inside (i:Int) c).1) (by exact sizeOf75) rfl rfl (dh hu59) (by rfl)) ?_
         rintro _ _ ⟨rfl,rfl⟩
         refine J 6 ?_
         refine .aj rfl (af.iy (vs:=dy u59 (l.inside (i:Int) c).1) (by exact sizeOf75) rfl rfl (dh hu59) (by rfl)) ?_
         rintro _ _ ⟨rfl,rfl⟩
         refine J 4 ?_
         rw[sW h12 hv h55]
         refine .eQ rfl rfl isAgg75 (by exact sizeOf75) Cells.a rfl fun w s=>⟨u59,?_,trivial,ak .auto s⟩
         rfl
        ·refine JD 6 (fun h61=>?_) fun h61=>?_
         ·refine J 6 ?_
          refine .c call143 rfl (CO (rs:=l.rows) ⟨hz.rl,fun r hr=>Nat.le_trans (hz.rw r hr) (by decide)⟩) fun _ _=>?_
          refine JD 3 (fun h67=>?_) fun h67=>?_
          ·refine J 6 ?_
           refine .p (.ix i rfl rfl rfl (by omega)) ?_
           refine J 1 ?_
           refine .aj rfl (af.er (x':=(x.1,{x.2 with mode:=3 })) rfl rfl sizeOf3 rfl hx (by decide) rfl .auto) ?_
           rintro _ _ ⟨rfl,rfl⟩
           refine .to (A:=cv vv (l.vs.set i {x.2 with mode:=3 })) (Bs:=[sl eZ 3 vv (xs.set i (x.1,{x.2 with mode:=3 })),aO (fun x:Value×aH=>sl cf 3 x.1 x.2.evs) xs]) .auto (kV hxs hx rfl) ?_
           refine J 6 ?_
           refine .aj rfl (af.iy (vs:=dy (.slice none 0 0) gg.z) (by exact sizeOf75) rfl rfl (by rfl) (by rfl)) ?_
           rintro _ _ ⟨rfl,rfl⟩
           refine J 4 ?_
           rw[qg h12 hv (by omega) (by simpa using h67)]
           refine .eQ rfl rfl isAgg75 (by exact sizeOf75) Cells.a rfl fun w s=>⟨(.slice none 0 0),?_,trivial,ak .auto s⟩
           rfl
          ·refine J 6 ?_
           refine .aj rfl (af.iy (vs:=dy (.slice none 0 0) gg.z) (by exact sizeOf75) rfl rfl (by rfl) (by rfl)) ?_
           rintro _ _ ⟨rfl,rfl⟩
           refine J 4 ?_
           refine .to (A:=cv vv l.vs) (Bs:=[sl eZ 3 vv xs,aO (fun x:Value×aH=>sl cf 3 x.1 x.2.evs) xs]) .auto (fp hxs) ?_
           rw[qf h12 hv (by omega) (by simpa using h67)]
           refine .eQ rfl rfl isAgg75 (by exact sizeOf75) Cells.a rfl fun w s=>⟨(.slice none 0 0),?_,trivial,ak .auto s⟩
           rfl
         ·refine J 6 ?_
          refine .aj rfl (af.iy (vs:=dy (.slice none 0 0) gg.z) (by exact sizeOf75) rfl rfl (by rfl) (by rfl)) ?_
          rintro _ _ ⟨rfl,rfl⟩
          refine J 4 ?_
          refine .to (A:=cv vv l.vs) (Bs:=[sl eZ 3 vv xs,aO (fun x:Value×aH=>sl cf 3 x.1 x.2.evs) xs]) .auto (fp hxs) ?_
          rw[sX h12 hv (by omega)]
          refine .eQ rfl rfl isAgg75 (by exact sizeOf75) Cells.a rfl fun w s=>⟨(.slice none 0 0),?_,trivial,ak .auto s⟩
          rfl
theorem A4{W:World}{b bs br:Nat}{l:Lib}{p:Int}(hz:HZ l):Fn Tryz.prog W 98 [ptr b,.int .i64 p] [bj b bs br l] Unit (fun _=>.bool (l.preempt p).1) (fun _=>True) (fun _=>[bj b bs br (l.preempt p).2]):=by
 refine Fn.intro (N:=23) func98 rfl ntmps98 rfl fun F=>?_
 show ar _ _ _ _ _ _ [bj b bs br l,F]
 refine J 10 ?_
 refine .c call96 rfl kW fun _ _=>?_
 refine JD 3 (fun h8=>?_) fun h8=>?_
 ·refine J 7 ?_
  rw[jO (by simpa using h8)]
  exact JR 0 ()
 ·refine J 3 ?_
  have h8:l.has p=true:=by simpa using h8
  obtain⟨i,v,rfl,hv,hm0⟩:=iq h8
  refine .o2 (C:=bj b bs br l) .auto rfl ?_
  rintro vv vw -
  refine .o1 (C:=cv vv l.vs) .auto rfl ?_
  rintro xs hxs
  have hxl:=au hxs
  obtain⟨x,hx,rfl⟩:=di hxs hv
  have hil:=(List.getElem?_eq_some_iff.1 hx).1
  refine .fr .auto (cc (f:=(fun x:Value×aH=>sl cf 3 x.1 x.2.evs)) hx) ?_
  refine .draw [arr b 0 (mM bs br vv vw l.locked)] [0,0,0,0,0,1,1,1,1,1,1,1,2,1,3] rfl (by kernel_rfl) ?_
  refine J 10 ?_
  refine .p (.ix i rfl rfl rfl (by omega)) ?_
  refine .p (.la rfl (Cells.rd Rd.s hx)) ?_
  refine .c2 call146 rfl (sa (A:=sl cf 3 x.1 x.2.evs) (u:=x.1) (x:=x.2) (m:=(.slice none 0 0)) (ys:=[]) (Rd.sl .here) Rd.nil ⟨Nat.le_trans (hz.ev _ (List.mem_of_getElem? hv)) (by decide),by show 0≤_;decide⟩) fun u21 _=>?_
  refine .cM (fun w s=>Rd.isSl (Rd.sl .auto) w s) fun hu21=>?_
  refine .p (.ix i rfl rfl rfl (by omega)) ?_
  refine .d3 rfl (af.mN (x':=(u21,x.2.told [])) rfl rfl sizeOf228 (lE hu21) hx rfl rfl .auto) ?_
  rintro _ _ ⟨rfl,rfl⟩
  refine .to (A:=cv vv (l.vs.set i (x.2.told []))) (Bs:=[sl eZ 3 vv (xs.set i (u21,(x.2.told []))),sl cf 3 u21 ((x.2.told [])).evs,aO (fun x:Value×aH=>sl cf 3 x.1 x.2.evs) (xs.eraseIdx i)]) .auto (m6 hxs hx) ?_
  refine J 8 ?_
  rw[iO h8 hv]
  exact JR 0 ()
end Go.SLYtpbjdoplfgeliaaGreat
namespace Go.SLYtpbjdoplfgeliaaGreat
open Go Go.RowKit Go.Proofs Go.Proofs.Tryz
attribute [local irreducible] ar aR bm bA bH Y
theorem CS{W:World}  : Fn Tryz.prog W 53 [.pointer none] [] Unit (fun _=>.pointer none) (fun _=>True) (fun _=>[]):=by
 refine Fn.intro (N:=9) func53 rfl ntmps53 rfl fun F=>?_
 show ar _ _ _ _ _ _ [F]
 refine J 12 ?_
 refine .gu rfl ?_
 exact JR 7 ()
end Go.SLYtpbjdoplfgeliaaGreat
namespace Go.SLYtpbjdoplfgeliaaGreat
open Go Go.RowKit
theorem Y.NS{P:Program}{W:World}{N:Nat}{L:List (Nat×Option Value)}{H:List aa}{T:TypeId}{op:Op}{m n:Bool}(h:Y P W N op T L H (.bool m))(e:m=n):Y P W N op T L H (.bool n):=e ▸ h
theorem eY.at{W:World}{H:List aa}{A:aa}{v:bc}(h:eY W [A] v)(ha:At H A):eY W H v:=⟨h.fs.at ha,fun x hx=>(h.ins x hx).at ha,h.bK.at ha,h.bf.at ha⟩
theorem eY.eX{W:World}{H:List aa}{v:bc}(h:eY W H v):eY W [seps H] v:=⟨Rd.eX h.fs,fun x hx=>Rd.eX (h.ins x hx),Rd.eX h.bK,Rd.eX h.bf⟩
/-! the laws' own fact -/
def PQ:List k7:=[⟨1,1,0,3⟩,⟨3,5,0,0⟩,⟨1,0,0,0⟩]
def PR:List k7:=[⟨1,0,0,3⟩,⟨3,0,0,0⟩]
def Px:List k7:=[⟨1,1,0,0⟩]
def PS(x y z w:Nat):aa:=seps [Ps x y z,arr w 0 (rows H2 Px)]
end Go.SLYtpbjdoplfgeliaaGreat
namespace Go.SLYtpbjdoplfgeliaaGreat
open Go Go.RowKit
def OL(v:aH)(w:Bool):Bool:=(decide (v.mode=1) && !w) || decide (v.mode=3) || decide (v.mode=6)
end Go.SLYtpbjdoplfgeliaaGreat
namespace Go.SLYtpbjdoplfgeliaaGreat
open Go Go.RowKit Go.Proofs Go.Proofs.Tryz
attribute [local irreducible] ar aR bm bA bH Y
end Go.SLYtpbjdoplfgeliaaGreat
namespace Go.SLYtpbjdoplfgeliaaGreat
open Go Go.RowKit Go.Proofs Go.Proofs.Tryz
attribute [local irreducible] ar aR bm bA bH Y
theorem ir{W:World}{b bs br:Nat}{l:Lib}:Fn Tryz.prog W 53 [ptr b] [bj b bs br l] Unit (fun _=>ptr bs) (fun _=>True) (fun _=>[bj b bs br l]):=by
 refine Fn.intro (N:=9) func53 rfl ntmps53 rfl fun F=>?_
 show ar _ _ _ _ _ _ [bj b bs br l,F]
 refine J 12 ?_
 refine .ep rfl ?_
 refine J 4 ?_
 refine .o2 (C:=bj b bs br l) .auto rfl ?_
 rintro vv vw -
 exact JR 8 ()
theorem eC{W:World}{b:Nat}{bl:List Nat}{k:Krn}:Fn Tryz.prog W 35 [ptr b] [ba b bl k] Unit (fun _=>.int .i64 (k.owner.length:Int)) (fun _=>True) (fun _=>[ba b bl k]):=by
 refine Fn.intro (N:=10) func35 rfl ntmps35 rfl fun F=>?_
 show ar _ _ _ _ _ _ [ba b bl k,F]
 refine J 12 ?_
 refine .ep rfl ?_
 refine J 4 ?_
 refine .o3 (C:=ba b bl k) .auto rfl ?_
 rintro vo vl xs ⟨hxb,hxs⟩
 have hxl:=au hxs
 have hbl:=au hxb
 have hxx:=And.intro hxb hxs
 exact JR 9 ()
theorem iR{W:World}{b:Nat}{bl:List Nat}{k:Krn}:Fn Tryz.prog W 57 [ptr b] [ba b bl k] Unit (fun _=>.int .i64 (k.libs.length:Int)) (fun _=>True) (fun _=>[ba b bl k]):=by
 refine Fn.intro (N:=10) func57 rfl ntmps57 rfl fun F=>?_
 show ar _ _ _ _ _ _ [ba b bl k,F]
 refine J 12 ?_
 refine .ep rfl ?_
 refine J 4 ?_
 refine .o3 (C:=ba b bl k) .auto rfl ?_
 rintro vo vl xs ⟨hxb,hxs⟩
 have hxl:=au hxs
 have hbl:=au hxb
 have hxx:=And.intro hxb hxs
 refine J 9 ?_
 refine .aS rfl rfl fun w s=>⟨(),?_,trivial,ak .auto s⟩
 rw[← hxl]
theorem oY{W:World}{b:Nat}{bl:List Nat}{k:Krn}{p:Int}:Fn Tryz.prog W 89 [ptr b,.int .i64 p] [ba b bl k] Unit (fun _=>.bool (fo k p)) (fun _=>True) (fun _=>[ba b bl k]):=by
 refine Fn.intro (N:=13) func89 rfl ntmps89 rfl fun F=>?_
 show ar _ _ _ _ _ _ [ba b bl k,F]
 refine J 10 ?_
 apply aR.gz 5 12 7 [7,8,9,10,11,12] rfl
 ·intro h7
  refine J 2 ?_
  refine .cg call35 rfl eC fun _ _=>?_
  exact JS 3
 ·intro h7
  exact JS 6
 exact JR 4 ()
theorem vj{W:World}{b:Nat}{bl:List Nat}{k:Krn}{p:Int}:Fn Tryz.prog W 108 [ptr b,.int .i64 p] [ba b bl k] Unit (fun _=>.tuple #[.int .i64 (k.ownerOf p).1,.bool (k.ownerOf p).2]) (fun _=>True) (fun _=>[ba b bl k]):=by
 refine Fn.intro (N:=27) func108 rfl ntmps108 rfl fun F=>?_
 show ar _ _ _ _ _ _ [ba b bl k,F]
 refine J 11 ?_
 refine .c call89 rfl oY fun _ _=>?_
 refine J 2 ?_
 apply aR.gY 9 19 10 [10,11,12,13,14,15,16,17,18,19] rfl
 ·intro h10
  have h9:fo k p=true:=by simpa using h10
  obtain⟨i,o,hi,ho⟩:=jr h9
  have hil:=(List.getElem?_eq_some_iff.1 ho).1
  refine .o3 (C:=ba b bl k) .auto rfl ?_
  rintro vo vl xs ⟨hxb,hxs⟩
  have hxl:=au hxs
  have hbl:=au hxb
  have hxx:=And.intro hxb hxs
  refine J 5 ?_
  refine .g (.tm i underlying50 sizeOf3 rfl rfl Rd.s hi (by omega)) ?_
  refine .g (.fa (Y.load isAgg3 rfl (Cell.Lb Rd.s ho rfl)) ((yh ho).trans (congrArg _ hi.symm))) ?_
  exact JS 3
 ·intro h10
  exact JS 10
 refine JD 2 (fun h19=>?_) fun h19=>?_
 ·simp only[Bool.or_eq_true,decide_eq_true_eq,Bool.not_eq_true'] at h19
  refine J 8 ?_
  refine .eE rfl rfl rfl fun w s=>⟨(),?_,trivial,ak .auto s⟩
  rw[tK h19]
 ·simp only[Bool.or_eq_false_iff,decide_eq_false_iff_not,Bool.not_eq_false'] at h19
  refine J 4 ?_
  obtain⟨i,o,rfl,ho⟩:=jr (by simpa using h19.1)
  have hil:=(List.getElem?_eq_some_iff.1 ho).1
  have hoo:=yh ho
  refine .o3 (C:=ba b bl k) .auto rfl ?_
  rintro vo vl xs ⟨hxb,hxs⟩
  have hxl:=au hxs
  have hbl:=au hxb
  have hxx:=And.intro hxb hxs
  refine J 5 ?_
  refine .p (.ix i rfl rfl rfl (by omega)) ?_
  refine J 6 ?_
  refine .eE rfl rfl rfl fun w s=>⟨(),?_,trivial,ak .auto s⟩
  rw[qL ho (by rw[hoo];exact h19.2)]
theorem rv{W:World}{b:Nat}{bl:List Nat}{k:Krn}(hl:k.owner.length≤64):Fn Tryz.prog W 43 [ptr b] [ba b bl k] Value (fun u=>u) (fun _=>True) (fun u=>[sl aq 1 u k.free,ba b bl k]):=by
 refine Fn.intro (N:=24) func43 rfl ntmps43 rfl fun F=>?_
 show ar _ _ _ _ _ _ [ba b bl k,F]
 refine J 14 ?_
 refine .c call35 rfl eC fun _ _=>?_
 refine .o3 (C:=ba b bl k) .auto rfl ?_
 rintro vo vl xs ⟨hxb,hxs⟩
 have hxl:=au hxs
 have hbl:=au hxb
 have hxx:=And.intro hxb hxs
 refine J 4 ?_
 refine .aZ (X:=Nat×Value×List Int) [3,4,7,8,9,10,11,12,13,14,15,16,17,18,19,20,21,22] (fun z=>k.owner.length-z.1) (fun z=>z.1≤k.owner.length∧z.2.2.length≤z.1∧k.free=z.2.2++freeFrom (k.owner.drop z.1) z.1) (fun z=>[(7,some (.int .i64 (z.1:Int))),(3,some z.2.1)]) (fun z=>[sl aq 1 z.2.1 z.2.2,arr b 0 [vo,vl],sl aq 1 vo k.owner,sl cP 1 vl xs,aO (fun x:Nat×Lib=>bJ x.1 x.2) xs,F]) (0,.slice none 0 0,[]) ?_ ?_ ?_ ?_
 ·exact⟨Nat.zero_le _,Nat.le_refl _,rfl⟩
 ·exact⟨rfl,rfl,trivial⟩
 ·exact fun w s=>aw.kept .auto w s
 rintro⟨n,u,ys⟩ ⟨hk,hyl,hn⟩
 simp only at hk hyl hn
 refine JD 6 (fun h8=>?_) fun h8=>?_
 ·refine J 12 ?_
  obtain⟨o,ho⟩:=ai (show n<k.owner.length by omega)
  refine JD 10 (fun h17=>?_) fun h17=>?_
  ·refine J 3 ?_
   refine .aj rfl (af.gj 3 rfl rfl (by kernel_rfl)) ?_
   rintro _ _ ⟨b20,rfl,rfl⟩
   refine .aj rfl (af.fV (enc:=aq) (k:=1) (n:Int) rfl underlying50 underlying50 typeInfo3 rfl rfl rfl (by decide) rfl rfl rfl .auto rfl .auto (by first | omega | (dsimp only;omega)) rfl) ?_
   rintro _ _ ⟨v21,rfl,rfl⟩
   refine J 8 ?_
   refine .ax (n+1,v21,ys++[(n:Int)]) .auto rfl ?_ ?_ ?_ ?_
   ·show k.owner.length-(n+1)<k.owner.length-n;omega
   ·exact⟨by show n+1≤_;omega,by simp;omega,by rw[hn,GN ho h17];simp⟩
   ·exact⟨rfl,rfl,trivial⟩
   ·exact fun w s=>aw.kept .auto w s
  ·refine J 7 ?_
   refine .ax (n+1,u,ys) .auto rfl ?_ ?_ ?_ ?_
   ·show k.owner.length-(n+1)<k.owner.length-n;omega
   ·exact⟨by show n+1≤_;omega,by show ys.length≤n+1;omega,by rw[hn,JO ho h17]⟩
   ·exact⟨rfl,rfl,trivial⟩
   ·exact fun w s=>aw.kept .auto w s
 ·refine J 12 ?_
  obtain rfl:n=k.owner.length:=by omega
  rw[GO (Nat.le_refl _),List.append_nil] at hn
  subst hn
  refine .aS rfl rfl fun w s=>⟨_,?_,trivial,ak .auto s⟩
  rfl
theorem gH{W:World}{b:Nat}{bl:List Nat}{k:Krn}{m:Nat}(hk:o0 m k):Fn Tryz.prog W 36 [ptr b] [ba b bl k] Value (fun u=>u) (fun _=>True) (fun u=>[sl aq 1 u k.demand,ba b bl k]):=by
 refine Fn.intro (N:=25) func36 rfl ntmps36 rfl fun F=>?_
 show ar _ _ _ _ _ _ [ba b bl k,F]
 have hll:=hk.ll
 refine J 14 ?_
 refine .c call57 rfl iR fun _ _=>?_
 refine .o3 (C:=ba b bl k) .auto rfl ?_
 rintro vo vl xs ⟨hxb,hxs⟩
 have hxl:=au hxs
 have hbl:=au hxb
 have hxx:=And.intro hxb hxs
 refine J 4 ?_
 refine .aZ (X:=Nat×Value) [3,4,7,8,9,10,11,12,13,14,15,16,17,18,19,20,21,22,23] (fun z=>k.libs.length-z.1) (fun z=>z.1≤k.libs.length) (fun z=>[(7,some (.int .i64 (z.1:Int))),(3,some z.2)]) (fun z=>[sl aq 1 z.2 (k.demand.take z.1),arr b 0 [vo,vl],sl aq 1 vo k.owner,sl cP 1 vl xs,aO (fun x:Nat×Lib=>bJ x.1 x.2) xs,F]) (0,.slice none 0 0) ?_ ?_ ?_ ?_
 ·exact Nat.zero_le _
 ·exact⟨rfl,rfl,trivial⟩
 ·exact fun w s=>aw.kept .auto w s
 rintro⟨n,u⟩ hn
 simp only at hn
 refine JD 6 (fun h8=>?_) fun h8=>?_
 ·refine J 11 ?_
  obtain⟨x,hx⟩:=ai (show n<xs.length by omega)
  have hx2:=eU hxs hx
  have hlo:=hk.gy x.2 (List.mem_of_getElem? hx2)
  refine J 8 ?_
  refine .fr .auto (cc (f:=fun x:Nat×Lib=>bJ x.1 x.2) hx) ?_
  refine .o2 (C:=bJ x.1 x.2) .auto rfl ?_
  rintro bs br -
  refine .c call53 rfl ir fun _ _=>?_
  refine .o2 (C:=bj x.1 bs br x.2) .auto rfl ?_
  rintro vv vw -
  refine .o1 (C:=fM bs x.2.aI) .auto rfl ?_
  rintro ps -
  refine .c call58 rfl (l6 hlo.th) fun u19 _=>?_
  refine J 1 ?_
  refine .aj rfl (af.gj 3 rfl rfl (by kernel_rfl)) ?_
  rintro _ _ ⟨b21,rfl,rfl⟩
  refine .to (A:=aO (fun x:Nat×Lib=>bJ x.1 x.2) xs) .auto (cC (f:=fun x:Nat×Lib=>bJ x.1 x.2) hx) ?_
  refine .aj rfl (af.fV (enc:=aq) (k:=1) (x.2.aI.ready.length:Int) rfl underlying50 underlying50 typeInfo3 rfl rfl rfl (by decide) rfl rfl rfl .auto rfl .auto (by rw[List.length_take];omega) rfl) ?_
  rintro _ _ ⟨v22,rfl,rfl⟩
  refine J 8 ?_
  refine .ax (n+1,v22) .auto rfl ?_ ?_ ?_ ?_
  ·show k.libs.length-(n+1)<k.libs.length-n;omega
  ·show n+1≤_;omega
  ·exact⟨rfl,rfl,trivial⟩
  ·show ∀ w,Sat _ w _→Sat _ w (seps [sl aq 1 v22 (k.demand.take (n+1)),arr b 0 [vo,vl],sl aq 1 vo k.owner,sl cP 1 vl xs,aO (fun x:Nat×Lib=>bJ x.1 x.2) xs,F])
   rw[GP hx2]
   exact fun w s=>aw.kept .auto w s
 ·refine J 12 ?_
  obtain rfl:n=k.libs.length:=by omega
  rw[List.take_of_length_le (show k.demand.length≤k.libs.length from by unfold Krn.demand;rw[List.length_map];exact Nat.le_refl _)]
  refine .aS rfl rfl fun w s=>⟨_,?_,trivial,ak .auto s⟩
  rfl
theorem dO{W:World}{b:Nat}{bl:List Nat}{k:Krn}{n:Int}:Fn Tryz.prog W 40 [ptr b,.int .i64 n] [ba b bl k] Unit (fun _=>ed (aL bl n)) (fun _=>True) (fun _=>[ba b bl k]):=by
 refine Fn.intro (N:=27) func40 rfl ntmps40 rfl fun F=>?_
 show ar _ _ _ _ _ _ [ba b bl k,F]
 refine .o3 (C:=ba b bl k) .auto rfl ?_
 rintro vo vl xs ⟨hxb,hxs⟩
 have hxl:=au hxs
 have hbl:=au hxb
 have hxx:=And.intro hxb hxs
 refine J 11 ?_
 apply aR.gY 3 10 7 [7,8,9,10] rfl
 ·intro h7
  exact JS 4
 ·intro h7
  exact JS 4
 refine J 1 ?_
 apply aR.gA 8 19 11 [11,12,13,14,15,16,17,18,19] rfl
 ·intro h11
  exact JS 9
 ·intro h11
  exact JS 9
 refine JD 2 (fun h19=>?_) fun h19=>?_
 ·simp only[Bool.or_eq_true,decide_eq_true_eq] at h19
  refine J 7 ?_
  refine .aS rfl rfl fun w s=>⟨(),?_,trivial,ak .auto s⟩
  rw[(LQ (mP hxb hxs) (by rw[← hxl];simpa using h19)).1];rfl
 ·simp only[Bool.or_eq_false_iff,decide_eq_false_iff_not] at h19
  refine J 4 ?_
  obtain⟨i,rfl⟩:∃ i:Nat,n=(i:Int):=⟨n.toNat,by omega⟩
  obtain⟨x,hx⟩:=ai (show i<xs.length by omega)
  have hil:=(List.getElem?_eq_some_iff.1 hx).1
  refine J 5 ?_
  refine .p (.ix i rfl rfl rfl (by omega)) ?_
  refine J 5 ?_
  refine .aS rfl rfl fun w s=>⟨(),?_,trivial,ak .auto s⟩
  rw[aV,eU hxb hx];rfl
theorem ry{W:World}{b:Nat}{bl:List Nat}{k:Krn}{p:Int}{m:Nat}(hk:o0 m k):Fn Tryz.prog W 91 [ptr b,.int .i64 p] [ba b bl k] Unit (fun _=>.tuple #[ed (tL bl k p),.int .i64 (dx k p)]) (fun _=>True) (fun _=>[ba b bl k]):=by
 refine Fn.intro (N:=27) func91 rfl ntmps91 rfl fun F=>?_
 show ar _ _ _ _ _ _ [ba b bl k,F]
 refine J 11 ?_
 refine .c call89 rfl oY fun _ _=>?_
 refine JD 3 (fun h11=>?_) fun h11=>?_
 ·refine J 8 ?_
  refine .eE rfl rfl rfl fun w s=>⟨(),?_,trivial,ak .auto s⟩
  rw[(wm (bl:=bl) (by simpa using h11)).1,(wm (bl:=bl) (by simpa using h11)).2];rfl
 ·refine J 6 ?_
  refine .c call108 rfl vj fun _ _=>?_
  refine JD 14 (fun h19=>?_) fun h19=>?_
  ·refine J 8 ?_
   refine .eE rfl rfl rfl fun w s=>⟨(),?_,trivial,ak .auto s⟩
   rw[(wq (bl:=bl) (by simpa using h11) (by simpa using h19)).1,(wq (bl:=bl) (by simpa using h11) (by simpa using h19)).2];rfl
  ·refine J 4 ?_
   refine .o3 (C:=ba b bl k) .auto rfl ?_
   rintro vo vl xs ⟨hxb,hxs⟩
   have hxl:=au hxs
   have hbl:=au hxb
   have hxx:=And.intro hxb hxs
   obtain⟨i,o,rfl,ho,hon,hoe⟩:=GQ (by simpa using h11) (by simpa using h19)
   obtain⟨n,l,rfl,hl⟩:=hk.nat ho hon
   obtain⟨x,hx,rfl,hbx⟩:=cX hxb hxs hl
   have hil:=(List.getElem?_eq_some_iff.1 hx).1
   rw[(jD (bl:=bl) ho).1,(jD (bl:=bl) ho).2,hbx]
   refine J 5 ?_
   refine .p (.tm n underlying152 sizeOf85 rfl rfl Rd.s (congrArg (·.1) hoe) (by omega)) ?_
   exact JR 6 ()
theorem xD{W:World}{b:Nat}{bl:List Nat}{k:Krn}{p:Int}{m:Nat}(hk:o0 m k)(hm:m≤300000000):Fn Tryz.prog W 32 [ptr b,.int .i64 p] [ba b bl k] Unit (fun _=>.int .i64 (k.take p).1) (fun _=>True) (fun _=>[ba b bl (k.take p).2]):=by
 refine Fn.intro (N:=25) func32 rfl ntmps32 rfl fun F=>?_
 show ar _ _ _ _ _ _ [ba b bl k,F]
 refine J 9 ?_
 refine .c call91 rfl (ry hk) fun _ _=>?_
 refine JD 14 (fun h14=>?_) fun h14=>?_
 ·refine J 8 ?_
  rw[jE h14]
  exact JR 0 ()
 ·refine J 4 ?_
  refine .o3 (C:=ba b bl k) .auto rfl ?_
  rintro vo vl xs ⟨hxb,hxs⟩
  have hxl:=au hxs
  have hbl:=au hxb
  have hxx:=And.intro hxb hxs
  obtain⟨i,n,l,rfl,ho,hl,he⟩:=dz hk (Decidable.of_not_not h14)
  obtain⟨x,hx,rfl,hbx⟩:=cX hxb hxs hl
  have hil:=(List.getElem?_eq_some_iff.1 hx).1
  have hio:=(List.getElem?_eq_some_iff.1 ho).1
  have hlo:=hk.gy x.2 (List.mem_of_getElem? hl)
  rw[he]
  refine J 5 ?_
  refine .p (.ix i rfl rfl rfl (by omega)) ?_
  refine .aj rfl (af.er (x':=(-1:Int)) rfl rfl sizeOf3 rfl ho (by decide) rfl .auto) ?_
  rintro _ _ ⟨rfl,rfl⟩
  refine J 4 ?_
  rw[(jD (bl:=bl) ho).2,hbx]
  refine .fr .auto (cc (f:=fun x:Nat×Lib=>bJ x.1 x.2) hx) ?_
  refine .o2 (C:=bJ x.1 x.2) .auto rfl ?_
  rintro bs br -
  refine J 2 ?_
  refine .c call92 rfl (Cu (l:=x.2) (b:=x.1) (bs:=bs) (br:=br) (p:=(i:Int)) ⟨by have:=hlo.w;omega,Nat.le_trans hlo.vl (by decide),fun v hv=>Nat.le_trans (hlo.e v hv) (by omega)⟩) fun _ _=>?_
  refine .to (A:=aO (fun x:Nat×Lib=>bJ x.1 x.2) (xs.set n (x.1,(x.2.cI (i:Int)).2))) .auto (lD (f:=fun x:Nat×Lib=>bJ x.1 x.2) (x.1,(x.2.cI (i:Int)).2) hx) ?_
  have hss:=nD hxb hxs hx (x.2.cI (i:Int)).2
  refine .to (A:=sl cP 1 vl (xs.set n (x.1,(x.2.cI (i:Int)).2))) (Bs:=[sl cP 1 vl xs]) .auto (qM (hxb.trans hss.1.symm)) ?_
  exact JR 8 ()
theorem xE{W:World}{b:Nat}{bl:List Nat}{k:Krn}{p n:Int}{m:Nat}(hk:o0 m k)(hm:m≤300000000):Fn Tryz.prog W 31 [ptr b,.int .i64 p,.int .i64 n] [ba b bl k] Unit (fun _=>.int .i64 (k.dV p n).1) (fun _=>True) (fun _=>[ba b bl (k.dV p n).2]):=by
 refine Fn.intro (N:=39) func31 rfl ntmps31 rfl fun F=>?_
 show ar _ _ _ _ _ _ [ba b bl k,F]
 refine J 9 ?_
 refine .c call40 rfl dO fun _ _=>?_
 refine J 9 ?_
 refine .c call89 rfl oY fun _ _=>?_
 refine J 2 ?_
 apply aR.gY 3 19 16 [16,17,18,19] rfl
 ·intro h16
  exact JS 4
 ·intro h16
  exact JS 4
 refine JD 3 (fun h11=>?_) fun h11=>?_
 ·simp only[Bool.or_eq_true,Bool.not_eq_true'] at h11
  refine .o3 (C:=ba b bl k) .auto rfl ?_
  rintro vo vl xs ⟨hxb,hxs⟩
  have hxl:=au hxs
  have hbl:=au hxb
  have hxx:=And.intro hxb hxs
  rw[BQ (mP hxb hxs) h11]
  exact JR 8 ()
 ·simp only[Bool.or_eq_false_iff,Bool.not_eq_false'] at h11
  refine .o3 (C:=ba b bl k) .auto rfl ?_
  rintro vo vl xs ⟨hxb,hxs⟩
  have hxl:=au hxs
  have hbl:=au hxb
  have hxx:=And.intro hxb hxs
  obtain⟨i,j,o,x,rfl,rfl,ho,hx,hl,hbx⟩:=ED hxb hxs h11
  have hio:=(List.getElem?_eq_some_iff.1 ho).1
  have hlo:=hk.gy x.2 (List.mem_of_getElem? hl)
  refine J 7 ?_
  refine .p (.ix i rfl rfl rfl (by omega)) ?_
  refine JD 5 (fun h20=>?_) fun h20=>?_
  ·rw[BP ho ((aV _ _).trans hl) h20]
   exact JR 8 ()
  ·obtain rfl:=Decidable.of_not_not h20
   rw[kK ho hl]
   refine J 11 ?_
   refine .p (.ix i rfl rfl rfl (by omega)) ?_
   refine .aj rfl (af.er (x':=(j:Int)) rfl rfl sizeOf3 rfl ho (by decide) rfl .auto) ?_
   rintro _ _ ⟨rfl,rfl⟩
   refine J 4 ?_
   rw[hbx]
   refine .fr .auto (cc (f:=fun x:Nat×Lib=>bJ x.1 x.2) hx) ?_
   refine .o2 (C:=bJ x.1 x.2) .auto rfl ?_
   rintro bs br -
   refine J 2 ?_
   refine .c call90 rfl (Fs (l:=x.2) (b:=x.1) (bs:=bs) (br:=br) (p:=(i:Int)) (by have:=hlo.w;omega)) fun _ _=>?_
   refine .to (A:=aO (fun x:Nat×Lib=>bJ x.1 x.2) (xs.set j (x.1,(x.2.dq (i:Int)).2))) .auto (lD (f:=fun x:Nat×Lib=>bJ x.1 x.2) (x.1,(x.2.dq (i:Int)).2) hx) ?_
   have hss:=nD hxb hxs hx (x.2.dq (i:Int)).2
   refine .to (A:=sl cP 1 vl (xs.set j (x.1,(x.2.dq (i:Int)).2))) (Bs:=[sl cP 1 vl xs]) .auto (qM (hxb.trans hss.1.symm)) ?_
   exact JR 8 ()
end Go.SLYtpbjdoplfgeliaaGreat
namespace Go.SLYtpbjdoplfgeliaaGreat
open Go Go.RowKit Go.Proofs Go.Proofs.Tryz
attribute [local irreducible] ar aR bm bA bH Y
theorem vk{W:World}{A:aa}{v:Value}{ps:List bc}{procs:Int}(hr:Rd W [A] eT 8 v ps)(hp:∀ p∈ps,eY W [A] p)(hb:ps.length≤1000000000∧ ∀ p∈ps,p.fs.length≤1000000000∧p.bK.length≤1000000000∧p.bf.length≤1000000000):Fn Tryz.prog W 29 [.int .i64 procs,v] [A] (Option Nat) (fun o=>.tuple #[ed o,.int .i64 (dF procs (ps.map bc.p))]) (fun o=>o.isSome=decide (dF procs (ps.map bc.p)=0)) (fun o=>[optH (fun b=>tH b (Krn.new procs (ps.map bc.p))) o,A]):=by
 refine Fn.intro (N:=60) func29 rfl ntmps29 rfl fun F=>?_
 haveI hRI:∀ (H:List aa) [bE H A],aC W H v eT 8 ps:=fun H h=>⟨hr.at h.has⟩
 show ar _ _ _ _ _ _ [A,F]
 have hml:(ps.map bc.p).length=ps.length:=List.length_map ..
 refine J 12 ?_
 apply aR.gA 3 16 13 [13,14,15,16] rfl
 ·intro h13
  exact JS 4
 ·intro h13
  exact JS 4
 refine J 1 ?_
 apply aR.gY 4 21 17 [17,18,19,20,21] rfl
 ·intro h17
  exact JS 5
 ·intro h17
  exact JS 5
 refine J 1 ?_
 apply aR.gY 4 26 22 [22,23,24,25,26] rfl
 ·intro h22
  exact JS 5
 ·intro h22
  exact JS 5
 refine JD 2 (fun h26=>?_) fun h26=>?_
 ·simp only[Bool.or_eq_true,decide_eq_true_eq] at h26
  refine J 8 ?_
  refine .eE rfl rfl rfl fun w s=>⟨none,?_,by rw[zW (by rw[hml];exact h26)];rfl,ak .auto s⟩
  rw[zW (by rw[hml];exact h26)];rfl
 ·simp only[Bool.or_eq_false_iff,decide_eq_false_iff_not] at h26
  refine J 4 ?_
  have hbd:1≤procs∧procs≤64∧1≤(ps.map bc.p).length∧(ps.map bc.p).length≤8:=by rw[hml];omega
  obtain⟨N,rfl⟩:∃ N:Nat,procs=(N:Int):=⟨procs.toNat,by omega⟩
  have hke:=JP hbd
  refine .aj rfl (af.gj 3 rfl rfl (by kernel_rfl)) ?_
  rintro _ _ ⟨b27,rfl,rfl⟩
  refine J 1 ?_
  refine .c call87 rfl (Kw (A:=arr b27 0 [.int .i64 (-1)]) (a := -1) (Rd.lit .here rfl (fun _ _=>rfl) rfl) (by omega)) fun u29 _=>?_
  refine .cM (fun w s=>Rd.shape (Rd.sl .auto) w s) fun e=>?_
  obtain⟨a29,c29,rfl⟩:=e
  rw[show(List.replicate N (-1:Int)).length=N from List.length_replicate ..]
  refine .p (.gX (fun v1=>[v1,(.slice none 0 0)]) rfl (by kernel_rfl)) ?_
  refine .aj rfl (af.box rfl rfl rfl) ?_
  rintro _ _ ⟨b31,rfl,rfl⟩
  refine J 12 ?_
  refine .aZ (X:=Nat×Value×List (Nat×Lib)) [4,5,8,9,10,34,35,36,37,38,39,40,41,42,43,44,45,46,47,48,49,50,51,52,53,54,55,56,57,58] (fun z=>ps.length-z.1) (fun z=>z.1≤ps.length∧z.2.2.length=z.1∧z.2.2.map (·.2)=((ps.map bc.p).take z.1).map (fun p=>Lib.new (Spc.new p) N)∧checkAll (ps.map bc.p)=checkAll ((ps.map bc.p).drop z.1)) (fun z=>[(34,some (.int .i64 (z.1:Int)))]) (fun z=>[arr b31 0 [.slice a29 N c29,z.2.1],sl aq 1 (.slice a29 N c29) (List.replicate N (-1)),sl cP 1 z.2.1 z.2.2,aO (fun x:Nat×Lib=>bJ x.1 x.2) z.2.2,A,F]) (0,.slice none 0 0,[]) ?_ ?_ ?_ ?_
  ·exact⟨Nat.zero_le _,rfl,rfl,rfl⟩
  ·exact⟨rfl,trivial⟩
  ·exact fun w s=>aw.kept .auto w s
  rintro⟨n,vl,xs⟩ ⟨hk,hxl,hxm0,hck⟩
  simp only at hk hxl hxm0 hck
  refine JD 6 (fun h35=>?_) fun h35=>?_
  ·refine J 6 ?_
   obtain⟨x,hx⟩:=ai (show n<ps.length by omega)
   have hxm:(ps.map bc.p)[n]?=some x.p:=by rw[List.getElem?_map,hx];rfl
   have hpx:=hp x (List.mem_of_getElem? hx)
   have hbx:=hb.2 x (List.mem_of_getElem? hx)
   refine .cM (fun w s=>Dh hpx .auto w s) fun hone=>?_
   refine J 1 ?_
   refine .p (.la rfl (Cells.rd Rd.s hx)) ?_
   refine .aj rfl (af.alloc rfl zeroValue52 rfl) ?_
   rintro _ _ ⟨b8,rfl,rfl⟩
   refine .aj rfl (af.Jr (by exact sizeOf52) rfl rfl hone rfl) ?_
   rintro _ _ ⟨rfl,rfl⟩
   refine J 5 ?_
   refine .c call20 rfl (Iv hpx hbx) fun o ho=>?_
   refine JD 14 (fun h44=>?_) fun h44=>?_
   ·refine J 14 ?_
    refine .eE rfl rfl rfl fun w s=>⟨none,?_,by rw[hke,hck,tO hxm h44];exact(decide_eq_false h44).symm,ak .auto s⟩
    rw[hke,hck,tO hxm h44];rfl
   ·have h44:=Decidable.of_not_not h44
    obtain⟨bs,rfl⟩:=Option.isSome_iff_exists.1 (ho.trans (decide_eq_true h44))
    refine .fr (A:=optH (fun b=>fM b (Spc.new x.p)) (some bs)) (Bs:=[fM bs (Spc.new x.p)]) .auto iJ ?_
    refine .o1 (C:=fM bs (Spc.new x.p)) .auto rfl ?_
    rintro pt -
    refine J 2 ?_
    refine .draw [arr b31 0 [.slice a29 N c29,vl]] [0,0,0,0,0,1,1,2,2,2,1,1,3] rfl (by kernel_rfl) ?_
    refine J 7 ?_
    refine .c2 call88 rfl (Ky (bs:=bs) (ps:=pt) (s:=Spc.new x.p) (p:=(N:Int)) (yk _)) fun x53 _=>?_
    refine .d2 rfl Kept.auto (af.gj 85 rfl rfl (by kernel_rfl)) (by rintro _ _ ⟨b54,rfl,rfl⟩;exact Kept.auto) ?_
    rintro _ _ ⟨b54,rfl,rfl⟩
    refine .d2 rfl Kept.auto (af.fV (enc:=cP) (k:=1) ((x53,Lib.new (Spc.new x.p) N):Nat×Lib) rfl underlying152 underlying152 typeInfo85 rfl rfl rfl (by decide) rfl rfl rfl .auto rfl .auto (by first | omega | (dsimp only;omega)) rfl) (by rintro _ _ ⟨v55,rfl,rfl⟩;exact Kept.auto) ?_
    rintro _ _ ⟨v55,rfl,rfl⟩
    refine J 2 ?_
    refine .d3 rfl (af.mC sizeOf152 rfl rfl rfl) ?_
    rintro _ _ ⟨rfl,rfl⟩
    refine J 7 ?_
    refine .ax (n+1,v55,xs++[(x53,Lib.new (Spc.new x.p) N)]) .auto rfl ?_ ?_ ?_ ?_
    ·show ps.length-(n+1)<ps.length-n;omega
    ·exact⟨by show n+1≤_;omega,by simp[hxl],by rw[aW hxm];simp[hxm0],by rw[hck,BR hxm h44]⟩
    ·exact⟨rfl,trivial⟩
    ·show ∀ w,Sat _ w _→Sat _ w (seps [_,_,sl cP 1 v55 (xs++[(x53,Lib.new (Spc.new x.p) N)]),aO (fun x:Nat×Lib=>bJ x.1 x.2) (xs++[(x53,Lib.new (Spc.new x.p) N)]),A,F])
     rw[nw]
     exact fun w s=>aw.kept .auto w s
  ·refine J 13 ?_
   obtain rfl:n=ps.length:=by omega
   have hk0:dF N (ps.map bc.p)=0:=by rw[hke,hck,List.drop_of_length_le (by rw[hml];omega)];rfl
   have hxx:xs.map (·.1)=xs.map (·.1)∧xs.map (·.2)=(Krn.new N (ps.map bc.p)).libs:=⟨rfl,by rw[hxm0,List.take_of_length_le (by rw[hml];omega)];rfl⟩
   refine .eE rfl rfl rfl fun w s=>⟨some b31,?_,by rw[hk0];rfl,ak .auto s⟩
   rw[hk0];rfl
theorem A5{W:World}{b:Nat}{dv pv ov:Value}{d:Deal}{A:aa}(hd:Rd W [A] aq 1 dv d.demand)(hpr:Rd W [A] aq 1 pv d.prio)(hok:vJ d){n:Nat}{p:Int}(hn:n<d.demand.length):Fn Tryz.prog W 195 [ptr b,.int .i64 (n:Int),.int .i64 p] [arr b 0 [.int .i64 d.left,dv,pv,ov],sl aq 1 ov d.out,A] Unit (fun _=>.bool (d.hD n p)) (fun _=>True) (fun _=>[arr b 0 [.int .i64 d.left,dv,pv,ov],sl aq 1 ov d.out,A]):=by
 refine Fn.intro (N:=33) func195 rfl ntmps195 rfl fun F=>?_
 haveI hRD:∀ (H:List aa) [bE H A],aC W H dv aq 1 d.demand:=fun H h=>⟨hd.at h.has⟩
 haveI hRP:∀ (H:List aa) [bE H A],aC W H pv aq 1 d.prio:=fun H h=>⟨hpr.at h.has⟩
 show ar _ _ _ _ _ _ [arr b 0 [.int .i64 d.left,dv,pv,ov],sl aq 1 ov d.out,A,F]
 obtain⟨z,hz⟩:=ai hn
 obtain⟨x,hx⟩:=ai (show n<d.prio.length by rw[hok.pl];exact hn)
 obtain⟨y,hy⟩:=ai (show n<d.out.length by rw[hok.ol];exact hn)
 have hpl:=hok.pl
 have hol:=hok.ol
 have hdl:=hok.dl
 refine J 6 ?_
 refine .draw [] [1,1,1,1,1,1,1,1,1,1,1,1,1,1,1,1,1,1,1,1,1,1,1,1,1,1,1] rfl (by kernel_rfl) ?_
 refine J 5 ?_
 refine .p (.ix n rfl rfl rfl (by omega)) ?_
 refine .p (.lr rfl hx) ?_
 refine J 3 ?_
 apply bm.gz 16 32 16 [16,17,18,19,20,21,22,23,24,25,26,27,28,29,30,31,32] rfl
 ·intro h16
  refine J 5 ?_
  refine .g (.ix n rfl rfl rfl (by omega)) ?_
  refine .g (.lr rfl hy) ?_
  refine J 5 ?_
  refine .g (.ix n rfl rfl rfl (by omega)) ?_
  refine .g (.lr rfl hz) ?_
  exact JS 3
 ·intro h16
  exact JS 17
 refine J 4 ?_
 refine .aS rfl rfl fun w s=>⟨(),?_,trivial,ak .auto s⟩
 unfold Deal.hD;rw[aP hx,aP hy,aP hz]
theorem A6{W:World}{b:Nat}{dv pv ov:Value}{d:Deal}{p:Int}{f:Nat}{A:aa}(hd:Rd W [A] aq 1 dv d.demand)(hpr:Rd W [A] aq 1 pv d.prio)(hok:vJ d)(hf:f<d.demand.length):Fn Tryz.prog W 145 [ptr b,.int .i64 p,.int .i64 (f:Int)] [arr b 0 [.int .i64 d.left,dv,pv,ov],sl aq 1 ov d.out,A] Unit (fun _=>.bool (d.round p f).2) (fun _=>True) (fun _=>[arr b 0 [.int .i64 (d.round p f).1.left,dv,pv,ov],sl aq 1 ov (d.round p f).1.out,A]):=by
 refine Fn.intro (N:=56) func145 rfl ntmps145 rfl fun F=>?_
 haveI hRD:∀ (H:List aa) [bE H A],aC W H dv aq 1 d.demand:=fun H h=>⟨hd.at h.has⟩
 haveI hRP:∀ (H:List aa) [bE H A],aC W H pv aq 1 d.prio:=fun H h=>⟨hpr.at h.has⟩
 show ar _ _ _ _ _ _ [arr b 0 [.int .i64 d.left,dv,pv,ov],sl aq 1 ov d.out,A,F]
 have hln:d.demand.length≤8:=hok.dl
 refine J 22 ?_
 refine .aZ (X:=Nat×Deal×Bool) [7,8,9,15,16,17,18,19,20,21,22,23,24,25,26,27,28,29,30,31,32,33,34,35,36,37,38,39,40,41,42,43,44,45,46,47,48,49,50,51,52,53,54] (fun z=>d.demand.length-z.1) (fun z=>z.1≤d.demand.length∧vJ z.2.1∧z.2.1.demand=d.demand∧z.2.1.prio=d.prio∧d.round p f=Deal.go p f (d.demand.length-z.1) z.1 z.2.1 z.2.2) (fun z=>[(15,some (.int .i64 (z.1:Int))),(7,some (.bool z.2.2))]) (fun z=>[arr b 0 [.int .i64 z.2.1.left,dv,pv,ov],sl aq 1 ov z.2.1.out,A,F]) (0,d,false) ?_ ?_ ?_ ?_
 ·exact⟨Nat.zero_le _,hok,rfl,rfl,rfl⟩
 ·exact⟨rfl,rfl,trivial⟩
 ·exact fun w s=>aw.kept .auto w s
 rintro⟨k,d1,any⟩ ⟨hk,hok1,hdd,hdp,hgo⟩
 simp only at hk hok1 hdd hdp hgo
 refine JD 6 (fun h16=>?_) fun h16=>?_
 ·refine J 14 ?_
  refine .p (.add rfl rfl (by omega)) ?_
  refine J 5 ?_
  have hd1:d1.demand.length=d.demand.length:=by rw[hdd]
  obtain⟨n,hn⟩:∃ n,n=(f+k) % d.demand.length:=⟨_,rfl⟩
  have hnn:((f:Int)+(k:Int)).tmod (d.demand.length:Int)=(n:Int):=by
   rw[← Int.natCast_add,hn, ← Int.ofNat_tmod]
  have hnl:n<d.demand.length:=by rw[hn];exact Nat.mod_lt _ (by omega)
  have hkl:k<d1.demand.length:=by omega
  have hn1:n=(f+k) % d1.demand.length:=by rw[hd1];exact hn
  have hll:=hok1.left
  refine .p (.fa (Y.rem rfl rfl (by omega)) hnn) ?_
  refine J 11 ?_
  apply aR.gz 5 37 32 [32,33,34,35,36,37] rfl
  ·intro h32
   refine J 3 ?_
   refine .cg call195 rfl (A5 (d:=d1) (hdd ▸ hd) (hdp ▸ hpr) hok1 (n:=n) (by omega)) fun _ _=>?_
   exact JS 2
  ·intro h32
   exact JS 6
  refine JD 2 (fun h37=>?_) fun h37=>?_
  ·simp only[Bool.and_eq_true,decide_eq_true_eq] at h37
   obtain⟨y,hy⟩:=ai (show n<d1.out.length by rw[hok1.ol];omega)
   have hol:=(List.getElem?_eq_some_iff.1 hy).1
   have hyb:y<1000000∧0≤y:=EE hok1 h37.2 hy (by omega)
   have hy1:d1.out.set n (y+1)=d1.out.set n (d1.out.getD n 0+1):=by rw[aP hy]
   refine J 7 ?_
   refine .p (.ix n rfl rfl rfl (by omega)) ?_
   refine .p (.lr rfl hy) ?_
   refine .p (.add rfl rfl (by omega)) ?_
   refine .p (.ix n rfl rfl rfl (by omega)) ?_
   refine .aj rfl (af.er (x':=y+1) rfl rfl sizeOf3 rfl hy (by decide) rfl .auto) ?_
   rintro _ _ ⟨rfl,rfl⟩
   refine J 8 ?_
   refine .p (.sub rfl rfl (by have:=h37.1;dsimp only;omega)) ?_
   refine J 14 ?_
   refine .ax (k+1,{d1 with out:=d1.out.set n (d1.out.getD n 0+1),left:=d1.left-1 },true) .auto rfl ?_ ?_ ?_ ?_
   ·show d.demand.length-(k+1)<d.demand.length-k;omega
   ·have hs:=kL h37
    have ok:=yi hok1 p n
    rw[hs] at ok
    exact⟨by show k+1≤_;omega,ok,hdd,hdp,by have:=Dj (d:=d1) hgo hkl (by rw[hdd]) hn1 hs;rw[hd1,Bool.or_true] at this;exact this⟩
   ·exact⟨rfl,rfl,trivial⟩
   ·show ∀ w,Sat _ w _→Sat _ w (seps [_,sl aq 1 ov (d1.out.set n (d1.out.getD n 0+1)),A,F])
    rw[← hy1]
    exact fun w s=>aw.kept .auto w s
  ·simp only[Bool.and_eq_false_iff,decide_eq_false_iff_not] at h37
   have h37:¬(0<d1.left∧d1.hD n p=true):=fun e=>h37.elim (fun h=>h e.1) (fun h=>by rw[e.2] at h;cases h)
   refine J 7 ?_
   refine .ax (k+1,d1,any) .auto rfl ?_ ?_ ?_ ?_
   ·show d.demand.length-(k+1)<d.demand.length-k;omega
   ·exact⟨by show k+1≤_;omega,hok1,hdd,hdp,by have:=Dj (d:=d1) hgo hkl (by rw[hdd]) hn1 (j6 h37);rw[hd1,Bool.or_false] at this;exact this⟩
   ·exact⟨rfl,rfl,trivial⟩
   ·exact fun w s=>aw.kept .auto w s
 ·refine J 12 ?_
  obtain rfl:k=d.demand.length:=by omega
  rw[Nat.sub_self] at hgo
  rw[hgo]
  exact JR 0 ()
theorem CT{W:World}{A:aa}{dv pv:Value}{procs turn:Int}{demand prio:List Int}(hd:Rd W [A] aq 1 dv demand)(hpr:Rd W [A] aq 1 pv prio)(hb:prio.length≤1000000000∧ ∀ z∈demand,z≤1000000):Fn Tryz.prog W 94 [.int .i64 procs,dv,pv,.int .i64 turn] [A] Value (fun u=>u) (fun _=>True) (fun u=>[sl aq 1 u ((fm procs demand prio turn).getD []),A]):=by
 refine Fn.intro (N:=70) func94 rfl ntmps94 rfl fun F=>?_
 show ar _ _ _ _ _ _ [A,F]
 refine .cM (fun w s=>Rd.shape (hd.at .here) w s) fun e=>?_
 obtain⟨ad,cd,rfl⟩:=e
 refine .cM (fun w s=>Rd.shape (hpr.at .here) w s) fun e=>?_
 obtain⟨ap,cp,rfl⟩:=e
 haveI hRD:∀ (H:List aa) [bE H A],aC W H (.slice ad demand.length cd) aq 1 demand:=fun H h=>⟨hd.at h.has⟩
 haveI hRP:∀ (H:List aa) [bE H A],aC W H (.slice ap prio.length cp) aq 1 prio:=fun H h=>⟨hpr.at h.has⟩
 refine J 20 ?_
 apply aR.gA 3 23 20 [20,21,22,23] rfl
 ·intro h20
  exact JS 4
 ·intro h20
  exact JS 4
 refine J 1 ?_
 apply aR.gY 4 28 24 [24,25,26,27,28] rfl
 ·intro h24
  refine J 1 ?_
  refine .cg call144 rfl qm fun _ _=>?_
  exact JS 3
 ·intro h24
  exact JS 5
 refine JD 2 (fun h28=>?_) fun h28=>?_
 ·simp only[Bool.or_eq_true,decide_eq_true_eq,Bool.not_eq_true'] at h28
  rw[sF h28]
  exact JR 7 (Value.slice none 0 0)
 ·simp only[Bool.or_eq_false_iff,decide_eq_false_iff_not,Bool.not_eq_false'] at h28
  have h28:demand.length=prio.length∧demand.length≤8∧within procs 64=true:=⟨by omega,by omega,h28.2⟩
  have hwp:=h28.2.2
  unfold within at hwp
  simp only[Bool.and_eq_true,decide_eq_true_eq] at hwp
  refine J 11 ?_
  refine .aZ (X:=Nat) [8,11,31,32,33,34,35,36,37,38] (fun k=>prio.length-k) (fun k=>k≤prio.length∧(prio.take k).all (fun p=>within p 7)=true) (fun k=>[(31,some (.int .i64 (k:Int)))]) (fun k=>[A,F]) 0 ?_ ?_ ?_ ?_
  ·exact⟨Nat.zero_le _,rfl⟩
  ·exact⟨rfl,trivial⟩
  ·exact fun w s=>aw.kept .auto w s
  rintro k ⟨hk,hal⟩
  refine JD 6 (fun h32=>?_) fun h32=>?_
  ·refine J 6 ?_
   obtain⟨x,hx⟩:=ai (show k<prio.length by omega)
   refine J 1 ?_
   refine .p (.lr rfl hx) ?_
   refine J 6 ?_
   refine .c call144 rfl qm fun _ _=>?_
   refine JD 3 (fun h37=>?_) fun h37=>?_
   ·rw[pz hx (by simpa using h37)]
    exact JR 11 (Value.slice none 0 0)
   ·refine J 7 ?_
    refine .ax (k+1) .auto rfl ?_ ?_ ?_ ?_
    ·first | omega | (dsimp only;omega)
    ·exact⟨by omega,by rw[jA hx,hal];simpa using h37⟩
    ·exact⟨rfl,trivial⟩
    ·exact fun w s=>aw.kept .auto w s
  ·obtain rfl:k=prio.length:=by omega
   rw[List.take_length] at hal
   refine J 11 ?_
   refine .aj rfl (af.Ek (enc:=aq) (k:=1) 0 demand.length rfl underlying50 typeInfo3 rfl rfl rfl rfl (by decide) (by decide) rfl rfl rfl rfl (by omega)) ?_
   rintro _ _ ⟨b43,rfl,rfl⟩
   refine .p (.Gf (fun v1 v2 v3 v4=>[v1,v2,v3,v4]) rfl rfl rfl rfl (by kernel_rfl)) ?_
   refine .aj rfl (af.box rfl rfl rfl) ?_
   rintro _ _ ⟨b45,rfl,rfl⟩
   refine JD 10 (fun h47=>?_) fun h47=>?_
   ·have h0:demand.length=0:=by omega
    rw[pA h28 hal h0]
    refine J 11 ?_
    rw[h0]
    refine .aS rfl rfl fun w s=>⟨.slice (some ⟨b43,0,none⟩) 0 0,?_,trivial,ak .auto s⟩
    rfl
   ·have h0:¬demand.length=0:=by omega
    have hn0:0<demand.length:=by omega
    rw[mQ h28 hal h0]
    have hok0:=yj h28 hb.2
    refine J 9 ?_
    refine .aZ (X:=Nat×Deal) [13,52,53,54,55,56,57,58,59,60,61,62,63,64,65] (fun z=>z.1) (fun z=>z.1≤8∧vJ z.2∧z.2.demand=demand∧z.2.prio=prio∧priosN (pick turn demand.length) z.1 z.2=priosN (pick turn demand.length) 8 (vK procs demand prio)) (fun z=>[(13,some (.int .i64 ((z.1:Int)-1)))]) (fun z=>[arr b45 0 [.int .i64 z.2.left,.slice ad demand.length cd,.slice ap prio.length cp,(.slice (some ⟨b43,0,none⟩) demand.length demand.length)],sl aq 1 (.slice (some ⟨b43,0,none⟩) demand.length demand.length) z.2.out,A,F]) (8,vK procs demand prio) ?_ ?_ ?_ ?_
    ·exact⟨Nat.le_refl _,hok0,rfl,rfl,rfl⟩
    ·exact⟨rfl,trivial⟩
    ·exact fun w s=>aw.kept .auto w s
    rintro⟨r,d⟩ ⟨hr8,hok,hdd,hdp,hpi⟩
    simp only at hr8 hok hdd hdp hpi
    refine JD 7 (fun h53=>?_) fun h53=>?_
    ·obtain⟨q,rfl⟩:∃ q,r=q+1:=⟨r - 1,by omega⟩
     refine J 5 ?_
     refine .aZ (X:=Deal) [13,56,57,58,59,60,61,62,63,64,65] (fun z=>z.left.toNat) (fun z=>vJ z∧z.demand=demand∧z.prio=prio∧dr (q:Int) (pick turn demand.length) z=dr (q:Int) (pick turn demand.length) d) (fun z=>[(13,some (.int .i64 (q:Int)))]) (fun z=>[arr b45 0 [.int .i64 z.left,.slice ad demand.length cd,.slice ap prio.length cp,(.slice (some ⟨b43,0,none⟩) demand.length demand.length)],sl aq 1 (.slice (some ⟨b43,0,none⟩) demand.length demand.length) z.out,A,F]) d ?_ ?_ ?_ ?_
     ·exact⟨hok,hdd,hdp,rfl⟩
     ·exact⟨show some (Value.int .i64 (((q+1:Nat):Int)-1))=some (.int .i64 (q:Int)) from by rw[show((q+1:Nat):Int)-1=(q:Int) by omega],trivial⟩
     ·exact fun w s=>aw.kept .auto w s
     rintro d1 ⟨hok1,hdd1,hdp1,hdr⟩
     have hrf:=round_facts d1 (q:Int) (pick turn demand.length)
     refine J 7 ?_
     have hn0:0<demand.length:=by omega
     refine .p (.rem rfl rfl (by omega)) ?_
     refine J 1 ?_
     refine .p (.add rfl rfl (by have h1:=Int.lt_tmod_of_pos turn (show(0:Int)<(demand.length:Int) by omega);have h2:=Int.tmod_lt_of_pos turn (show(0:Int)<(demand.length:Int) by omega);omega)) ?_
     refine J 1 ?_
     refine .p (.fa (Y.rem rfl rfl (by omega)) (kM hn0)) ?_
     refine .c call145 rfl (A6 (d:=d1) (p:=(q:Int)) (f:=pick turn demand.length) (by rw[hdd1];exact hd) (by rw[hdp1];exact hpr) hok1 (by rw[hdd1];exact j7 hn0)) fun _ _=>?_
     refine JD 2 (fun h65=>?_) fun h65=>?_
     ·refine J 5 ?_
      refine .ax ((d1.round (q:Int) (pick turn demand.length)).1) .auto rfl ?_ ?_ ?_ ?_
      ·have h1:=hrf.2.2.1 h65;have h2:=hrf.2.1 hok1.left.1;omega
      ·exact⟨hrf.2.2.2.2.2 hok1,by rw[hrf.2.2.2.1,hdd1],by rw[hrf.2.2.2.2.1,hdp1],by rw[← LR hok1.left.1 h65,hdr]⟩
      ·exact⟨rfl,trivial⟩
      ·exact fun w s=>aw.kept .auto w s
     ·refine J 11 ?_
      refine .ax (q,(d1.round (q:Int) (pick turn demand.length)).1) .auto rfl ?_ ?_ ?_ ?_
      ·show q<q+1;omega
      ·exact⟨by show q≤8;omega,hrf.2.2.2.2.2 hok1,by rw[hrf.2.2.2.1,hdd1],by rw[hrf.2.2.2.2.1,hdp1],by rw[← hpi, ← Nc h65,hdr];rfl⟩
      ·exact⟨rfl,trivial⟩
      ·exact fun w s=>aw.kept .auto w s
    ·obtain rfl:r=0:=by omega
     refine J 15 ?_
     rw[← hpi]
     refine .aS rfl rfl fun w s=>⟨(.slice (some ⟨b43,0,none⟩) demand.length demand.length),?_,trivial,ak .auto s⟩
     rfl
end Go.SLYtpbjdoplfgeliaaGreat
namespace Go.SLYtpbjdoplfgeliaaGreat
open Go Go.RowKit Go.Proofs Go.Proofs.Tryz
attribute [local irreducible] ar aR bm bA bH Y
theorem xF{W:World}{b:Nat}{bl:List Nat}{k:Krn}{p c:Int}{m:Nat}(hk:sA m k):Fn Tryz.prog W 33 [ptr b,.int .i64 p,.int .i64 c] [ba b bl k] Value (fun u=>.tuple #[.int .i64 (k.step p c).1.1,.agg (dy u (k.step p c).1.2.1).toArray,.int .i64 (k.step p c).1.2.2]) (fun _=>True) (fun u=>[sl aq 1 u (k.step p c).1.2.1.xb.av,ba b bl (k.step p c).2]):=by
 refine Fn.intro (N:=38) func33 rfl ntmps33 rfl fun F=>?_
 show ar _ _ _ _ _ _ [ba b bl k,F]
 refine J 3 ?_
 refine .aj rfl (af.alloc rfl zeroValue75 rfl) ?_
 rintro _ _ ⟨b7,rfl,rfl⟩
 refine J 7 ?_
 refine .c call91 rfl (ry hk.ok) fun _ _=>?_
 refine JD 14 (fun h19=>?_) fun h19=>?_
 ·refine J 2 ?_
  refine .p (.mq (dy (.slice none 0 0) gg.z) (by kernel_rfl)) ?_
  refine J 2 ?_
  refine .aj rfl (af.iy (vs:=dy (.slice none 0 0) gg.z) (by exact sizeOf75) rfl rfl (by rfl) (by rfl)) ?_
  rintro _ _ ⟨rfl,rfl⟩
  refine J 5 ?_
  rw[gF h19]
  refine .H7 rfl rfl isAgg75 (by exact sizeOf75) Cells.a rfl rfl fun w s=>⟨(.slice none 0 0),?_,trivial,ak .auto s⟩
  rfl
 ·refine J 4 ?_
  refine .o3 (C:=ba b bl k) .auto rfl ?_
  rintro vo vl xs ⟨hxb,hxs⟩
  have hxl:=au hxs
  have hbl:=au hxb
  have hxx:=And.intro hxb hxs
  obtain⟨i,n,l,rfl,ho,hl, -⟩:=dz hk.ok (Decidable.of_not_not h19)
  obtain⟨x,hx,rfl,hbx⟩:=cX hxb hxs hl
  have hil:=(List.getElem?_eq_some_iff.1 hx).1
  have hio:=(List.getElem?_eq_some_iff.1 ho).1
  have hlo:=hk.gy x.2 (List.mem_of_getElem? hl)
  rw[iP ho hl]
  rw[(jD (bl:=bl) ho).2,hbx]
  refine .fr .auto (cc (f:=fun x:Nat×Lib=>bJ x.1 x.2) hx) ?_
  refine .o2 (C:=bJ x.1 x.2) .auto rfl ?_
  rintro bs br -
  refine J 3 ?_
  refine .c call93 rfl (IZ (l:=x.2) (b:=x.1) (bs:=bs) (br:=br) (p:=(i:Int)) (c:=c) hlo.1 (fun t=>hlo.2 t _)) fun u26 _=>?_
  refine .cM (fun w s=>Rd.isSl (Rd.sl .auto) w s) fun hu26=>?_
  refine .to (A:=aO (fun x:Nat×Lib=>bJ x.1 x.2) (xs.set n (x.1,(x.2.step (i:Int) c).2.2))) .auto (lD (f:=fun x:Nat×Lib=>bJ x.1 x.2) (x.1,(x.2.step (i:Int) c).2.2) hx) ?_
  have hss:=nD hxb hxs hx (x.2.step (i:Int) c).2.2
  refine .to (A:=sl cP 1 vl (xs.set n (x.1,(x.2.step (i:Int) c).2.2))) (Bs:=[sl cP 1 vl xs]) .auto (qM (hxb.trans hss.1.symm)) ?_
  refine J 1 ?_
  refine .p (.extract (v:=.agg (dy u26 (x.2.step (i:Int) c).1).toArray) rfl rfl) ?_
  refine .p (.extract (v:=.int .i64 (x.2.step (i:Int) c).2.1) rfl rfl) ?_
  refine .aj rfl (af.alloc rfl zeroValue75 rfl) ?_
  rintro _ _ ⟨b11,rfl,rfl⟩
  refine .aj rfl (af.iy (vs:=dy u26 (x.2.step (i:Int) c).1) (by exact sizeOf75) rfl rfl (dh hu26) (by rfl)) ?_
  rintro _ _ ⟨rfl,rfl⟩
  refine J 4 ?_
  refine .draw [arr b11 0 (dy u26 (x.2.step (i:Int) c).1)] [1,1,1,1,1,1,1,1,0,1,2,1] rfl (by kernel_rfl) ?_
  refine J 5 ?_
  refine .p (.ix i rfl rfl rfl (by omega)) ?_
  refine .p (.lr rfl ho) ?_
  refine J 3 ?_
  refine .d2 rfl Kept.auto (af.iy (vs:=dy u26 (x.2.step (i:Int) c).1) (by exact sizeOf75) rfl rfl (dh hu26) (by rfl)) (by rintro _ _ ⟨rfl,rfl⟩;exact Kept.auto) ?_
  rintro _ _ ⟨rfl,rfl⟩
  refine J 4 ?_
  refine .H7 rfl rfl isAgg75 (by exact sizeOf75) Cells.a rfl rfl fun w s=>⟨u26,?_,trivial,ak .auto s⟩
  rfl
end Go.SLYtpbjdoplfgeliaaGreat
namespace Go.SLYtpbjdoplfgeliaaGreat
open Go Go.RowKit Go.Proofs Go.Proofs.Tryz
attribute [local irreducible] ar aR bm bA bH Y
end Go.SLYtpbjdoplfgeliaaGreat
namespace Go.SLYtpbjdoplfgeliaaGreat
open Go Go.RowKit Go.Proofs Go.Proofs.Tryz
attribute [local irreducible] ar aR bm bA bH Y
end Go.SLYtpbjdoplfgeliaaGreat
namespace Go.SLYtpbjdoplfgeliaaGreat
open Go Go.RowKit Go.Proofs Go.Proofs.Tryz
attribute [local irreducible] ar aR bm bA bH Y
end Go.SLYtpbjdoplfgeliaaGreat
namespace Go.SLYtpbjdoplfgeliaaGreat
open Go Go.RowKit Go.Proofs Go.Proofs.Tryz
attribute [local irreducible] ar aR bm bA bH Y
end Go.SLYtpbjdoplfgeliaaGreat
namespace Go.SLYtpbjdoplfgeliaaGreat
open Go Go.RowKit Go.Proofs Go.Proofs.Tryz
attribute [local irreducible] ar aR bm bA bH Y
end Go.SLYtpbjdoplfgeliaaGreat
namespace Go.SLYtpbjdoplfgeliaaGreat
open Go Go.RowKit Go.Proofs Go.Proofs.Tryz
attribute [local irreducible] ar aR bm bA bH Y
theorem iE{W:World}{b:Nat}{bl:List Nat}{k:Krn}{A:aa}{v:Value}{prio:List Int}{turn:Int}{m:Nat}(hpr:Rd W [A] aq 1 v prio)(hpl:prio.length≤1000000000)(hk:o0 m k):Fn Tryz.prog W 37 [ptr b,v,.int .i64 turn] [ba b bl k,A] Value (fun u=>u) (fun _=>True) (fun u=>[sl aq 1 u (k.targets prio turn),ba b bl k,A]):=by
 refine Fn.intro (N:=14) func37 rfl ntmps37 rfl fun F=>?_
 haveI hRI:∀ (H:List aa) [bE H A],aC W H v aq 1 prio:=fun H h=>⟨hpr.at h.has⟩
 show ar _ _ _ _ _ _ [ba b bl k,A,F]
 refine J 8 ?_
 refine .c call35 rfl eC fun _ _=>?_
 refine J 1 ?_
 refine .c call36 rfl (gH hk) fun u10 _=>?_
 refine J 2 ?_
 refine .c call94 rfl (CT (A:=seps [sl aq 1 u10 k.demand,A]) (demand:=k.demand) (prio:=prio) (Rd.eX (Rd.sl .here)) (Rd.eX (hpr.at (.there .here))) ⟨hpl,lR hk⟩) fun u13 _=>?_
 refine J 4 ?_
 refine .dL .auto ?_
 refine .aS rfl rfl fun w s=>⟨_,?_,trivial,ak .auto s⟩
 rfl
theorem iu{W:World}{b:Nat}{bl:List Nat}{k:Krn}{A:aa}{v:Value}{prio:List Int}{turn:Int}{m:Nat}(hpr:Rd W [A] aq 1 v prio)(hpl:prio.length≤1000000000)(hk:o0 m k):Fn Tryz.prog W 39 [ptr b,v,.int .i64 turn] [ba b bl k,A] Unit (fun _=>.bool (k.fair prio turn)) (fun _=>True) (fun _=>[ba b bl k,A]):=by
 refine Fn.intro (N:=34) func39 rfl ntmps39 rfl fun F=>?_
 haveI hRI:∀ (H:List aa) [bE H A],aC W H v aq 1 prio:=fun H h=>⟨hpr.at h.has⟩
 show ar _ _ _ _ _ _ [ba b bl k,A,F]
 have htf:=dT hk prio turn
 have hll:=hk.ll
 refine J 10 ?_
 refine .c call37 rfl (iE hpr hpl hk) fun u13 _=>?_
 refine J 9 ?_
 refine .c call57 rfl iR fun _ _=>?_
 refine JD 3 (fun h18=>?_) fun h18=>?_
 ·refine J 7 ?_
  refine .aS rfl rfl fun w s=>⟨(),?_,trivial,ak .auto s⟩
  rw[HN h18]
 ·have h18:(k.targets prio turn).length=k.libs.length:=by omega
  refine J 11 ?_
  refine .aZ (X:=Nat) [6,8,9,21,22,23,24,25,26,27,28,29,30,31,32,33] (fun z=>(k.targets prio turn).length-z) (fun z=>z≤(k.targets prio turn).length∧(k.libs.map fun l=>(l.procs.length:Int)).take z=(k.targets prio turn).take z) (fun z=>[(21,some (.int .i64 (z:Int)))]) (fun z=>[sl aq 1 u13 (k.targets prio turn),ba b bl k,A,F]) 0 ?_ ?_ ?_ ?_
  ·exact⟨Nat.zero_le _,rfl⟩
  ·exact⟨rfl,trivial⟩
  ·exact fun w s=>aw.kept .auto w s
  rintro n ⟨hn,heq⟩
  refine JD 6 (fun h22=>?_) fun h22=>?_
  ·refine J 7 ?_
   obtain⟨w,hw⟩:=ai (show n<(k.targets prio turn).length by omega)
   obtain⟨l,hl⟩:=ai (show n<k.libs.length by omega)
   have hlo:=hk.gy l (List.mem_of_getElem? hl)
   refine J 1 ?_
   refine .p (.lr rfl hw) ?_
   refine J 8 ?_
   refine .c call40 rfl dO fun _ _=>?_
   refine .o3 (C:=ba b bl k) .auto rfl ?_
   rintro vo vl xs ⟨hxb,hxs⟩
   have hxl:=au hxs
   have hbl:=au hxb
   have hxx:=And.intro hxb hxs
   obtain⟨x,hx,hxe,hbx⟩:=cX hxb hxs hl
   rw[aV,hbx]
   subst hxe
   refine .fr .auto (cc (f:=fun x:Nat×Lib=>bJ x.1 x.2) hx) ?_
   refine .o2 (C:=bJ x.1 x.2) .auto rfl ?_
   rintro bs br -
   refine .c call41 rfl (fi (l:=x.2) (Nat.le_trans hlo.vl (by decide))) fun u29 _=>?_
   refine .to (A:=aO (fun x:Nat×Lib=>bJ x.1 x.2) xs) .auto (cC (f:=fun x:Nat×Lib=>bJ x.1 x.2) hx) ?_
   refine .to (A:=ba b bl k) .auto kk ?_
   refine JD 5 (fun h32=>?_) fun h32=>?_
   ·refine J 11 ?_
    refine .aS rfl rfl fun w s=>⟨(),?_,trivial,ak .auto s⟩
    rw[AI hl hw h32]
   ·refine J 7 ?_
    refine .ax (n+1) .auto rfl ?_ ?_ ?_ ?_
    ·first | omega | (dsimp only;omega)
    ·exact⟨by omega,by rw[aW hw,aW (show(k.libs.map fun l=>(l.procs.length:Int))[n]?=some (x.2.procs.length:Int) by rw[List.getElem?_map,hl];rfl),heq,Decidable.of_not_not h32]⟩
    ·exact⟨rfl,trivial⟩
    ·exact fun w s=>aw.kept .auto w s
  ·obtain rfl:n=(k.targets prio turn).length:=by omega
   rw[List.take_length,List.take_of_length_le (by rw[List.length_map];omega)] at heq
   refine J 11 ?_
   refine .aS rfl rfl fun w s=>⟨(),?_,trivial,ak .auto s⟩
   rw[DN h18 heq]
theorem gI{W:World}{b:Nat}{bl:List Nat}{k:Krn}{A:aa}{v:Value}{prio:List Int}{turn:Int}{m:Nat}(hpr:Rd W [A] aq 1 v prio)(hpl:prio.length≤1000000000)(hi:Inv m k)(hm:m≤200000000):Fn Tryz.prog W 38 [ptr b,v,.int .i64 turn] [ba b bl k,A] Unit (fun _=>.int .i64 ((k.share prio turn).2:Int)) (fun _=>True) (fun _=>[ba b bl (k.share prio turn).1,A]):=by
 refine Fn.intro (N:=73) func38 rfl ntmps38 rfl fun F=>?_
 haveI hRI:∀ (H:List aa) [bE H A],aC W H v aq 1 prio:=fun H h=>⟨hpr.at h.has⟩
 show ar _ _ _ _ _ _ [ba b bl k,A,F]
 refine J 10 ?_
 refine .c call37 rfl (iE hpr hpl hi.ok) fun u17 _=>?_
 obtain⟨want,hwt⟩:∃ want,want=k.targets prio turn:=⟨_,rfl⟩
 have htf:=dT hi.ok prio turn
 have hsh:k.share prio turn=cO want 0 (takeFrom want 0 (k,0)):=by rw[hwt];rfl
 rw[← hwt] at htf ⊢
 rw[hsh]
 have hll:=hi.ok.ll
 refine J 17 ?_
 refine .aZ (X:=Nat×Krn×Nat) [8,9,10,12,20,21,22,23,24,25,26,27,28,29,30,31,32,33,34,35,36,37,38,39,40,41,42,43,44,45,46,47] (fun z=>want.length-z.1) (fun z=>z.1≤want.length∧Inv (m+2 * z.2.2) z.2.1∧z.2.2≤64 * z.1∧z.2.1.libs.length=k.libs.length∧z.2.1.owner.length=k.owner.length∧takeFrom want 0 (k,0)=takeFrom (want.drop z.1) z.1 (z.2.1,z.2.2)) (fun z=>[(20,some (.int .i64 (z.1:Int))),(8,some (.int .i64 (z.2.2:Int)))]) (fun z=>[sl aq 1 u17 want,ba b bl z.2.1,A,F]) (0,k,0) ?_ ?_ ?_ ?_
 ·exact⟨Nat.zero_le _,hi,Nat.zero_le _,rfl,rfl,rfl⟩
 ·exact⟨rfl,rfl,trivial⟩
 ·exact fun w s=>aw.kept .auto w s
 rintro⟨n,k1,mv⟩ ⟨hn,hi1,hmv,hl1,ho1,htk⟩
 simp only at hn hi1 hmv hl1 ho1 htk
 refine JD 6 (fun h21=>?_) fun h21=>?_
 ·refine J 6 ?_
  obtain⟨w,hw⟩:=ai (show n<want.length by omega)
  have hw64:=htf.2.1 w (List.mem_of_getElem? hw)
  obtain⟨l,hl⟩:=ai (show n<k1.libs.length by omega)
  have hlo:=hi1.ok.gy l (List.mem_of_getElem? hl)
  refine J 8 ?_
  refine .c call40 rfl dO fun _ _=>?_
  refine .o3 (C:=ba b bl k1) .auto rfl ?_
  rintro vo vl xs ⟨hxb,hxs⟩
  have hxl:=au hxs
  have hbl:=au hxb
  have hxx:=And.intro hxb hxs
  obtain⟨x,hx,hxe,hbx⟩:=cX hxb hxs hl
  rw[aV,hbx]
  subst hxe
  refine .fr .auto (cc (f:=fun x:Nat×Lib=>bJ x.1 x.2) hx) ?_
  refine .o2 (C:=bJ x.1 x.2) .auto rfl ?_
  rintro bs br -
  refine .c call41 rfl (fi (l:=x.2) (Nat.le_trans hlo.vl (by decide))) fun u26 _=>?_
  refine .to (A:=aO (fun x:Nat×Lib=>bJ x.1 x.2) xs) .auto (cC (f:=fun x:Nat×Lib=>bJ x.1 x.2) hx) ?_
  refine .to (A:=ba b bl k1) .auto kk ?_
  refine J 11 ?_
  refine .p (.lr rfl hw) ?_
  refine .p (.mi rfl rfl) ?_
  refine .p (.sliceFrom (min x.2.procs.length w.toNat) underlying50 sizeOf3 rfl rfl Rd.s (by omega) (by omega)) ?_
  obtain⟨ps,hps⟩:∃ ps,ps=x.2.procs.drop w.toNat:=⟨_,rfl⟩
  have hpl64:x.2.procs.length≤64:=Nat.le_trans (jl _ _) hlo.vl
  have hpsl:ps.length≤64:=by rw[hps,List.length_drop];omega
  have hcut:=(Rd.sl (W:=W) (H:=[sl aq 1 u26 x.2.procs]) .here).cut (lo:=min x.2.procs.length w.toNat) (hi:=x.2.procs.length) (by omega) (Nat.le_refl _)
  rw[List.take_length,HO, ← hps] at hcut
  haveI hIc:∀ (H:List aa) [bE H (sl aq 1 u26 x.2.procs)],aC W H (cut 1 (min x.2.procs.length w.toNat) x.2.procs.length u26) aq 1 ps:=fun H h=>⟨hcut.at h.has⟩
  refine J 5 ?_
  refine .aZ (X:=Nat×Krn) [8,12,37,38,39,40,41,42,43,44,45,46] (fun z=>ps.length-z.1) (fun z=>z.1≤ps.length∧Inv (m+2 * (mv+z.1)) z.2∧z.2.libs.length=k.libs.length∧z.2.owner.length=k.owner.length∧eG (ps.drop z.1) z.2=eG ps k1) (fun z=>[(37,some (.int .i64 (z.1:Int))),(8,some (.int .i64 ((mv+z.1:Nat):Int)))]) (fun z=>[sl aq 1 u26 x.2.procs,sl aq 1 u17 want,ba b bl z.2,A,F]) (0,k1) ?_ ?_ ?_ ?_
  ·exact⟨Nat.zero_le _,hi1,hl1,ho1,rfl⟩
  ·exact⟨rfl,rfl,trivial⟩
  ·exact fun w s=>aw.kept .auto w s
  rintro⟨j,k2⟩ ⟨hj,hi2,hl2,ho2,hta⟩
  simp only at hj hi2 hl2 ho2 hta
  refine JD 6 (fun h38=>?_) fun h38=>?_
  ·refine J 6 ?_
   obtain⟨p,hp⟩:=ai (show j<ps.length by omega)
   refine J 9 ?_
   refine .c call32 rfl (xD (k:=k2) hi2.ok (by omega)) fun _ _=>?_
   refine J 4 ?_
   refine .p (.fa (Y.add rfl rfl (by dsimp only;omega)) (show((mv+j:Nat):Int)+1=((mv+(j+1):Nat):Int) from by omega)) ?_
   refine J 8 ?_
   refine .ax (j+1,(k2.take p).2) .auto rfl ?_ ?_ ?_ ?_
   ·show ps.length-(j+1)<ps.length-j;omega
   ·exact⟨by show j+1≤_;omega,hi2.take p,(kR hi2.ok p).1.trans hl2,(kR hi2.ok p).2.trans ho2,by rw[← hta,drop_cons hp];rfl⟩
   ·exact⟨rfl,rfl,trivial⟩
   ·exact fun w s=>aw.kept .auto w s
  ·obtain rfl:j=ps.length:=by omega
   rw[List.drop_length] at hta
   refine J 10 ?_
   refine .ax (n+1,k2,mv+ps.length) .auto rfl ?_ ?_ ?_ ?_
   ·show want.length-(n+1)<want.length-n;omega
   ·exact⟨by show n+1≤_;omega,hi2,by show mv+ps.length≤64 * (n+1);omega,hl2,ho2,by rw[htk,E2 hw hl hps, ← hta];rfl⟩
   ·exact⟨rfl,rfl,trivial⟩
   ·exact fun w s=>aw.kept .auto w s
 ·obtain rfl:n=want.length:=by omega
  rw[List.drop_length,takeFrom] at htk
  have hrm:want≠[]→Room want k1:=fun hne=>by have:=q8 hi (htf.2.2.2 hne) htf.2.2.1;rw[htk] at this;exact this
  rw[htk]
  have hmv5:mv≤512:=by omega
  refine J 14 ?_
  refine .aZ (X:=Nat×Krn×Nat) [8,13,50,51,52,53,54,55,56,57,58,59,60,61,62,63,64,65,66,67,68,69,70,71] (fun z=>want.length-z.1) (fun z=>z.1≤want.length∧Inv (m+2 * z.2.2) z.2.1∧z.2.2≤512+64 * z.1∧z.2.1.libs.length=k.libs.length∧(want≠[]→Room want z.2.1)∧cO want 0 (k1,mv)=cO (want.drop z.1) z.1 (z.2.1,z.2.2)) (fun z=>[(50,some (.int .i64 (z.1:Int))),(8,some (.int .i64 (z.2.2:Int)))]) (fun z=>[sl aq 1 u17 want,ba b bl z.2.1,A,F]) (0,k1,mv) ?_ ?_ ?_ ?_
  ·exact⟨Nat.zero_le _,hi1,by show mv≤512+64 * 0;omega,hl1,hrm,rfl⟩
  ·exact⟨rfl,rfl,trivial⟩
  ·exact fun w s=>aw.kept .auto w s
  rintro⟨n,k3,mv3⟩ ⟨hn3,hi3,hmv3,hl3,hr3,hgv⟩
  simp only at hn3 hi3 hmv3 hl3 hr3 hgv
  refine JD 6 (fun h51=>?_) fun h51=>?_
  ·refine J 6 ?_
   obtain⟨w,hw⟩:=ai (show n<want.length by omega)
   have hw64:=htf.2.1 w (List.mem_of_getElem? hw)
   have hne:want≠[]:=by rintro rfl;simp at hw
   refine J 5 ?_
   refine .aZ (X:=Nat×Krn) [8,13,53,54,55,56,57,58,59,60,61,62,63,64,65,66,67,68,69,70] (fun z=>w.toNat-z.2.owner.count (n:Int)) (fun z=>Inv (m+2 * (mv3+z.1)) z.2∧Room want z.2∧z.2.libs.length=k.libs.length∧z.1+(w.toNat-z.2.owner.count (n:Int))=w.toNat-k3.owner.count (n:Int)∧giveTo (w.toNat-z.2.owner.count (n:Int)) (n:Int) z.2=giveTo (w.toNat-k3.owner.count (n:Int)) (n:Int) k3) (fun z=>[(13,some (.int .i64 (n:Int))),(8,some (.int .i64 ((mv3+z.1:Nat):Int)))]) (fun z=>[sl aq 1 u17 want,ba b bl z.2,A,F]) (0,k3) ?_ ?_ ?_ ?_
   ·exact⟨hi3,hr3 hne,hl3,by simp,rfl⟩
   ·exact⟨rfl,rfl,trivial⟩
   ·exact fun w s=>aw.kept .auto w s
   rintro⟨j,k2⟩ ⟨hi2,hr2,hlk2,hjc,hgt⟩
   simp only at hi2 hr2 hlk2 hjc hgt
   refine J 2 ?_
   refine .draw [sl aq 1 u17 want] [1,1,2,2,1,0,0,0,0,1] rfl (by kernel_rfl) ?_
   have hnl2:n<k2.libs.length:=by omega
   obtain⟨l2,hl2⟩:=ai hnl2
   refine J 2 ?_
   refine .c2 call40 rfl dO fun _ _=>?_
   refine .o3 (C:=ba b bl k2) .auto rfl ?_
   rintro vo vl xs ⟨hxb,hxs⟩
   have hxl:=au hxs
   have hbl:=au hxb
   have hxx:=And.intro hxb hxs
   obtain⟨x,hx,hxe,hbx⟩:=cX hxb hxs hl2
   rw[aV,hbx]
   subst hxe
   refine .fr .auto (cc (f:=fun x:Nat×Lib=>bJ x.1 x.2) hx) ?_
   refine .o2 (C:=bJ x.1 x.2) .auto rfl ?_
   rintro bs br -
   refine .c2 call41 rfl (fi (l:=x.2) (Nat.le_trans (hi2.ok.gy x.2 (List.mem_of_getElem? hl2)).vl (by decide))) fun u56 _=>?_
   refine .to (A:=aO (fun x:Nat×Lib=>bJ x.1 x.2) xs) .auto (cC (f:=fun x:Nat×Lib=>bJ x.1 x.2) hx) ?_
   refine .to (A:=ba b bl k2) .auto kk ?_
   refine J 4 ?_
   refine .q (.lr rfl hw) ?_
   refine JD 3 (fun h62=>?_) fun h62=>?_
   ·have hpc:x.2.procs.length=k2.owner.count (n:Int):=by rw[hi2.ag.procs hl2];exact gT _ _ _
    have hlt:k2.owner.count (n:Int)<w.toNat:=by omega
    obtain⟨i,r,hf,hoi,hmin⟩:=wZ (hr2.free hi2.ok hw hlt)
    have hol:=hi2.ok.ol
    have hfl:k2.free.length≤64:=Nat.le_trans (by rw[show k2.free=posFrom (-1) k2.owner 0 from m3 _ _,gT];exact List.count_le_length) hol
    have hrg:=hr2.dV hw hlt hoi hl2
    refine J 7 ?_
    refine .c call43 rfl (rv (k:=k2) hol) fun u65 _=>?_
    refine .c call95 rfl (OJ (A:=sl aq 1 u65 k2.free) (xs:=k2.free) (Rd.sl .here) (by omega) (by rw[hf];simp)) fun _ _=>?_
    rw[hmin]
    refine J 1 ?_
    refine .c call31 rfl (xE (k:=k2) (p:=(i:Int)) (n:=(n:Int)) hi2.ok (by omega)) fun _ _=>?_
    refine J 4 ?_
    refine .p (.fa (Y.add rfl rfl (by dsimp only;omega)) (show((mv3+j:Nat):Int)+1=((mv3+(j+1):Nat):Int) from by omega)) ?_
    refine J 3 ?_
    refine .ax (j+1,(k2.dV (i:Int) (n:Int)).2) .auto rfl ?_ ?_ ?_ ?_
    ·show w.toNat-(k2.dV (i:Int) (n:Int)).2.owner.count (n:Int)<w.toNat-k2.owner.count (n:Int);rw[hrg.2];omega
    ·exact⟨hi2.dV hoi hl2,hrg.1,hrg.1.len.symm.trans (hr2.len.trans hlk2),by show j+1+(w.toNat-(k2.dV (i:Int) (n:Int)).2.owner.count (n:Int))=_;rw[hrg.2];omega,by show giveTo (w.toNat-(k2.dV (i:Int) (n:Int)).2.owner.count (n:Int)) (n:Int) (k2.dV (i:Int) (n:Int)).2=_;rw[hrg.2, ← hgt,show w.toNat-k2.owner.count (n:Int)=(w.toNat-(k2.owner.count (n:Int)+1))+1 from by omega,giveTo,hf];rfl⟩
    ·exact⟨rfl,rfl,trivial⟩
    ·exact fun w s=>aw.kept .auto w s
   ·have hpc:x.2.procs.length=k2.owner.count (n:Int):=by rw[hi2.ag.procs hl2];exact gT _ _ _
    have hge:w.toNat-k2.owner.count (n:Int)=0:=by omega
    rw[hge] at hjc hgt
    refine J 10 ?_
    refine .ax (n+1,k2,mv3+j) .auto rfl ?_ ?_ ?_ ?_
    ·show want.length-(n+1)<want.length-n;omega
    ·exact⟨by show n+1≤_;omega,hi2,by show mv3+j≤512+64 * (n+1);omega,hlk2,fun _=>hr2,by rw[hgv,ra hw hi3 (by omega), ← hgt, ← hjc];rfl⟩
    ·exact⟨rfl,rfl,trivial⟩
    ·exact fun w s=>aw.kept .auto w s
  ·obtain rfl:n=want.length:=by omega
   rw[List.drop_length,cO] at hgv
   refine J 12 ?_
   rw[hgv]
   exact JR 0 ()
end Go.SLYtpbjdoplfgeliaaGreat
