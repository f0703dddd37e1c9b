/- Walks. Conditions: none. -/
import Derived.Test.YtpbjdoplfgeliaaGreatU07
import Derived.Test.YtpbjdoplfgeliaaGreatProg
import Derived.Test.YtpbjdoplfgeliaaGreatU12
import Derived.KernelRfl
import Derived.Test.YtpbjdoplfgeliaaGreatU06
import Derived.Test.YtpbjdoplfgeliaaGreatU05
set_option maxRecDepth 20000
set_option maxHeartbeats 4000000
namespace Go.SLYtpbjdoplfgeliaaGreat
open Go Go.RowKit Go.Proofs Go.Proofs.Tryz
attribute [local irreducible] ar aR bm bA bH Y
theorem vu{W:World}{b bs br:Nat}{l:Lib}{A:aa}{v:Value}{ts:List Int}(hr:Rd W [A] aq 1 v ts)(htl:ts.length≤1000000)(hl:l.waiting.length≤400000000∧l.vs.length≤1000000000∧ ∀ y∈l.vs,y.evs.length≤400000000):Fn Tryz.prog W 97 [ptr b,v] [bj b bs br l,A] Unit (fun _=>.tuple #[]) (fun _=>True) (fun _=>[bj b bs br (l.tell (aG ts)),A]):=by
 refine Fn.intro (N:=22) func97 rfl ntmps97 rfl fun F=>?_
 haveI hRI:∀ (H:List aa) [bE H A],aC W H v aq 1 ts:=fun H h=>⟨hr.at h.has⟩
 show ar _ _ _ _ _ _ [bj b bs br l,A,F]
 refine J 14 ?_
 refine .aZ (X:=Nat×Value) [4,6,9,10,11,12,13,14,15,16,17,18] (fun z=>ts.length-z.1) (fun z=>z.1≤ts.length) (fun z=>[(9,some (.int .i64 (z.1:Int))),(4,some z.2)]) (fun z=>[sl cf 3 z.2 (aG (ts.take z.1)),bj b bs br l,A,F]) (0,.slice none 0 0) ?_ ?_ ?_ ?_
 ·exact Nat.zero_le _
 ·exact⟨rfl,rfl,trivial⟩
 ·exact fun w s=>aw.kept .auto w s
 rintro⟨k,u⟩ hk
 simp only at hk
 refine JD 6 (fun h10=>?_) fun h10=>?_
 ·refine J 6 ?_
  obtain⟨n,hx⟩:=ai (show k<ts.length by omega)
  refine J 8 ?_
  refine .p (.fY (fun v1 v2=>[v1,v2,(.int .i64 0)]) rfl rfl (by kernel_rfl)) ?_
  refine .aj rfl (af.gj 232 rfl rfl (by kernel_rfl)) ?_
  rintro _ _ ⟨b16,rfl,rfl⟩
  refine .aj rfl (af.fV (enc:=cf) (k:=3) (⟨3,n,0⟩:Ev) rfl underlying165 underlying165 typeInfo232 rfl rfl rfl (by decide) rfl rfl rfl .auto rfl .auto (by unfold aG;rw[List.length_map,List.length_take];omega) rfl) ?_
  rintro _ _ ⟨v17,rfl,rfl⟩
  refine J 8 ?_
  refine .ax (k+1,v17) .auto rfl ?_ ?_ ?_ ?_
  ·show ts.length-(k+1)<ts.length-k;omega
  ·show k+1≤_;omega
  ·exact⟨rfl,rfl,trivial⟩
  ·show ∀ w,Sat _ w _→Sat _ w (seps [sl cf 3 v17 (aG (ts.take (k+1))),bj b bs br l,A,F])
   rw[zT hx]
   exact fun w s=>aw.kept .auto w s
 ·refine J 8 ?_
  obtain rfl:k=ts.length:=by omega
  rw[List.take_length]
  refine .c call136 rfl (nk (l:=l) (A:=sl cf 3 u (aG ts)) (Rd.sl .here) ⟨by rw[gh];omega,hl⟩) fun _ _=>?_
  exact JR 1 ()
theorem zj{W:World}{b:Nat}{bl:List Nat}{k:Krn}{p:Int}{m:Nat}(hk:sA m k):Fn Tryz.prog W 47 [ptr b,.int .i64 p] [ba b bl k] Unit (fun _=>.int .i64 (k.preempt p).1) (fun _=>True) (fun _=>[ba b bl (k.preempt p).2]):=by
 refine Fn.intro (N:=19) func47 rfl ntmps47 rfl fun F=>?_
 show ar _ _ _ _ _ _ [ba b bl k,F]
 refine J 9 ?_
 refine .c call91 rfl (ry hk.ok) fun _ _=>?_
 refine JD 14 (fun h14=>?_) fun h14=>?_
 ·refine .o3 (C:=ba b bl k) .auto rfl ?_
  rintro vo vl xs ⟨hxb,hxs⟩
  have hxl:=au hxs
  have hbl:=au hxb
  have hxx:=And.intro hxb hxs
  obtain⟨i,n,l,rfl,ho,hl, -⟩:=dz hk.ok h14
  obtain⟨x,hx,rfl,hbx⟩:=cX hxb hxs hl
  have hlo:=hk.gy x.2 (List.mem_of_getElem? hl)
  rw[qj ho hl]
  rw[(jD (bl:=bl) ho).2,(jD (bl:=bl) ho).1,hbx]
  refine .fr .auto (cc (f:=fun x:Nat×Lib=>bJ x.1 x.2) hx) ?_
  refine .o2 (C:=bJ x.1 x.2) .auto rfl ?_
  rintro bs br -
  refine J 3 ?_
  refine .c call98 rfl (A4 (l:=x.2) (b:=x.1) (bs:=bs) (br:=br) (p:=(i:Int)) hlo.1) fun _ _=>?_
  refine .to (A:=aO (fun x:Nat×Lib=>bJ x.1 x.2) (xs.set n (x.1,(x.2.preempt (i:Int)).2))) .auto (lD (f:=fun x:Nat×Lib=>bJ x.1 x.2) (x.1,(x.2.preempt (i:Int)).2) hx) ?_
  have hss:=nD hxb hxs hx (x.2.preempt (i:Int)).2
  refine .to (A:=sl cP 1 vl (xs.set n (x.1,(x.2.preempt (i:Int)).2))) (Bs:=[sl cP 1 vl xs]) .auto (qM (hxb.trans hss.1.symm)) ?_
  exact JR 9 ()
 ·refine J 9 ?_
  rw[ng h14]
  exact JR 0 ()
theorem FP{W:World}{b:Nat}{bl:List Nat}{k:Krn}{q c:Int}{m:Nat}(hk:sA m k):Fn Tryz.prog W 46 [ptr b,.int .i64 q,.int .i64 c] [ba b bl k] Unit (fun _=>.int .i64 (k.done q c).1) (fun _=>True) (fun _=>[ba b bl (k.done q c).2]):=by
 refine Fn.intro (N:=27) func46 rfl ntmps46 rfl fun F=>?_
 show ar _ _ _ _ _ _ [ba b bl k,F]
 refine J 9 ?_
 refine .c call40 rfl dO fun _ _=>?_
 refine JD 10 (fun h14=>?_) fun h14=>?_
 ·refine .o3 (C:=ba b bl k) .auto rfl ?_
  rintro vo vl xs ⟨hxb,hxs⟩
  have hxl:=au hxs
  have hbl:=au hxb
  have hxx:=And.intro hxb hxs
  rw[qk (Il (mP hxb hxs) h14)]
  exact JR 7 ()
 ·refine .o3 (C:=ba b bl k) .auto rfl ?_
  rintro vo vl xs ⟨hxb,hxs⟩
  have hxl:=au hxs
  have hbl:=au hxb
  have hxx:=And.intro hxb hxs
  obtain⟨j,x,rfl,hx,hl,hbx⟩:=Im hxb hxs h14
  have hlo:=hk.gy x.2 (List.mem_of_getElem? hl)
  have hdw:=oQ x.2.aI c
  rw[nh hl,aV,hbx]
  refine .fr .auto (cc (f:=fun x:Nat×Lib=>bJ x.1 x.2) hx) ?_
  refine .o2 (C:=bJ x.1 x.2) .auto rfl ?_
  rintro bs br -
  refine J 5 ?_
  refine .c call53 rfl (ir (b:=x.1) (bs:=bs) (br:=br) (l:=x.2)) fun _ _=>?_
  refine J 1 ?_
  refine .o2 (C:=bj x.1 bs br x.2) .auto rfl ?_
  rintro vv vw -
  refine .c call23 rfl (FH (b:=bs) (s:=x.2.aI) (k:=c) hlo.1.sp) fun u19 _=>?_
  refine .cM (fun w s=>Rd.isSl (Rd.sl .auto) w s) fun hu19=>?_
  refine J 1 ?_
  refine .p (.extract (v:=.agg (oE u19 (x.2.aI.done c).1).toArray) rfl rfl) ?_
  refine .p (.extract (v:=.int .i64 (x.2.aI.done c).2.1) rfl rfl) ?_
  refine .aj rfl (af.alloc rfl zeroValue57 rfl) ?_
  rintro _ _ ⟨b8,rfl,rfl⟩
  refine .aj rfl (af.iy (vs:=oE u19 (x.2.aI.done c).1) (by exact sizeOf57) rfl rfl (DQ hu19) (by rfl)) ?_
  rintro _ _ ⟨rfl,rfl⟩
  refine J 8 ?_
  refine .c call97 rfl (vu (l:=({x.2 with aI:=(x.2.aI.done c).2.2 }:Lib)) (b:=x.1) (bs:=bs) (br:=br) (A:=sl aq 1 u19 (x.2.aI.done c).1.av) (Rd.sl .here) (by omega) ⟨Nat.le_trans hlo.1.wt (by decide),Nat.le_trans hlo.1.vl (by decide),fun y hy=>Nat.le_trans (hlo.1.ev y hy) (by decide)⟩) fun _ _=>?_
  refine .to (A:=aO (fun x:Nat×Lib=>bJ x.1 x.2) (xs.set j (x.1,(x.2.fG c)))) .auto (lD (f:=fun x:Nat×Lib=>bJ x.1 x.2) (x.1,(x.2.fG c)) hx) ?_
  have hss:=nD hxb hxs hx (x.2.fG c)
  refine .to (A:=sl cP 1 vl (xs.set j (x.1,(x.2.fG c)))) (Bs:=[sl cP 1 vl xs]) .auto (qM (hxb.trans hss.1.symm)) ?_
  exact JR 9 ()
theorem FQ{W:World}{b:Nat}{bl:List Nat}{k:Krn}{m:Nat}(hk:sA m k):Fn Tryz.prog W 45 [ptr b] [ba b bl k] Unit (fun _=>.tuple #[]) (fun _=>True) (fun _=>[ba b bl k.tick]):=by
 refine Fn.intro (N:=27) func45 rfl ntmps45 rfl fun F=>?_
 show ar _ _ _ _ _ _ [ba b bl k,F]
 have hll:=hk.ok.ll
 refine J 3 ?_
 refine .c call57 rfl iR fun _ _=>?_
 refine J 4 ?_
 refine .aZ (X:=Nat) [2,5,6,7,8,9,10,11,12,13,14,15,16,17,18,19,20,21,22,23,24,25,26] (fun j=>k.libs.length-j) (fun j=>j≤k.libs.length) (fun j=>[(5,some (.int .i64 (j:Int)))]) (fun j=>[ba b bl (k.ni j),F]) 0 ?_ ?_ ?_ ?_
 ·exact Nat.zero_le _
 ·exact⟨rfl,trivial⟩
 ·rw[Fj];exact fun w s=>aw.kept .auto w s
 rintro j hj
 refine JD 6 (fun h6=>?_) fun h6=>?_
 ·obtain⟨l,hl⟩:=ai (show j<k.libs.length by omega)
  have hlt:=Kt hl
  refine .o3 (C:=ba b bl (k.ni j)) .auto rfl ?_
  rintro vo vl xs ⟨hxb,hxs⟩
  have hxx:=And.intro hxb hxs
  obtain⟨x,hx,rfl,hbx⟩:=cX hxb hxs hlt
  have hil:=(List.getElem?_eq_some_iff.1 hx).1
  have hlo:=hk.gy x.2 (List.mem_of_getElem? hl)
  have hdu:=Nat.le_trans (pR x.2.aI.aT) hlo.1.sp.wl
  have hst:=Ik hl
  refine J 10 ?_
  refine .draw [arr b 0 [vo,vl],sl cP 1 vl xs] [0,0,0,0,0,0,0,1,1,1,1,1,1,1,2,2,1,3] rfl (by kernel_rfl) ?_
  refine J 5 ?_
  refine .q (.ix j rfl rfl rfl hil) ?_
  refine .q (.lr rfl hx) ?_
  refine J 5 ?_
  refine .p (.ix j rfl rfl rfl hil) ?_
  refine .p (.lr rfl hx) ?_
  refine .fr .auto (cc (f:=fun x:Nat×Lib=>bJ x.1 x.2) hx) ?_
  refine .o2 (C:=bJ x.1 x.2) .auto rfl ?_
  rintro bs br -
  refine .c2 call53 rfl (ir (b:=x.1) (bs:=bs) (br:=br) (l:=x.2)) fun _ _=>?_
  refine .o2 (C:=bj x.1 bs br x.2) .auto rfl ?_
  rintro vv vw -
  refine .c2 call24 rfl (FJ (b:=bs) (s:=x.2.aI) hlo.1.sp) fun u23 _=>?_
  refine .p (.field 0 50 underlying57 rfl isAgg50 rfl rfl) ?_
  refine .c call97 rfl (vu (l:=({x.2 with aI:=x.2.aI.tick.2 }:Lib)) (b:=x.1) (bs:=bs) (br:=br) (A:=sl aq 1 u23 x.2.aI.aT.due) (Rd.sl .here) hdu ⟨Nat.le_trans hlo.1.wt (by decide),Nat.le_trans hlo.1.vl (by decide),fun y hy=>Nat.le_trans (hlo.1.ev y hy) (by decide)⟩) fun _ _=>?_
  refine .to (A:=aO (fun x:Nat×Lib=>bJ x.1 x.2) (xs.set j (x.1,x.2.cF))) .auto (lD (f:=fun x:Nat×Lib=>bJ x.1 x.2) (x.1,x.2.cF) hx) ?_
  have hss:=nD hxb hxs hx x.2.cF
  refine .to (A:=sl cP 1 vl (xs.set j (x.1,x.2.cF))) (Bs:=[sl cP 1 vl xs]) .auto (qM (hxb.trans hss.1.symm)) ?_
  rw[hst] at hss
  refine J 7 ?_
  refine .ax (j+1) .auto rfl ?_ ?_ ?_ ?_
  ·omega
  ·show j+1≤_;omega
  ·exact⟨rfl,trivial⟩
  ·exact fun w s=>aw.kept .auto w s
 ·refine J 4 ?_
  obtain rfl:j=k.libs.length:=by omega
  rw[Ij]
  exact JR 0 ()
end Go.SLYtpbjdoplfgeliaaGreat
namespace Go.SLYtpbjdoplfgeliaaGreat
open Go Go.RowKit
def D4(b:Nat)(s:Sy):aa:=ot (fun _ _=>True) fun(kb:Nat) (bl:List Nat)=>[gK b kb bl s]
theorem do_1{s:Sy}{x:oo}(h:x.kind=1):s.do x=s.rX x.a x.b:=by unfold Sy.do;rw[if_pos h]
theorem OR{s:Sy}{x:oo}(h1:¬x.kind=1)(h:x.kind=2):s.do x=(0,s.wQ):=by unfold Sy.do;rw[if_neg h1,if_pos h]
theorem NV{s:Sy}{x:oo}(h1:¬x.kind=1)(h2:¬x.kind=2)(h:x.kind=3):s.do x=s.ob x.a x.b:=by unfold Sy.do;rw[if_neg h1,if_neg h2,if_pos h]
theorem OS{s:Sy}{x:oo}(h1:¬x.kind=1)(h2:¬x.kind=2)(h3:¬x.kind=3)(h:x.kind=4):s.do x=((s.k.preempt x.a).1,⟨(s.k.preempt x.a).2,s.prio,s.turn,s.log⟩):=by unfold Sy.do;rw[if_neg h1,if_neg h2,if_neg h3,if_pos h]
theorem NW{s:Sy}{x:oo}(h1:¬x.kind=1)(h2:¬x.kind=2)(h3:¬x.kind=3)(h4:¬x.kind=4)(h:x.kind=5):s.do x=(0,⟨s.k,s.prio,x.a,s.log⟩):=by unfold Sy.do;rw[if_neg h1,if_neg h2,if_neg h3,if_neg h4,if_pos h]
theorem NX{s:Sy}{x:oo}(h1:¬x.kind=1)(h2:¬x.kind=2)(h3:¬x.kind=3)(h4:¬x.kind=4)(h5:¬x.kind=5)(h:x.kind=6):s.do x=(0,⟨(s.k.share s.prio s.turn).1,s.prio,s.turn,s.log⟩):=by unfold Sy.do;rw[if_neg h1,if_neg h2,if_neg h3,if_neg h4,if_neg h5,if_pos h]
theorem OT{s:Sy}{x:oo}(h1:¬x.kind=1)(h2:¬x.kind=2)(h3:¬x.kind=3)(h4:¬x.kind=4)(h5:¬x.kind=5)(h6:¬x.kind=6):s.do x=(1,s):=by unfold Sy.do;rw[if_neg h1,if_neg h2,if_neg h3,if_neg h4,if_neg h5,if_neg h6]
theorem rz{s:Sy}{p c:Int}(h:(s.k.step p c).1.2.1.aJ=true):(s.rX p c).2=⟨(s.k.step p c).2,s.prio,s.turn,s.log++[⟨1,(s.k.step p c).1.1,(s.k.step p c).1.2.1.slot,c⟩]⟩:=by unfold Sy.rX ko;rw[if_pos h]
theorem vx{s:Sy}{p c:Int}(h:(s.k.step p c).1.2.1.aJ=false):(s.rX p c).2=⟨(s.k.step p c).2,s.prio,s.turn,s.log⟩:=by unfold Sy.rX ko;rw[if_neg (by rw[h];simp),List.append_nil]
theorem FR{s:Sy}{n c:Int}(h:(s.k.done n c).1=0):(s.ob n c).2=⟨(s.k.done n c).2,s.prio,s.turn,s.log++[⟨2,n,0,c⟩]⟩:=by unfold Sy.ob;rw[if_pos h]
theorem I8{s:Sy}{n c:Int}(h:¬(s.k.done n c).1=0):(s.ob n c).2=⟨(s.k.done n c).2,s.prio,s.turn,s.log⟩:=by unfold Sy.ob;rw[if_neg h,List.append_nil]
def Sy.aA(s:Sy)(n:Int):List Rec:=match aL s.k.libs n with | none=>[] | some l=>l.aI.aA
def Sy.mem(s:Sy)(n:Int):List Int:=match aL s.k.libs n with | none=>[] | some l=>l.aI.mem
theorem KW{s:Sy}{n:Int}(h:aL s.k.libs n=none):s.aA n=[]∧s.mem n=[]:=by unfold Sy.aA Sy.mem;rw[h];exact⟨rfl,rfl⟩
theorem KX{s:Sy}{j:Nat}{l:Lib}(h:s.k.libs[j]?=some l):s.aA (j:Int)=l.aI.aA∧s.mem (j:Int)=l.aI.mem:=by unfold Sy.aA Sy.mem;rw[aV,h];exact⟨rfl,rfl⟩
end Go.SLYtpbjdoplfgeliaaGreat
namespace Go.SLYtpbjdoplfgeliaaGreat
open Go Go.RowKit
def Py(b:Nat)(k:Krn)(prio:List Int):aa:=ot (fun _ _=>True) fun(kb:Nat) (v:Value)=>[arr b 0 [ptr kb,v,.int .i64 0,.slice none 0 0],tH kb k,sl aq 1 v prio]
def OU:Krn:=Krn.new 1 [HP,HP]
def OV:Krn:=(OU.share [0,0] 0).1
def Pz:Lib:=OV.libs.getD 0 BH
def PA:Lib:=OV.libs.getD 1 BH
def PB(k:Krn):Bool:=k.libs.all fun l=>l.vs.all (fun v=>decide (v.evs.length≤1000000)) && decide (l.waiting.length≤1000000) && decide (l.rows.length≤64) && l.rows.all (fun r=>decide (r.length≤1000000))
theorem xI{ps:List bc}{n:Nat}{x:bc}(h:ps[n]?=some x):(ps.take (n+1)).map (·.prio)=(ps.take n).map (·.prio)++[x.prio]:=by rw[aW h,List.map_append];rfl
end Go.SLYtpbjdoplfgeliaaGreat
namespace Go.SLYtpbjdoplfgeliaaGreat
open Go Go.RowKit Go.Proofs Go.Proofs.Tryz
attribute [local irreducible] ar aR bm bA bH Y
theorem Be{W:World}{A:aa}{v:Value}{ps:List bc}{procs:Int}(hr:Rd W [A] eT 8 v ps)(hp:∀ p∈ps,eY W [A] p)(hb:ps.length≤1000000000∧ ∀ p∈ps,p.fs.length≤1000000000∧p.bK.length≤1000000000∧p.bf.length≤1000000000):Fn Tryz.prog W 8 [.int .i64 procs,v] [A] (Option Nat) (fun o=>.tuple #[ed o,.int .i64 (dF procs (ps.map bc.p))]) (fun o=>o.isSome=decide (dF procs (ps.map bc.p)=0)) (fun o=>[optH (fun b=>D4 b (Sy.new procs (ps.map bc.p))) o,A]):=by
 refine Fn.intro (N:=48) func8 rfl ntmps8 rfl fun F=>?_
 haveI hRI:∀ (H:List aa) [bE H A],aC W H v eT 8 ps:=fun H h=>⟨hr.at h.has⟩
 show ar _ _ _ _ _ _ [A,F]
 have hml:(ps.map bc.p).length=ps.length:=List.length_map ..
 have hpm:(ps.map bc.p).map (·.prio)=ps.map (·.prio):=by rw[List.map_map];rfl
 refine J 10 ?_
 refine .c call29 rfl (vk hr hp hb) fun o ho=>?_
 refine JD 14 (fun h18=>?_) fun h18=>?_
 ·refine J 9 ?_
  refine .eE rfl rfl rfl fun w s=>⟨none,?_,(decide_eq_false h18).symm,ak (by repeat (first | exact aw.nil | (apply aw.cons; · repeat (first | exact Take.here | apply Take.there)) | apply aw.JJ | apply aw.JK | apply aw.void | apply aw.JH | apply aw.two | (apply aw.GD; · exact iw) | (apply aw.allM; · exact fun _=>iw) | apply aw.f1 rfl | apply aw.f2 rfl | apply aw.f3 rfl | apply aw.f4 rfl | apply aw.f10 rfl | apply aw.eX | assumption | exact trivial | rfl | omega | (focus (obtain⟨rfl⟩:o=none:=by simpa [h18] using ho)))) s⟩
  rfl
 ·have h18:=Decidable.of_not_not h18
  obtain⟨kb,rfl⟩:=Option.isSome_iff_exists.1 (ho.trans (decide_eq_true h18))
  have hi:=(gU h18).1
  have hps8:ps.length≤8:=by have:=(gU h18).2.2.2.2.2;omega
  refine .fr (A:=optH (fun b=>tH b (Krn.new procs (ps.map bc.p))) (some kb)) (Bs:=[tH kb (Krn.new procs (ps.map bc.p))]) .auto iJ ?_
  refine .o1 (C:=tH kb (Krn.new procs (ps.map bc.p))) .auto rfl ?_
  rintro bl -
  refine J 5 ?_
  refine .p (.gX (fun v1=>[v1,(.slice none 0 0),(.int .i64 0),(.slice none 0 0)]) rfl (by kernel_rfl)) ?_
  refine .aj rfl (af.box rfl rfl rfl) ?_
  rintro _ _ ⟨b22,rfl,rfl⟩
  refine J 12 ?_
  refine .aZ (X:=Nat×Value) [10,25,26,27,28,29,30,31,32,33,34,35,36,37,38,39,40] (fun z=>ps.length-z.1) (fun z=>z.1≤ps.length) (fun z=>[(25,some (.int .i64 (z.1:Int)))]) (fun z=>[arr b22 0 [ptr kb,z.2,.int .i64 0,.slice none 0 0],sl aq 1 z.2 ((ps.take z.1).map (·.prio)),ba kb bl (Krn.new procs (ps.map bc.p)),A,F]) (0,.slice none 0 0) ?_ ?_ ?_ ?_
  ·exact Nat.zero_le _
  ·exact⟨rfl,trivial⟩
  ·exact fun w s=>aw.kept .auto w s
  rintro⟨n,u⟩ hn
  simp only at hn
  refine JD 6 (fun h26=>?_) fun h26=>?_
  ·refine J 6 ?_
   obtain⟨x,hx⟩:=ai (show n<ps.length by omega)
   have hpx:=hp x (List.mem_of_getElem? hx)
   refine .cM (fun w s=>Dh hpx .auto w s) fun hone=>?_
   refine J 1 ?_
   refine .p (.la rfl (Cells.rd Rd.s hx)) ?_
   refine .aj rfl (af.alloc rfl zeroValue52 rfl) ?_
   rintro _ _ ⟨b10,rfl,rfl⟩
   refine .aj rfl (af.Jr (by exact sizeOf52) rfl rfl hone rfl) ?_
   rintro _ _ ⟨rfl,rfl⟩
   refine J 2 ?_
   refine .draw [arr b22 0 [ptr kb,u,.int .i64 0,.slice none 0 0],arr b10 0 (eT x)] [0,0,0,0,0,1,1,2,2,1,1,3] rfl (by kernel_rfl) ?_
   refine J 7 ?_
   refine .d2 rfl Kept.auto (af.gj 3 rfl rfl (by kernel_rfl)) (by rintro _ _ ⟨b36,rfl,rfl⟩;exact Kept.auto) ?_
   rintro _ _ ⟨b36,rfl,rfl⟩
   refine .d2 rfl Kept.auto (af.fV (enc:=aq) (k:=1) x.prio rfl underlying50 underlying50 typeInfo3 rfl rfl rfl (by decide) rfl rfl rfl .auto rfl .auto (by rw[List.length_map,List.length_take];omega) rfl) (by rintro _ _ ⟨v37,rfl,rfl⟩;exact Kept.auto) ?_
   rintro _ _ ⟨v37,rfl,rfl⟩
   refine J 2 ?_
   refine .d3 rfl (af.mC sizeOf50 rfl rfl rfl) ?_
   rintro _ _ ⟨rfl,rfl⟩
   refine J 7 ?_
   refine .ax (n+1,v37) .auto rfl ?_ ?_ ?_ ?_
   ·show ps.length-(n+1)<ps.length-n;omega
   ·show n+1≤_;omega
   ·exact⟨rfl,trivial⟩
   ·show ∀ w,Sat _ w _→Sat _ w (seps [_,sl aq 1 v37 ((ps.take (n+1)).map (·.prio)),_,A,F])
    rw[xI hx]
    exact fun w s=>aw.kept .auto w s
  ·obtain rfl:n=ps.length:=by omega
   rw[List.take_length]
   refine J 12 ?_
   refine .c call38 rfl (gI (A:=sl aq 1 u (ps.map (·.prio))) (prio:=(ps.map (·.prio))) (turn:=0) (Rd.sl .here) (by rw[List.length_map];omega) hi (by decide)) fun _ _=>?_
   refine J 10 ?_
   rw[show Sy.new procs (ps.map bc.p)=⟨((Krn.new procs (ps.map bc.p)).share (ps.map (·.prio)) 0).1,(ps.map (·.prio)),0,[]⟩ from by unfold Sy.new;rw[hpm]]
   refine .eE rfl rfl rfl fun w s=>⟨some b22,?_,(decide_eq_true h18).symm,ak .auto s⟩
   rw[h18];rfl
theorem dC{W:World}{b kb:Nat}{bl:List Nat}{s:Sy}:Fn Tryz.prog W 18 [ptr b] [gK b kb bl s] Unit (fun _=>ptr kb) (fun _=>True) (fun _=>[gK b kb bl s]):=by
 refine Fn.intro (N:=9) func18 rfl ntmps18 rfl fun F=>?_
 show ar _ _ _ _ _ _ [gK b kb bl s,F]
 refine .o2 (C:=gK b kb bl s) .auto rfl ?_
 rintro v vl -
 refine J 12 ?_
 refine .ep rfl ?_
 exact JR 12 ()
theorem I9{W:World}{b kb:Nat}{bl:List Nat}{s:Sy}{p c:Int}{m:Nat}(hk:sA m s.k)(hl:s.log.length≤1000000):Fn Tryz.prog W 44 [ptr b,.int .i64 p,.int .i64 c] [gK b kb bl s] Unit (fun _=>.int .i64 (s.rX p c).1) (fun _=>True) (fun _=>[gK b kb bl (s.rX p c).2]):=by
 refine Fn.intro (N:=38) func44 rfl ntmps44 rfl fun F=>?_
 show ar _ _ _ _ _ _ [gK b kb bl s,F]
 refine .o2 (C:=gK b kb bl s) .auto rfl ?_
 rintro v vl -
 refine J 13 ?_
 refine .c call33 rfl (xF (k:=s.k) (b:=kb) (bl:=bl) (p:=p) (c:=c) hk) fun u17 _=>?_
 refine .cM (fun w s=>Rd.isSl (Rd.sl .auto) w s) fun hu17=>?_
 refine J 1 ?_
 refine .p (.extract (v:=.int .i64 (s.k.step p c).1.1) rfl rfl) ?_
 refine .p (.extract (v:=.agg (dy u17 (s.k.step p c).1.2.1).toArray) rfl rfl) ?_
 refine .p (.extract (v:=.int .i64 (s.k.step p c).1.2.2) rfl rfl) ?_
 refine .aj rfl (af.alloc rfl zeroValue75 rfl) ?_
 rintro _ _ ⟨b8,rfl,rfl⟩
 refine J 1 ?_
 refine .aj rfl (af.iy (vs:=dy u17 (s.k.step p c).1.2.1) (by exact sizeOf75) rfl rfl (dh hu17) (by rfl)) ?_
 rintro _ _ ⟨rfl,rfl⟩
 refine JD 10 (fun h22=>?_) fun h22=>?_
 ·refine .draw [arr b 0 [ptr kb,v,.int .i64 s.turn,vl],arr b8 0 (dy u17 (s.k.step p c).1.2.1)] [0,0,0,0,0,1,1,1,1,1,2,2,1,1,3] rfl (by kernel_rfl) ?_
  refine J 9 ?_
  refine .p (.Gf (fun v1 v2 v3 v4=>[v1,v2,v3,v4]) rfl rfl rfl rfl (by kernel_rfl)) ?_
  refine .d2 rfl Kept.auto (af.gj 55 rfl rfl (by kernel_rfl)) (by rintro _ _ ⟨b33,rfl,rfl⟩;exact Kept.auto) ?_
  rintro _ _ ⟨b33,rfl,rfl⟩
  refine .d2 rfl Kept.auto (af.fV (enc:=H2) (k:=4) (⟨1,(s.k.step p c).1.1,(s.k.step p c).1.2.1.slot,c⟩:k7) rfl underlying36 underlying36 typeInfo55 rfl rfl rfl (by decide) rfl rfl rfl .auto rfl .auto (by omega) rfl) (by rintro _ _ ⟨v34,rfl,rfl⟩;exact Kept.auto) ?_
  rintro _ _ ⟨v34,rfl,rfl⟩
  refine J 2 ?_
  refine .d3 rfl (af.mC sizeOf36 rfl rfl rfl) ?_
  rintro _ _ ⟨rfl,rfl⟩
  refine J 9 ?_
  rw[rz h22]
  exact JR 0 ()
 ·refine J 9 ?_
  rw[vx h22]
  exact JR 0 ()
theorem mf{W:World}{b kb:Nat}{bl:List Nat}{s:Sy}{x:oo}{m:Nat}(hk:sA m s.k)(hi:Inv m s.k)(hm:m≤2000000)(hl:s.log.length≤1000000)(hp:s.prio.length≤1000):Fn Tryz.prog W 11 [ptr b,.agg (nW x).toArray] [gK b kb bl s] Unit (fun _=>.int .i64 (s.do x).1) (fun _=>True) (fun _=>[gK b kb bl (s.do x).2]):=by
 refine Fn.intro (N:=94) func11 rfl ntmps11 rfl fun F=>?_
 show ar _ _ _ _ _ _ [gK b kb bl s,F]
 refine J 2 ?_
 refine .aj rfl (af.box rfl rfl rfl) ?_
 rintro _ _ ⟨b3,rfl,rfl⟩
 refine .mem (H':=[arr b3 0 (nW x),gK b kb bl s,F]) (fun w s=>s) ?_
 refine J 10 ?_
 refine .ep rfl ?_
 refine JD 21 (fun h10=>?_) fun h10=>?_
 ·refine J 6 ?_
  refine .c call44 rfl (I9 (s:=s) (p:=x.a) (c:=x.b) hk hl) fun _ _=>?_
  refine J 11 ?_
  rw[do_1 h10]
  exact JR 0 ()
 ·refine JD 6 (fun h18=>?_) fun h18=>?_
  ·refine J 2 ?_
   refine .o2 (C:=gK b kb bl s) .auto rfl ?_
   rintro v vl -
   refine J 4 ?_
   refine .c call45 rfl (FQ (k:=s.k) (b:=kb) (bl:=bl) hk) fun _ _=>?_
   refine J 8 ?_
   refine .p (.gX (fun v1=>[v1,(.int .i64 0),(.int .i64 0),(.int .i64 0)]) rfl (by kernel_rfl)) ?_
   refine .aj rfl (af.gj 55 rfl rfl (by kernel_rfl)) ?_
   rintro _ _ ⟨b31,rfl,rfl⟩
   refine .aj rfl (af.fV (enc:=H2) (k:=4) (⟨3,0,0,0⟩:k7) rfl underlying36 underlying36 typeInfo55 rfl rfl rfl (by decide) rfl rfl rfl .auto rfl .auto (by omega) rfl) ?_
   rintro _ _ ⟨v32,rfl,rfl⟩
   refine J 2 ?_
   refine .aj rfl (af.mC sizeOf36 rfl rfl rfl) ?_
   rintro _ _ ⟨rfl,rfl⟩
   refine J 10 ?_
   rw[OR h10 h18]
   exact JR 0 ()
  ·refine JD 6 (fun h35=>?_) fun h35=>?_
   ·refine J 1 ?_
    refine .draw [] [1,1,1,1,1,1,1,1,3,1] rfl (by kernel_rfl) ?_
    refine .o2 (C:=gK b kb bl s) .auto rfl ?_
    rintro v vl -
    refine J 8 ?_
    refine .c call46 rfl (FP (k:=s.k) (b:=kb) (bl:=bl) (q:=x.a) (c:=x.b) hk) fun _ _=>?_
    refine JD 9 (fun h47=>?_) fun h47=>?_
    ·refine .draw [arr b 0 [ptr kb,v,.int .i64 s.turn,vl],arr b3 0 (nW x)] [0,0,0,0,0,1,1,1,1,1,2,2,1,1,3] rfl (by kernel_rfl) ?_
     refine J 9 ?_
     refine .p (.vM (fun v1 v2 v3=>[v1,v2,(.int .i64 0),v3]) rfl rfl rfl (by kernel_rfl)) ?_
     refine .d2 rfl Kept.auto (af.gj 55 rfl rfl (by kernel_rfl)) (by rintro _ _ ⟨b58,rfl,rfl⟩;exact Kept.auto) ?_
     rintro _ _ ⟨b58,rfl,rfl⟩
     refine .d2 rfl Kept.auto (af.fV (enc:=H2) (k:=4) (⟨2,x.a,0,x.b⟩:k7) rfl underlying36 underlying36 typeInfo55 rfl rfl rfl (by decide) rfl rfl rfl .auto rfl .auto (by omega) rfl) (by rintro _ _ ⟨v59,rfl,rfl⟩;exact Kept.auto) ?_
     rintro _ _ ⟨v59,rfl,rfl⟩
     refine J 2 ?_
     refine .d3 rfl (af.mC sizeOf36 rfl rfl rfl) ?_
     rintro _ _ ⟨rfl,rfl⟩
     refine J 10 ?_
     rw[NV h10 h18 h35,FR h47]
     exact JR 0 ()
    ·refine J 10 ?_
     rw[NV h10 h18 h35,I8 h47]
     exact JR 0 ()
   ·refine JD 6 (fun h62=>?_) fun h62=>?_
    ·refine .draw [] [1,1,1,1,1,1,3,1] rfl (by kernel_rfl) ?_
     refine .o2 (C:=gK b kb bl s) .auto rfl ?_
     rintro v vl -
     refine J 6 ?_
     refine .c call47 rfl (zj (k:=s.k) (b:=kb) (bl:=bl) (p:=x.a) hk) fun _ _=>?_
     refine J 11 ?_
     rw[OS h10 h18 h35 h62]
     exact JR 0 ()
    ·refine JD 6 (fun h71=>?_) fun h71=>?_
     ·refine J 1 ?_
      refine .o2 (C:=gK b kb bl s) .auto rfl ?_
      rintro v vl -
      refine J 16 ?_
      rw[NW h10 h18 h35 h62 h71]
      exact JR 0 ()
     ·refine JD 6 (fun h78=>?_) fun h78=>?_
      ·refine .draw [] [1,1,1,1,1,1,1,1,1,1,1,1,3] rfl (by kernel_rfl) ?_
       refine .o2 (C:=gK b kb bl s) .auto rfl ?_
       rintro v vl -
       refine J 12 ?_
       refine .c call38 rfl (gI (k:=s.k) (b:=kb) (bl:=bl) (A:=sl aq 1 v s.prio) (v:=v) (prio:=s.prio) (turn:=s.turn) (Rd.sl .here) (by omega) hi (by omega)) fun _ _=>?_
       refine J 10 ?_
       rw[NX h10 h18 h35 h62 h71 h78]
       exact JR 0 ()
      ·refine J 12 ?_
       rw[OT h10 h18 h35 h62 h71 h78]
       exact JR 0 ()
end Go.SLYtpbjdoplfgeliaaGreat
namespace Go.SLYtpbjdoplfgeliaaGreat
open Go Go.RowKit
theorem FT{k:Krn}{n c:Int}(h:(k.done n c).1≠0):(k.done n c).2=k:=by
 cases e:aL k.libs n with
 | none=>rw[qk e]
 | some l =>
  obtain⟨h0, -,hl⟩:=ck e
  obtain⟨j,rfl⟩:∃ j:Nat,n=(j:Int):=⟨n.toNat,by omega⟩
  rw[Int.toNat_natCast] at hl
  rw[nh hl] at h ⊢
  have hs:(l.aI.done c).1=lG.z∧(l.aI.done c).2.2=l.aI:=by
   simp only at h
   unfold Spc.done at h ⊢
   simp only at h ⊢
   split
   ·exact⟨rfl,rfl⟩
   ·rename_i h3;rw[if_neg h3] at h;exact absurd rfl h
  have:l.fG c=l:=by
   unfold Lib.fG
   rw[hs.1,hs.2]
   exact jC l
  show(⟨k.owner,k.libs.set j (l.fG c)⟩:Krn)=k
  rw[this,gP hl]
theorem zk(k:Krn)(p:Int):(k.preempt p).2.libs.length=k.libs.length:=by
 unfold Krn.preempt
 split
 ·rfl
 ·split
  ·rfl
  ·split
   ·rfl
   ·exact List.length_set ..
theorem FU(k:Krn)(n c:Int):(k.done n c).2.libs.length=k.libs.length:=by
 unfold Krn.done
 split
 ·rfl
 ·exact List.length_set ..
structure PC(s:Sy)(x:oo)(r:List k7):Prop where
 log:(s.do x).2.log=s.log++r
 one:r.length≤1
 err:(s.do x).1≠0→r.length=0
 no:x.kind=5∨x.kind=6∨x.kind=4→r.length=0
 tick:x.kind=2→r.length=1
 done:x.kind=3→(s.do x).1=0→r.length=1
theorem zl{m:Nat}{s:Sy}(hi:Inv m s.k)(x:oo):(s.do x).2.k.libs.length=s.k.libs.length:=by
 unfold Sy.do
 split
 ·exact rj _ _ _
 ·split
  ·exact List.length_map ..
  ·split
   ·exact FU _ _ _
   ·split
    ·exact zk _ _
    ·split
     ·rfl
     ·split
      ·exact(dH hi _ _).2.ll
      ·rfl
end Go.SLYtpbjdoplfgeliaaGreat
namespace Go.SLYtpbjdoplfgeliaaGreat
open Go Go.RowKit
section
variable{W:World}{H:List aa}{α:Type}
theorem Rd.Lq{enc:α→List Value}{k:Nat}{v:Value}{xs:List α}{n:Nat}(h2:n≤xs.length)(h:Rd W H enc k v xs):Rd W H enc k (Go.SLYtpbjdoplfgeliaaGreat.cut k 0 n v) (xs.take n):=by
 have:=h.cut (Nat.zero_le n) h2
 rwa [List.drop_zero] at this
end
end Go.SLYtpbjdoplfgeliaaGreat
namespace Go.SLYtpbjdoplfgeliaaGreat
open Go Go.RowKit
theorem CX{bl:List Nat}{ls:List Lib}{n:Int}(hb:bl.length=ls.length)(h:aL ls n=none):aL bl n=none:=by
 unfold aL at *
 split at h
 ·rename_i h0;rw[if_pos h0]
 ·rename_i h0
  rw[if_neg h0]
  rw[List.getElem?_eq_none_iff] at h ⊢
  omega
/-! law 19's own fact -/
def OW:List Ins:=[⟨1,1,0,0,5⟩,⟨38,1,0,0,0⟩]
def Pc:gn:=⟨[OW],0,0,0,[],[],0,0⟩
def OX(x y:Nat):bc:=⟨zp y 1,[(.slice (some ⟨x,0,none⟩) 2 2,OW)],0,0,0,.slice none 0 0,[],.slice none 0 0,[],0,0⟩
def PT(x y z:Nat):aa:=seps [arr z 0 (eT (OX x y)),arr y 0 [.slice (some ⟨x,0,none⟩) 2 2],arr x 0 (rows dM OW)]
def PD:Nat→Sy
 | 0=>Sy.new 2 [Pc]
 | n+1=>((PD n).do ⟨1,0,4⟩).2
end Go.SLYtpbjdoplfgeliaaGreat
namespace Go.SLYtpbjdoplfgeliaaGreat
open Go Go.RowKit Go.Proofs Go.Proofs.Tryz
attribute [local irreducible] ar aR bm bA bH Y
theorem vy{W:World}{b kb:Nat}{bl:List Nat}{s:Sy}{n:Int}{m:Nat}(_hk:sA m s.k)(hg:aL s.k.libs n=none):Fn Tryz.prog W 15 [ptr b,.int .i64 n] [gK b kb bl s] Value (fun u=>u) (fun _=>True) (fun u=>[sl iU 6 u (s.aA n),gK b kb bl s]):=by
 refine Fn.intro (N:=11) func15 rfl ntmps15 rfl fun F=>?_
 show ar _ _ _ _ _ _ [gK b kb bl s,F]
 refine J 8 ?_
 refine .c call18 rfl dC fun _ _=>?_
 refine .o2 (C:=gK b kb bl s) .auto rfl ?_
 rintro v vl -
 refine .o3 (C:=ba kb bl s.k) .auto rfl ?_
 rintro vo vl xs ⟨hxb,hxs⟩
 have hxx:=And.intro hxb hxs
 have hgb:=CX (mP hxb hxs) hg
 refine J 1 ?_
 refine .c call40 rfl (dO (b:=kb) (bl:=bl) (k:=s.k) (n:=n)) fun _ _=>?_
 rw[hgb]
 refine .c call53 rfl CS fun _ _=>?_
 refine .c call25 rfl vX fun _ _=>?_
 refine J 4 ?_
 rw[(KW hg).1]
 refine .aS rfl rfl fun w s=>⟨(.slice none 0 0),?_,trivial,ak .auto s⟩
 rfl
theorem sB{W:World}{b kb:Nat}{bl:List Nat}{s:Sy}{n:Int}{m:Nat}(hk:sA m s.k){j:Nat}{l:Lib}(hn:n=(j:Int))(hg:s.k.libs[j]?=some l):Fn Tryz.prog W 15 [ptr b,.int .i64 n] [gK b kb bl s] Value (fun u=>u) (fun _=>True) (fun u=>[sl iU 6 u (s.aA n),gK b kb bl s]):=by
 refine Fn.intro (N:=11) func15 rfl ntmps15 rfl fun F=>?_
 subst hn
 show ar _ _ _ _ _ _ [gK b kb bl s,F]
 refine J 8 ?_
 refine .c call18 rfl dC fun _ _=>?_
 refine .o2 (C:=gK b kb bl s) .auto rfl ?_
 rintro v vl -
 refine .o3 (C:=ba kb bl s.k) .auto rfl ?_
 rintro vo vl xs ⟨hxb,hxs⟩
 have hxx:=And.intro hxb hxs
 obtain⟨x,hx,hxe,hbx⟩:=cX hxb hxs hg
 subst hxe
 have hlo:=hk.gy x.2 (List.mem_of_getElem? hg)
 refine J 1 ?_
 refine .c call40 rfl (dO (b:=kb) (bl:=bl) (k:=s.k) (n:=(j:Int))) fun _ _=>?_
 rw[aV,hbx]
 refine .o3 (C:=ba kb bl s.k) .auto rfl ?_
 rintro vo2 vl2 xs2 ⟨hxb2,hxs2⟩
 obtain⟨x2,hx2,hxe2,hbx2⟩:=cX hxb2 hxs2 hg
 have hxq:x2=x:=Prod.ext (Option.some.inj (hbx2.symm.trans hbx)) hxe2
 subst hxq
 have hxx2:=And.intro hxb2 hxs2
 refine .fr .auto (cc (f:=fun x:Nat×Lib=>bJ x.1 x.2) hx2) ?_
 refine .o2 (C:=bJ x2.1 x2.2) .auto rfl ?_
 rintro bs br -
 refine .c call53 rfl (ir (b:=x2.1) (bs:=bs) (br:=br) (l:=x2.2)) fun _ _=>?_
 refine .o2 (C:=bj x2.1 bs br x2.2) .auto rfl ?_
 rintro vv vw -
 refine .c call25 rfl (ze (b:=bs) (s:=x2.2.aI) (Nat.le_trans hlo.1.sp.aA (by decide))) fun u10 _=>?_
 refine .to (A:=aO (fun x:Nat×Lib=>bJ x.1 x.2) xs2) .auto (cC (f:=fun x:Nat×Lib=>bJ x.1 x.2) hx2) ?_
 refine J 4 ?_
 rw[(KX hg).1]
 exact JR 0 u10
theorem Bf{W:World}{b kb:Nat}{bl:List Nat}{s:Sy}{n:Int}{m:Nat}(hk:sA m s.k):Fn Tryz.prog W 15 [ptr b,.int .i64 n] [gK b kb bl s] Value (fun u=>u) (fun _=>True) (fun u=>[sl iU 6 u (s.aA n),gK b kb bl s]):=by
 cases hg:aL s.k.libs n with
 | none=>exact vy hk hg
 | some l =>
  obtain⟨h0, -,h1⟩:=ck hg
  exact sB hk (j:=n.toNat) (by omega) h1
end Go.SLYtpbjdoplfgeliaaGreat
