/- Walks of functions, and what they compute. Conditions: none, this text proves no statement. -/
import Derived.Test.YtpbjdoplfgeliaaGreatG07
import Derived.Test.YtpbjdoplfgeliaaGreatProg
import Derived.Test.YtpbjdoplfgeliaaGreatG11
import Derived.Test.YtpbjdoplfgeliaaGreatG06
import Derived.KernelRfl
import Derived.Test.YtpbjdoplfgeliaaGreatG05
import Derived.Test.YtpbjdoplfgeliaaGreatG10
set_option maxRecDepth 20000
set_option maxHeartbeats 4000000
namespace Go.SLYtpbjdoplfgeliaaGreat
open Go Go.RowKit Go.Proofs Go.Proofs.Tryz
attribute [local irreducible] aq aR bf bq bB Y
theorem uO{W:World}{b bs br:Nat}{l:Lib}{A:aa}{v:Value}{ts:List Int}(hr:Rd W [A] av 1 v ts)(htl:ts.length≤1000000)(hl:l.waiting.length≤400000000∧l.vs.length≤1000000000∧ ∀ y∈l.vs,y.evs.length≤400000000):Fn Tryz.prog W 97 [ptr b,v] [bF b bs br l,A] Unit (fun _=>.tuple #[]) (fun _=>True) (fun _=>[bF b bs br (l.tell (aI ts)),A]):=by
 refine Fn.intro (N:=22) func97 rfl ntmps97 rfl fun F=>?_
 haveI hRI:∀ (H:List aa) [bx H A],aA W H v av 1 ts:=fun H h=>⟨hr.at h.has⟩
 show aq _ _ _ _ _ _ [bF b bs br l,A,F]
 refine J 14 ?_
 refine .bm (X:=Nat×Value) [4,6,9,10,11,12,13,14,15,16,17,18] (fun z=>ts.length-z.1) (fun z=>z.1≤ts.length) (fun z=>[(9,some (.int .i64 (z.1:Int))),(4,some z.2)]) (fun z=>[sl cv 3 z.2 (aI (ts.take z.1)),bF b bs br l,A,F]) (0,.slice none 0 0) ?_ ?_ ?_ ?_
 ·exact Nat.zero_le _
 ·exact⟨rfl,rfl,trivial⟩
 ·exact fun w s=>aw.kept .auto w s
 rintro⟨k,u⟩ hk
 simp only at hk
 refine JD 6 (fun h10=>?_) fun h10=>?_
 ·refine J 6 ?_
  obtain⟨n,hx⟩:=ak (show k<ts.length by omega)
  refine J 8 ?_
  refine .p (.fH (fun v1 v2=>[v1,v2,(.int .i64 0)]) rfl rfl (by kernel_rfl)) ?_
  refine .ai rfl (af.gF 232 rfl rfl (by kernel_rfl)) ?_
  rintro _ _ ⟨b16,rfl,rfl⟩
  refine .ai rfl (af.fJ (enc:=cv) (k:=3) (⟨3,n,0⟩:Ev) rfl underlying165 underlying165 typeInfo232 rfl rfl rfl (by decide) rfl rfl rfl .auto rfl .auto (by unfold aI;rw[List.length_map,List.length_take];omega) rfl) ?_
  rintro _ _ ⟨v17,rfl,rfl⟩
  refine J 8 ?_
  refine .aH (k+1,v17) .auto rfl ?_ ?_ ?_ ?_
  ·show ts.length-(k+1)<ts.length-k;omega
  ·show k+1≤_;omega
  ·exact⟨rfl,rfl,trivial⟩
  ·show ∀ w,Sat _ w _→Sat _ w (seps [sl cv 3 v17 (aI (ts.take (k+1))),bF b bs br l,A,F])
   rw[zp hx]
   exact fun w s=>aw.kept .auto w s
 ·refine J 8 ?_
  obtain rfl:k=ts.length:=by omega
  rw[List.take_length]
  refine .c call136 rfl (mM (l:=l) (A:=sl cv 3 u (aI ts)) (Rd.sl .here) ⟨by rw[gj];omega,hl⟩) fun _ _=>?_
  exact JR 1 ()
theorem yK{W:World}{b:Nat}{bl:List Nat}{k:Krn}{p:Int}{m:Nat}(hk:nt m k):Fn Tryz.prog W 47 [ptr b,.int .i64 p] [bR b bl k] Unit (fun _=>.int .i64 (k.preempt p).1) (fun _=>True) (fun _=>[bR b bl (k.preempt p).2]):=by
 refine Fn.intro (N:=19) func47 rfl ntmps47 rfl fun F=>?_
 show aq _ _ _ _ _ _ [bR b bl k,F]
 refine J 9 ?_
 refine .c call91 rfl (qL hk.ok) fun _ _=>?_
 refine JD 14 (fun h14=>?_) fun h14=>?_
 ·refine .o3 (C:=bR b bl k) .auto rfl ?_
  rintro vo vl xs ⟨hxb,hxs⟩
  have hxl:=aC hxs
  have hbl:=aC hxb
  have hxx:=And.intro hxb hxs
  obtain⟨i,n,l,rfl,ho,hl, -⟩:=dA hk.ok h14
  obtain⟨x,hx,rfl,hbx⟩:=eL hxb hxs hl
  have hlo:=hk.gY x.2 (List.mem_of_getElem? hl)
  rw[pM ho hl]
  rw[(jq (bl:=bl) ho).2,(jq (bl:=bl) ho).1,hbx]
  refine .fr .auto (cZ (f:=fun x:Nat×Lib=>cX x.1 x.2) hx) ?_
  refine .o2 (C:=cX x.1 x.2) .auto rfl ?_
  rintro bs br -
  refine J 3 ?_
  refine .c call98 rfl (AG (l:=x.2) (b:=x.1) (bs:=bs) (br:=br) (p:=(i:Int)) hlo.1) fun _ _=>?_
  refine .to (A:=aF (fun x:Nat×Lib=>cX x.1 x.2) (xs.set n (x.1,(x.2.preempt (i:Int)).2))) .auto (kN (f:=fun x:Nat×Lib=>cX x.1 x.2) (x.1,(x.2.preempt (i:Int)).2) hx) ?_
  have hss:=m0 hxb hxs hx (x.2.preempt (i:Int)).2
  refine .to (A:=sl bP 1 vl (xs.set n (x.1,(x.2.preempt (i:Int)).2))) (Bs:=[sl bP 1 vl xs]) .auto (qf (hxb.trans hss.1.symm)) ?_
  exact JR 9 ()
 ·refine J 9 ?_
  rw[mF h14]
  exact JR 0 ()
theorem Fl{W:World}{b:Nat}{bl:List Nat}{k:Krn}{q c:Int}{m:Nat}(hk:nt m k):Fn Tryz.prog W 46 [ptr b,.int .i64 q,.int .i64 c] [bR b bl k] Unit (fun _=>.int .i64 (k.done q c).1) (fun _=>True) (fun _=>[bR b bl (k.done q c).2]):=by
 refine Fn.intro (N:=27) func46 rfl ntmps46 rfl fun F=>?_
 show aq _ _ _ _ _ _ [bR b bl k,F]
 refine J 9 ?_
 refine .c call40 rfl gk fun _ _=>?_
 refine JD 10 (fun h14=>?_) fun h14=>?_
 ·refine .o3 (C:=bR b bl k) .auto rfl ?_
  rintro vo vl xs ⟨hxb,hxs⟩
  have hxl:=aC hxs
  have hbl:=aC hxb
  have hxx:=And.intro hxb hxs
  rw[pN (HZ (j7 hxb hxs) h14)]
  exact JR 7 ()
 ·refine .o3 (C:=bR b bl k) .auto rfl ?_
  rintro vo vl xs ⟨hxb,hxs⟩
  have hxl:=aC hxs
  have hbl:=aC hxb
  have hxx:=And.intro hxb hxs
  obtain⟨j,x,rfl,hx,hl,hbx⟩:=H2 hxb hxs h14
  have hlo:=hk.gY x.2 (List.mem_of_getElem? hl)
  have hdw:=og x.2.aM c
  rw[mG hl,aY,hbx]
  refine .fr .auto (cZ (f:=fun x:Nat×Lib=>cX x.1 x.2) hx) ?_
  refine .o2 (C:=cX x.1 x.2) .auto rfl ?_
  rintro bs br -
  refine J 5 ?_
  refine .c call53 rfl (il (b:=x.1) (bs:=bs) (br:=br) (l:=x.2)) fun _ _=>?_
  refine J 1 ?_
  refine .o2 (C:=bF x.1 bs br x.2) .auto rfl ?_
  rintro vv vw -
  refine .c call23 rfl (qF (b:=bs) (s:=x.2.aM) (k:=c) hlo.1.sp) fun u19 _=>?_
  refine .cM (fun w s=>Rd.isSl (Rd.sl .auto) w s) fun hu19=>?_
  refine J 1 ?_
  refine .p (.extract (v:=.agg (nU u19 (x.2.aM.done c).1).toArray) rfl rfl) ?_
  refine .p (.extract (v:=.int .i64 (x.2.aM.done c).2.1) rfl rfl) ?_
  refine .ai rfl (af.alloc rfl zeroValue57 rfl) ?_
  rintro _ _ ⟨b8,rfl,rfl⟩
  refine .ai rfl (af.gW (vs:=nU u19 (x.2.aM.done c).1) (by exact sizeOf57) rfl rfl (Df hu19) (by rfl)) ?_
  rintro _ _ ⟨rfl,rfl⟩
  refine J 8 ?_
  refine .c call97 rfl (uO (l:=({x.2 with aM:=(x.2.aM.done c).2.2 }:Lib)) (b:=x.1) (bs:=bs) (br:=br) (A:=sl av 1 u19 (x.2.aM.done c).1.ar) (Rd.sl .here) (by omega) ⟨Nat.le_trans hlo.1.wt (by decide),Nat.le_trans hlo.1.vl (by decide),fun y hy=>Nat.le_trans (hlo.1.ev y hy) (by decide)⟩) fun _ _=>?_
  refine .to (A:=aF (fun x:Nat×Lib=>cX x.1 x.2) (xs.set j (x.1,(x.2.fE c)))) .auto (kN (f:=fun x:Nat×Lib=>cX x.1 x.2) (x.1,(x.2.fE c)) hx) ?_
  have hss:=m0 hxb hxs hx (x.2.fE c)
  refine .to (A:=sl bP 1 vl (xs.set j (x.1,(x.2.fE c)))) (Bs:=[sl bP 1 vl xs]) .auto (qf (hxb.trans hss.1.symm)) ?_
  exact JR 9 ()
theorem Fm{W:World}{b:Nat}{bl:List Nat}{k:Krn}{m:Nat}(hk:nt m k):Fn Tryz.prog W 45 [ptr b] [bR b bl k] Unit (fun _=>.tuple #[]) (fun _=>True) (fun _=>[bR b bl k.tick]):=by
 refine Fn.intro (N:=27) func45 rfl ntmps45 rfl fun F=>?_
 show aq _ _ _ _ _ _ [bR b bl k,F]
 have hll:=hk.ok.ll
 refine J 3 ?_
 refine .c call57 rfl rB fun _ _=>?_
 refine J 4 ?_
 refine .bm (X:=Nat) [2,5,6,7,8,9,10,11,12,13,14,15,16,17,18,19,20,21,22,23,24,25,26] (fun j=>k.libs.length-j) (fun j=>j≤k.libs.length) (fun j=>[(5,some (.int .i64 (j:Int)))]) (fun j=>[bR b bl (k.mH j),F]) 0 ?_ ?_ ?_ ?_
 ·exact Nat.zero_le _
 ·exact⟨rfl,trivial⟩
 ·rw[EO];exact fun w s=>aw.kept .auto w s
 rintro j hj
 refine JD 6 (fun h6=>?_) fun h6=>?_
 ·obtain⟨l,hl⟩:=ak (show j<k.libs.length by omega)
  have hlt:=J0 hl
  refine .o3 (C:=bR b bl (k.mH j)) .auto rfl ?_
  rintro vo vl xs ⟨hxb,hxs⟩
  have hxx:=And.intro hxb hxs
  obtain⟨x,hx,rfl,hbx⟩:=eL hxb hxs hlt
  have hil:=(List.getElem?_eq_some_iff.1 hx).1
  have hlo:=hk.gY x.2 (List.mem_of_getElem? hl)
  have hdu:=Nat.le_trans (pj x.2.aM.aS) hlo.1.sp.wl
  have hst:=HY hl
  refine J 10 ?_
  refine .draw [arr b 0 [vo,vl],sl bP 1 vl xs] [0,0,0,0,0,0,0,1,1,1,1,1,1,1,2,2,1,3] rfl (by kernel_rfl) ?_
  refine J 5 ?_
  refine .q (.ix j rfl rfl rfl hil) ?_
  refine .q (.lr rfl hx) ?_
  refine J 5 ?_
  refine .p (.ix j rfl rfl rfl hil) ?_
  refine .p (.lr rfl hx) ?_
  refine .fr .auto (cZ (f:=fun x:Nat×Lib=>cX x.1 x.2) hx) ?_
  refine .o2 (C:=cX x.1 x.2) .auto rfl ?_
  rintro bs br -
  refine .c2 call53 rfl (il (b:=x.1) (bs:=bs) (br:=br) (l:=x.2)) fun _ _=>?_
  refine .o2 (C:=bF x.1 bs br x.2) .auto rfl ?_
  rintro vv vw -
  refine .c2 call24 rfl (qG (b:=bs) (s:=x.2.aM) hlo.1.sp) fun u23 _=>?_
  refine .p (.field 0 50 underlying57 rfl isAgg50 rfl rfl) ?_
  refine .c call97 rfl (uO (l:=({x.2 with aM:=x.2.aM.tick.2 }:Lib)) (b:=x.1) (bs:=bs) (br:=br) (A:=sl av 1 u23 x.2.aM.aS.due) (Rd.sl .here) hdu ⟨Nat.le_trans hlo.1.wt (by decide),Nat.le_trans hlo.1.vl (by decide),fun y hy=>Nat.le_trans (hlo.1.ev y hy) (by decide)⟩) fun _ _=>?_
  refine .to (A:=aF (fun x:Nat×Lib=>cX x.1 x.2) (xs.set j (x.1,x.2.cF))) .auto (kN (f:=fun x:Nat×Lib=>cX x.1 x.2) (x.1,x.2.cF) hx) ?_
  have hss:=m0 hxb hxs hx x.2.cF
  refine .to (A:=sl bP 1 vl (xs.set j (x.1,x.2.cF))) (Bs:=[sl bP 1 vl xs]) .auto (qf (hxb.trans hss.1.symm)) ?_
  rw[hst] at hss
  refine J 7 ?_
  refine .aH (j+1) .auto rfl ?_ ?_ ?_ ?_
  ·omega
  ·show j+1≤_;omega
  ·exact⟨rfl,trivial⟩
  ·exact fun w s=>aw.kept .auto w s
 ·refine J 4 ?_
  obtain rfl:j=k.libs.length:=by omega
  rw[HX]
  exact JR 0 ()
end Go.SLYtpbjdoplfgeliaaGreat
namespace Go.SLYtpbjdoplfgeliaaGreat
open Go Go.RowKit
def Du(b:Nat)(s:Sy):aa:=nK (fun _ _=>True) fun(kb:Nat) (bl:List Nat)=>[gn b kb bl s]
theorem do_1{s:Sy}{x:oB}(h:x.kind=1):s.do x=s.rq x.a x.b:=by unfold Sy.do;rw[if_pos h]
theorem Oe{s:Sy}{x:oB}(h1:¬x.kind=1)(h:x.kind=2):s.do x=(0,s.wA):=by unfold Sy.do;rw[if_neg h1,if_pos h]
theorem Nr{s:Sy}{x:oB}(h1:¬x.kind=1)(h2:¬x.kind=2)(h:x.kind=3):s.do x=s.nB x.a x.b:=by unfold Sy.do;rw[if_neg h1,if_neg h2,if_pos h]
theorem Of{s:Sy}{x:oB}(h1:¬x.kind=1)(h2:¬x.kind=2)(h3:¬x.kind=3)(h:x.kind=4):s.do x=((s.k.preempt x.a).1,⟨(s.k.preempt x.a).2,s.prio,s.turn,s.log⟩):=by unfold Sy.do;rw[if_neg h1,if_neg h2,if_neg h3,if_pos h]
theorem Og{s:Sy}{x:oB}(h1:¬x.kind=1)(h2:¬x.kind=2)(h3:¬x.kind=3)(h4:¬x.kind=4)(h:x.kind=5):s.do x=(0,⟨s.k,s.prio,x.a,s.log⟩):=by unfold Sy.do;rw[if_neg h1,if_neg h2,if_neg h3,if_neg h4,if_pos h]
theorem Oh{s:Sy}{x:oB}(h1:¬x.kind=1)(h2:¬x.kind=2)(h3:¬x.kind=3)(h4:¬x.kind=4)(h5:¬x.kind=5)(h:x.kind=6):s.do x=(0,⟨(s.k.share s.prio s.turn).1,s.prio,s.turn,s.log⟩):=by unfold Sy.do;rw[if_neg h1,if_neg h2,if_neg h3,if_neg h4,if_neg h5,if_pos h]
theorem Oi{s:Sy}{x:oB}(h1:¬x.kind=1)(h2:¬x.kind=2)(h3:¬x.kind=3)(h4:¬x.kind=4)(h5:¬x.kind=5)(h6:¬x.kind=6):s.do x=(1,s):=by unfold Sy.do;rw[if_neg h1,if_neg h2,if_neg h3,if_neg h4,if_neg h5,if_neg h6]
theorem qM{s:Sy}{p c:Int}(h:(s.k.step p c).1.2.1.aK=true):(s.rq p c).2=⟨(s.k.step p c).2,s.prio,s.turn,s.log++[⟨1,(s.k.step p c).1.1,(s.k.step p c).1.2.1.slot,c⟩]⟩:=by unfold Sy.rq jQ;rw[if_pos h]
theorem uP{s:Sy}{p c:Int}(h:(s.k.step p c).1.2.1.aK=false):(s.rq p c).2=⟨(s.k.step p c).2,s.prio,s.turn,s.log⟩:=by unfold Sy.rq jQ;rw[if_neg (by rw[h];simp),List.append_nil]
theorem Fo{s:Sy}{n c:Int}(h:(s.k.done n c).1=0):(s.nB n c).2=⟨(s.k.done n c).2,s.prio,s.turn,s.log++[⟨2,n,0,c⟩]⟩:=by unfold Sy.nB;rw[if_pos h]
theorem IE{s:Sy}{n c:Int}(h:¬(s.k.done n c).1=0):(s.nB n c).2=⟨(s.k.done n c).2,s.prio,s.turn,s.log⟩:=by unfold Sy.nB;rw[if_neg h,List.append_nil]
def Sy.au(s:Sy)(n:Int):List Rec:=match aB s.k.libs n with | none=>[] | some l=>l.aM.au
def Sy.mem(s:Sy)(n:Int):List Int:=match aB s.k.libs n with | none=>[] | some l=>l.aM.mem
theorem ss{s:Sy}{n:Int}(h:aB s.k.libs n=none):s.au n=[]∧s.mem n=[]:=by unfold Sy.au Sy.mem;rw[h];exact⟨rfl,rfl⟩
theorem Dv{s:Sy}{j:Nat}{l:Lib}(h:s.k.libs[j]?=some l):s.au (j:Int)=l.aM.au∧s.mem (j:Int)=l.aM.mem:=by unfold Sy.au Sy.mem;rw[aY,h];exact⟨rfl,rfl⟩
theorem Dw{m:Nat}{s:Sy}(h:nt m s.k)(n:Int):(s.au n).length≤1000000000∧(s.mem n).length≤1000000000:=by
 cases e:aB s.k.libs n with
 | none=>rw[(ss e).1,(ss e).2];exact⟨Nat.zero_le _,Nat.zero_le _⟩
 | some l =>
  obtain⟨-, -,hl⟩:=bQ e
  have hs:=(h.gY l (List.mem_of_getElem? hl)).1.sp
  unfold Sy.au Sy.mem
  rw[e]
  exact⟨Nat.le_trans hs.au (by decide),Nat.le_trans hs.mem (by decide)⟩
end Go.SLYtpbjdoplfgeliaaGreat
namespace Go.SLYtpbjdoplfgeliaaGreat
open Go Go.RowKit
def OY(b:Nat)(k:Krn)(prio:List Int):aa:=nK (fun _ _=>True) fun(kb:Nat) (v:Value)=>[arr b 0 [ptr kb,v,.int .i64 0,.slice none 0 0],Gr kb k,sl av 1 v prio]
def Oj:Krn:=Krn.new 1 [M9,M9]
def Ol:Krn:=(Oj.share [0,0] 0).1
def OZ:Lib:=Ol.libs.getD 0 Bc
def O0:Lib:=Ol.libs.getD 1 Bc
def O1(k:Krn):Bool:=k.libs.all fun l=>l.vs.all (fun v=>decide (v.evs.length≤1000000)) && decide (l.waiting.length≤1000000) && decide (l.rows.length≤64) && l.rows.all (fun r=>decide (r.length≤1000000))
theorem Fp{ps:List aX}{n:Nat}{x:aX}(h:ps[n]?=some x):(ps.take (n+1)).map (·.prio)=(ps.take n).map (·.prio)++[x.prio]:=by rw[aU h,List.map_append];rfl
end Go.SLYtpbjdoplfgeliaaGreat
namespace Go.SLYtpbjdoplfgeliaaGreat
open Go Go.RowKit Go.Proofs Go.Proofs.Tryz
attribute [local irreducible] aq aR bf bq bB Y
theorem AK{W:World}{A:aa}{v:Value}{ps:List aX}{procs:Int}(hr:Rd W [A] ej 8 v ps)(hp:∀ p∈ps,fi W [A] p)(hb:ps.length≤1000000000∧ ∀ p∈ps,p.fs.length≤1000000000∧p.bJ.length≤1000000000∧p.bb.length≤1000000000):Fn Tryz.prog W 8 [.int .i64 procs,v] [A] (Option Nat) (fun o=>.tuple #[dR o,.int .i64 (dL procs (ps.map aX.p))]) (fun o=>o.isSome=decide (dL procs (ps.map aX.p)=0)) (fun o=>[optH (fun b=>Du b (Sy.new procs (ps.map aX.p))) o,A]):=by
 refine Fn.intro (N:=48) func8 rfl ntmps8 rfl fun F=>?_
 haveI hRI:∀ (H:List aa) [bx H A],aA W H v ej 8 ps:=fun H h=>⟨hr.at h.has⟩
 show aq _ _ _ _ _ _ [A,F]
 have hml:(ps.map aX.p).length=ps.length:=List.length_map ..
 have hpm:(ps.map aX.p).map (·.prio)=ps.map (·.prio):=by rw[List.map_map];rfl
 refine J 10 ?_
 refine .c call29 rfl (ID hr hp hb) fun o ho=>?_
 refine JD 14 (fun h18=>?_) fun h18=>?_
 ·refine J 9 ?_
  refine .ez rfl rfl rfl fun w s=>⟨none,?_,(decide_eq_false h18).symm,aj (by repeat (first | exact aw.nil | (apply aw.cons; · repeat (first | exact Take.here | apply Take.there)) | apply aw.Jg | apply aw.Jh | apply aw.void | apply aw.Je | apply aw.two | (apply aw.Gh; · exact iq) | (apply aw.allM; · exact fun _=>iq) | apply aw.f1 rfl | apply aw.f2 rfl | apply aw.f3 rfl | apply aw.f4 rfl | apply aw.f10 rfl | apply aw.eO | assumption | exact trivial | rfl | omega | (focus (obtain⟨rfl⟩:o=none:=by simpa [h18] using ho)))) s⟩
  rfl
 ·have h18:=Decidable.of_not_not h18
  obtain⟨kb,rfl⟩:=Option.isSome_iff_exists.1 (ho.trans (decide_eq_true h18))
  have hi:=(k0 h18).1
  have hps8:ps.length≤8:=by have:=(k0 h18).2.2.2.2.2;omega
  refine .fr (A:=optH (fun b=>Gr b (Krn.new procs (ps.map aX.p))) (some kb)) (Bs:=[Gr kb (Krn.new procs (ps.map aX.p))]) .auto gN ?_
  refine .o1 (C:=Gr kb (Krn.new procs (ps.map aX.p))) .auto rfl ?_
  rintro bl -
  refine J 5 ?_
  refine .p (.gJ (fun v1=>[v1,(.slice none 0 0),(.int .i64 0),(.slice none 0 0)]) rfl (by kernel_rfl)) ?_
  refine .ai rfl (af.box rfl rfl rfl) ?_
  rintro _ _ ⟨b22,rfl,rfl⟩
  refine J 12 ?_
  refine .bm (X:=Nat×Value) [10,25,26,27,28,29,30,31,32,33,34,35,36,37,38,39,40] (fun z=>ps.length-z.1) (fun z=>z.1≤ps.length) (fun z=>[(25,some (.int .i64 (z.1:Int)))]) (fun z=>[arr b22 0 [ptr kb,z.2,.int .i64 0,.slice none 0 0],sl av 1 z.2 ((ps.take z.1).map (·.prio)),bR kb bl (Krn.new procs (ps.map aX.p)),A,F]) (0,.slice none 0 0) ?_ ?_ ?_ ?_
  ·exact Nat.zero_le _
  ·exact⟨rfl,trivial⟩
  ·exact fun w s=>aw.kept .auto w s
  rintro⟨n,u⟩ hn
  simp only at hn
  refine JD 6 (fun h26=>?_) fun h26=>?_
  ·refine J 6 ?_
   obtain⟨x,hx⟩:=ak (show n<ps.length by omega)
   have hpx:=hp x (List.mem_of_getElem? hx)
   refine .cM (fun w s=>xI hpx .auto w s) fun hone=>?_
   refine J 1 ?_
   refine .p (.la rfl (Cells.rd Rd.s hx)) ?_
   refine .ai rfl (af.alloc rfl zeroValue52 rfl) ?_
   rintro _ _ ⟨b10,rfl,rfl⟩
   refine .ai rfl (af.KF (by exact sizeOf52) rfl rfl hone rfl) ?_
   rintro _ _ ⟨rfl,rfl⟩
   refine J 2 ?_
   refine .draw [arr b22 0 [ptr kb,u,.int .i64 0,.slice none 0 0],arr b10 0 (ej x)] [0,0,0,0,0,1,1,2,2,1,1,3] rfl (by kernel_rfl) ?_
   refine J 7 ?_
   refine .d2 rfl Kept.auto (af.gF 3 rfl rfl (by kernel_rfl)) (by rintro _ _ ⟨b36,rfl,rfl⟩;exact Kept.auto) ?_
   rintro _ _ ⟨b36,rfl,rfl⟩
   refine .d2 rfl Kept.auto (af.fJ (enc:=av) (k:=1) x.prio rfl underlying50 underlying50 typeInfo3 rfl rfl rfl (by decide) rfl rfl rfl .auto rfl .auto (by rw[List.length_map,List.length_take];omega) rfl) (by rintro _ _ ⟨v37,rfl,rfl⟩;exact Kept.auto) ?_
   rintro _ _ ⟨v37,rfl,rfl⟩
   refine J 2 ?_
   refine .d3 rfl (af.l9 sizeOf50 rfl rfl rfl) ?_
   rintro _ _ ⟨rfl,rfl⟩
   refine J 7 ?_
   refine .aH (n+1,v37) .auto rfl ?_ ?_ ?_ ?_
   ·show ps.length-(n+1)<ps.length-n;omega
   ·show n+1≤_;omega
   ·exact⟨rfl,trivial⟩
   ·show ∀ w,Sat _ w _→Sat _ w (seps [_,sl av 1 v37 ((ps.take (n+1)).map (·.prio)),_,A,F])
    rw[Fp hx]
    exact fun w s=>aw.kept .auto w s
  ·obtain rfl:n=ps.length:=by omega
   rw[List.take_length]
   refine J 12 ?_
   refine .c call38 rfl (rC (A:=sl av 1 u (ps.map (·.prio))) (prio:=(ps.map (·.prio))) (turn:=0) (Rd.sl .here) (by rw[List.length_map];omega) hi (by decide)) fun _ _=>?_
   refine J 10 ?_
   rw[show Sy.new procs (ps.map aX.p)=⟨((Krn.new procs (ps.map aX.p)).share (ps.map (·.prio)) 0).1,(ps.map (·.prio)),0,[]⟩ from by unfold Sy.new;rw[hpm]]
   refine .ez rfl rfl rfl fun w s=>⟨some b22,?_,(decide_eq_true h18).symm,aj .auto s⟩
   rw[h18];rfl
theorem im{W:World}{b kb:Nat}{bl:List Nat}{s:Sy}:Fn Tryz.prog W 18 [ptr b] [gn b kb bl s] Unit (fun _=>ptr kb) (fun _=>True) (fun _=>[gn b kb bl s]):=by
 refine Fn.intro (N:=9) func18 rfl ntmps18 rfl fun F=>?_
 show aq _ _ _ _ _ _ [gn b kb bl s,F]
 refine .o2 (C:=gn b kb bl s) .auto rfl ?_
 rintro v vl -
 refine J 12 ?_
 refine .eQ rfl ?_
 exact JR 12 ()
theorem yL{W:World}{b kb:Nat}{bl:List Nat}{s:Sy}(hl:s.log.length≤1000000):Fn Tryz.prog W 13 [ptr b] [gn b kb bl s] Value (fun u=>u) (fun _=>True) (fun u=>[sl cR 4 u s.log,gn b kb bl s]):=by
 refine Fn.intro (N:=11) func13 rfl ntmps13 rfl fun F=>?_
 show aq _ _ _ _ _ _ [gn b kb bl s,F]
 refine .o2 (C:=gn b kb bl s) .auto rfl ?_
 rintro v vl -
 refine J 12 ?_
 refine .eQ rfl ?_
 refine J 8 ?_
 refine .c call52 rfl (L8 (A:=sl cR 4 vl s.log) (Rd.sl .here) (by omega)) fun u9 _=>?_
 refine .c call51 rfl Nh fun u10 _=>?_
 exact JR 4 u10
theorem IF{W:World}{b kb:Nat}{bl:List Nat}{s:Sy}{p c:Int}{m:Nat}(hk:nt m s.k)(hl:s.log.length≤1000000):Fn Tryz.prog W 44 [ptr b,.int .i64 p,.int .i64 c] [gn b kb bl s] Unit (fun _=>.int .i64 (s.rq p c).1) (fun _=>True) (fun _=>[gn b kb bl (s.rq p c).2]):=by
 refine Fn.intro (N:=38) func44 rfl ntmps44 rfl fun F=>?_
 show aq _ _ _ _ _ _ [gn b kb bl s,F]
 refine .o2 (C:=gn b kb bl s) .auto rfl ?_
 rintro v vl -
 refine J 13 ?_
 refine .c call33 rfl (Fk (k:=s.k) (b:=kb) (bl:=bl) (p:=p) (c:=c) hk) fun u17 _=>?_
 refine .cM (fun w s=>Rd.isSl (Rd.sl .auto) w s) fun hu17=>?_
 refine J 1 ?_
 refine .p (.extract (v:=.int .i64 (s.k.step p c).1.1) rfl rfl) ?_
 refine .p (.extract (v:=.agg (dz u17 (s.k.step p c).1.2.1).toArray) rfl rfl) ?_
 refine .p (.extract (v:=.int .i64 (s.k.step p c).1.2.2) rfl rfl) ?_
 refine .ai rfl (af.alloc rfl zeroValue75 rfl) ?_
 rintro _ _ ⟨b8,rfl,rfl⟩
 refine J 1 ?_
 refine .ai rfl (af.gW (vs:=dz u17 (s.k.step p c).1.2.1) (by exact sizeOf75) rfl rfl (di hu17) (by rfl)) ?_
 rintro _ _ ⟨rfl,rfl⟩
 refine JD 10 (fun h22=>?_) fun h22=>?_
 ·refine .draw [arr b 0 [ptr kb,v,.int .i64 s.turn,vl],arr b8 0 (dz u17 (s.k.step p c).1.2.1)] [0,0,0,0,0,1,1,1,1,1,2,2,1,1,3] rfl (by kernel_rfl) ?_
  refine J 9 ?_
  refine .p (.FT (fun v1 v2 v3 v4=>[v1,v2,v3,v4]) rfl rfl rfl rfl (by kernel_rfl)) ?_
  refine .d2 rfl Kept.auto (af.gF 55 rfl rfl (by kernel_rfl)) (by rintro _ _ ⟨b33,rfl,rfl⟩;exact Kept.auto) ?_
  rintro _ _ ⟨b33,rfl,rfl⟩
  refine .d2 rfl Kept.auto (af.fJ (enc:=cR) (k:=4) (⟨1,(s.k.step p c).1.1,(s.k.step p c).1.2.1.slot,c⟩:eN) rfl underlying36 underlying36 typeInfo55 rfl rfl rfl (by decide) rfl rfl rfl .auto rfl .auto (by omega) rfl) (by rintro _ _ ⟨v34,rfl,rfl⟩;exact Kept.auto) ?_
  rintro _ _ ⟨v34,rfl,rfl⟩
  refine J 2 ?_
  refine .d3 rfl (af.l9 sizeOf36 rfl rfl rfl) ?_
  rintro _ _ ⟨rfl,rfl⟩
  refine J 9 ?_
  rw[qM h22]
  exact JR 0 ()
 ·refine J 9 ?_
  rw[uP h22]
  exact JR 0 ()
theorem oz{W:World}{b kb:Nat}{bl:List Nat}{s:Sy}{x:oB}{m:Nat}(hk:nt m s.k)(hi:Inv m s.k)(hm:m≤2000000)(hl:s.log.length≤1000000)(hp:s.prio.length≤1000):Fn Tryz.prog W 11 [ptr b,.agg (lW x).toArray] [gn b kb bl s] Unit (fun _=>.int .i64 (s.do x).1) (fun _=>True) (fun _=>[gn b kb bl (s.do x).2]):=by
 refine Fn.intro (N:=94) func11 rfl ntmps11 rfl fun F=>?_
 show aq _ _ _ _ _ _ [gn b kb bl s,F]
 refine J 2 ?_
 refine .ai rfl (af.box rfl rfl rfl) ?_
 rintro _ _ ⟨b3,rfl,rfl⟩
 refine .mem (H':=[arr b3 0 (lW x),gn b kb bl s,F]) (fun w s=>s) ?_
 refine J 10 ?_
 refine .eQ rfl ?_
 refine JD 21 (fun h10=>?_) fun h10=>?_
 ·refine J 6 ?_
  refine .c call44 rfl (IF (s:=s) (p:=x.a) (c:=x.b) hk hl) fun _ _=>?_
  refine J 11 ?_
  rw[do_1 h10]
  exact JR 0 ()
 ·refine JD 6 (fun h18=>?_) fun h18=>?_
  ·refine J 2 ?_
   refine .o2 (C:=gn b kb bl s) .auto rfl ?_
   rintro v vl -
   refine J 4 ?_
   refine .c call45 rfl (Fm (k:=s.k) (b:=kb) (bl:=bl) hk) fun _ _=>?_
   refine J 8 ?_
   refine .p (.gJ (fun v1=>[v1,(.int .i64 0),(.int .i64 0),(.int .i64 0)]) rfl (by kernel_rfl)) ?_
   refine .ai rfl (af.gF 55 rfl rfl (by kernel_rfl)) ?_
   rintro _ _ ⟨b31,rfl,rfl⟩
   refine .ai rfl (af.fJ (enc:=cR) (k:=4) (⟨3,0,0,0⟩:eN) rfl underlying36 underlying36 typeInfo55 rfl rfl rfl (by decide) rfl rfl rfl .auto rfl .auto (by omega) rfl) ?_
   rintro _ _ ⟨v32,rfl,rfl⟩
   refine J 2 ?_
   refine .ai rfl (af.l9 sizeOf36 rfl rfl rfl) ?_
   rintro _ _ ⟨rfl,rfl⟩
   refine J 10 ?_
   rw[Oe h10 h18]
   exact JR 0 ()
  ·refine JD 6 (fun h35=>?_) fun h35=>?_
   ·refine J 1 ?_
    refine .draw [] [1,1,1,1,1,1,1,1,3,1] rfl (by kernel_rfl) ?_
    refine .o2 (C:=gn b kb bl s) .auto rfl ?_
    rintro v vl -
    refine J 8 ?_
    refine .c call46 rfl (Fl (k:=s.k) (b:=kb) (bl:=bl) (q:=x.a) (c:=x.b) hk) fun _ _=>?_
    refine JD 9 (fun h47=>?_) fun h47=>?_
    ·refine .draw [arr b 0 [ptr kb,v,.int .i64 s.turn,vl],arr b3 0 (lW x)] [0,0,0,0,0,1,1,1,1,1,2,2,1,1,3] rfl (by kernel_rfl) ?_
     refine J 9 ?_
     refine .p (.vk (fun v1 v2 v3=>[v1,v2,(.int .i64 0),v3]) rfl rfl rfl (by kernel_rfl)) ?_
     refine .d2 rfl Kept.auto (af.gF 55 rfl rfl (by kernel_rfl)) (by rintro _ _ ⟨b58,rfl,rfl⟩;exact Kept.auto) ?_
     rintro _ _ ⟨b58,rfl,rfl⟩
     refine .d2 rfl Kept.auto (af.fJ (enc:=cR) (k:=4) (⟨2,x.a,0,x.b⟩:eN) rfl underlying36 underlying36 typeInfo55 rfl rfl rfl (by decide) rfl rfl rfl .auto rfl .auto (by omega) rfl) (by rintro _ _ ⟨v59,rfl,rfl⟩;exact Kept.auto) ?_
     rintro _ _ ⟨v59,rfl,rfl⟩
     refine J 2 ?_
     refine .d3 rfl (af.l9 sizeOf36 rfl rfl rfl) ?_
     rintro _ _ ⟨rfl,rfl⟩
     refine J 10 ?_
     rw[Nr h10 h18 h35,Fo h47]
     exact JR 0 ()
    ·refine J 10 ?_
     rw[Nr h10 h18 h35,IE h47]
     exact JR 0 ()
   ·refine JD 6 (fun h62=>?_) fun h62=>?_
    ·refine .draw [] [1,1,1,1,1,1,3,1] rfl (by kernel_rfl) ?_
     refine .o2 (C:=gn b kb bl s) .auto rfl ?_
     rintro v vl -
     refine J 6 ?_
     refine .c call47 rfl (yK (k:=s.k) (b:=kb) (bl:=bl) (p:=x.a) hk) fun _ _=>?_
     refine J 11 ?_
     rw[Of h10 h18 h35 h62]
     exact JR 0 ()
    ·refine JD 6 (fun h71=>?_) fun h71=>?_
     ·refine J 1 ?_
      refine .o2 (C:=gn b kb bl s) .auto rfl ?_
      rintro v vl -
      refine J 16 ?_
      rw[Og h10 h18 h35 h62 h71]
      exact JR 0 ()
     ·refine JD 6 (fun h78=>?_) fun h78=>?_
      ·refine .draw [] [1,1,1,1,1,1,1,1,1,1,1,1,3] rfl (by kernel_rfl) ?_
       refine .o2 (C:=gn b kb bl s) .auto rfl ?_
       rintro v vl -
       refine J 12 ?_
       refine .c call38 rfl (rC (k:=s.k) (b:=kb) (bl:=bl) (A:=sl av 1 v s.prio) (v:=v) (prio:=s.prio) (turn:=s.turn) (Rd.sl .here) (by omega) hi (by omega)) fun _ _=>?_
       refine J 10 ?_
       rw[Oh h10 h18 h35 h62 h71 h78]
       exact JR 0 ()
      ·refine J 12 ?_
       rw[Oi h10 h18 h35 h62 h71 h78]
       exact JR 0 ()
end Go.SLYtpbjdoplfgeliaaGreat
namespace Go.SLYtpbjdoplfgeliaaGreat
open Go Go.RowKit
theorem Fq{k:Krn}{n c:Int}(h:(k.done n c).1≠0):(k.done n c).2=k:=by
 cases e:aB k.libs n with
 | none=>rw[pN e]
 | some l =>
  obtain⟨h0, -,hl⟩:=bQ e
  obtain⟨j,rfl⟩:∃ j:Nat,n=(j:Int):=⟨n.toNat,by omega⟩
  rw[Int.toNat_natCast] at hl
  rw[mG hl] at h ⊢
  have hs:(l.aM.done c).1=kP.z∧(l.aM.done c).2.2=l.aM:=by
   simp only at h
   unfold Spc.done at h ⊢
   simp only at h ⊢
   split
   ·exact⟨rfl,rfl⟩
   ·rename_i h3;rw[if_neg h3] at h;exact absurd rfl h
  have:l.fE c=l:=by
   unfold Lib.fE
   rw[hs.1,hs.2]
   exact jo l
  show(⟨k.owner,k.libs.set j (l.fE c)⟩:Krn)=k
  rw[this,fy hl]
theorem yM(k:Krn)(p:Int):(k.preempt p).2.libs.length=k.libs.length:=by
 unfold Krn.preempt
 split
 ·rfl
 ·split
  ·rfl
  ·split
   ·rfl
   ·exact List.length_set ..
theorem Fs(k:Krn)(n c:Int):(k.done n c).2.libs.length=k.libs.length:=by
 unfold Krn.done
 split
 ·rfl
 ·exact List.length_set ..
structure O2(s:Sy)(x:oB)(r:List eN):Prop where
 log:(s.do x).2.log=s.log++r
 one:r.length≤1
 err:(s.do x).1≠0→r.length=0
 no:x.kind=5∨x.kind=6∨x.kind=4→r.length=0
 tick:x.kind=2→r.length=1
 done:x.kind=3→(s.do x).1=0→r.length=1
theorem Dx{m:Nat}{s:Sy}(hi:Inv m s.k)(x:oB):(s.do x).2.k.libs.length=s.k.libs.length:=by
 unfold Sy.do
 split
 ·exact wQ _ _ _
 ·split
  ·exact List.length_map ..
  ·split
   ·exact Fs _ _ _
   ·split
    ·exact yM _ _
    ·split
     ·rfl
     ·split
      ·exact(gv hi _ _).2.ll
      ·rfl
end Go.SLYtpbjdoplfgeliaaGreat
namespace Go.SLYtpbjdoplfgeliaaGreat
open Go Go.RowKit
section
variable{W:World}{H:List aa}{α:Type}
theorem Rd.KS{enc:α→List Value}{k:Nat}{v:Value}{xs:List α}{n:Nat}(h2:n≤xs.length)(h:Rd W H enc k v xs):Rd W H enc k (Go.SLYtpbjdoplfgeliaaGreat.cut k 0 n v) (xs.take n):=by
 have:=h.cut (Nat.zero_le n) h2
 rwa [List.drop_zero] at this
end
end Go.SLYtpbjdoplfgeliaaGreat
namespace Go.SLYtpbjdoplfgeliaaGreat
open Go Go.RowKit
theorem uQ{bl:List Nat}{ls:List Lib}{n:Int}(hb:bl.length=ls.length)(h:aB ls n=none):aB bl n=none:=by
 unfold aB at *
 split at h
 ·rename_i h0;rw[if_pos h0]
 ·rename_i h0
  rw[if_neg h0]
  rw[List.getElem?_eq_none_iff] at h ⊢
  omega
/-! law 19's own fact -/
def Om:List Ins:=[⟨1,1,0,0,5⟩,⟨38,1,0,0,0⟩]
def OE:fc:=⟨[Om],0,0,0,[],[],0,0⟩
def On(x y:Nat):aX:=⟨rZ y 1,[(.slice (some ⟨x,0,none⟩) 2 2,Om)],0,0,0,.slice none 0 0,[],.slice none 0 0,[],0,0⟩
def Pf(x y z:Nat):aa:=seps [arr z 0 (ej (On x y)),arr y 0 [.slice (some ⟨x,0,none⟩) 2 2],arr x 0 (rows dM Om)]
def O3:Nat→Sy
 | 0=>Sy.new 2 [OE]
 | n+1=>((O3 n).do ⟨1,0,4⟩).2
end Go.SLYtpbjdoplfgeliaaGreat
namespace Go.SLYtpbjdoplfgeliaaGreat
open Go Go.RowKit Go.Proofs Go.Proofs.Tryz
attribute [local irreducible] aq aR bf bq bB Y
theorem uR{W:World}{b kb:Nat}{bl:List Nat}{s:Sy}{n:Int}{m:Nat}(_hk:nt m s.k)(hg:aB s.k.libs n=none):Fn Tryz.prog W 15 [ptr b,.int .i64 n] [gn b kb bl s] Value (fun u=>u) (fun _=>True) (fun u=>[sl cW 6 u (s.au n),gn b kb bl s]):=by
 refine Fn.intro (N:=11) func15 rfl ntmps15 rfl fun F=>?_
 show aq _ _ _ _ _ _ [gn b kb bl s,F]
 refine J 8 ?_
 refine .c call18 rfl im fun _ _=>?_
 refine .o2 (C:=gn b kb bl s) .auto rfl ?_
 rintro v vl -
 refine .o3 (C:=bR kb bl s.k) .auto rfl ?_
 rintro vo vl xs ⟨hxb,hxs⟩
 have hxx:=And.intro hxb hxs
 have hgb:=uQ (j7 hxb hxs) hg
 refine J 1 ?_
 refine .c call40 rfl (gk (b:=kb) (bl:=bl) (k:=s.k) (n:=n)) fun _ _=>?_
 rw[hgb]
 refine .c call53 rfl uJ fun _ _=>?_
 refine .c call25 rfl nI fun _ _=>?_
 refine J 4 ?_
 rw[(ss hg).1]
 refine .aP rfl rfl fun w s=>⟨(.slice none 0 0),?_,trivial,aj .auto s⟩
 rfl
theorem rI{W:World}{b kb:Nat}{bl:List Nat}{s:Sy}{n:Int}{m:Nat}(hk:nt m s.k){j:Nat}{l:Lib}(hn:n=(j:Int))(hg:s.k.libs[j]?=some l):Fn Tryz.prog W 15 [ptr b,.int .i64 n] [gn b kb bl s] Value (fun u=>u) (fun _=>True) (fun u=>[sl cW 6 u (s.au n),gn b kb bl s]):=by
 refine Fn.intro (N:=11) func15 rfl ntmps15 rfl fun F=>?_
 subst hn
 show aq _ _ _ _ _ _ [gn b kb bl s,F]
 refine J 8 ?_
 refine .c call18 rfl im fun _ _=>?_
 refine .o2 (C:=gn b kb bl s) .auto rfl ?_
 rintro v vl -
 refine .o3 (C:=bR kb bl s.k) .auto rfl ?_
 rintro vo vl xs ⟨hxb,hxs⟩
 have hxx:=And.intro hxb hxs
 obtain⟨x,hx,hxe,hbx⟩:=eL hxb hxs hg
 subst hxe
 have hlo:=hk.gY x.2 (List.mem_of_getElem? hg)
 refine J 1 ?_
 refine .c call40 rfl (gk (b:=kb) (bl:=bl) (k:=s.k) (n:=(j:Int))) fun _ _=>?_
 rw[aY,hbx]
 refine .o3 (C:=bR kb bl s.k) .auto rfl ?_
 rintro vo2 vl2 xs2 ⟨hxb2,hxs2⟩
 obtain⟨x2,hx2,hxe2,hbx2⟩:=eL hxb2 hxs2 hg
 have hxq:x2=x:=Prod.ext (Option.some.inj (hbx2.symm.trans hbx)) hxe2
 subst hxq
 have hxx2:=And.intro hxb2 hxs2
 refine .fr .auto (cZ (f:=fun x:Nat×Lib=>cX x.1 x.2) hx2) ?_
 refine .o2 (C:=cX x2.1 x2.2) .auto rfl ?_
 rintro bs br -
 refine .c call53 rfl (il (b:=x2.1) (bs:=bs) (br:=br) (l:=x2.2)) fun _ _=>?_
 refine .o2 (C:=bF x2.1 bs br x2.2) .auto rfl ?_
 rintro vv vw -
 refine .c call25 rfl (lE (b:=bs) (s:=x2.2.aM) (Nat.le_trans hlo.1.sp.au (by decide))) fun u10 _=>?_
 refine .to (A:=aF (fun x:Nat×Lib=>cX x.1 x.2) xs2) .auto (eK (f:=fun x:Nat×Lib=>cX x.1 x.2) hx2) ?_
 refine J 4 ?_
 rw[(Dv hg).1]
 exact JR 0 u10
theorem mQ{W:World}{b kb:Nat}{bl:List Nat}{s:Sy}{n:Int}{m:Nat}(hk:nt m s.k):Fn Tryz.prog W 15 [ptr b,.int .i64 n] [gn b kb bl s] Value (fun u=>u) (fun _=>True) (fun u=>[sl cW 6 u (s.au n),gn b kb bl s]):=by
 cases hg:aB s.k.libs n with
 | none=>exact uR hk hg
 | some l =>
  obtain⟨h0, -,h1⟩:=bQ hg
  exact rI hk (j:=n.toNat) (by omega) h1
theorem vJ{W:World}{b kb:Nat}{bl:List Nat}{s:Sy}{n:Int}{m:Nat}(_hk:nt m s.k)(hg:aB s.k.libs n=none):Fn Tryz.prog W 28 [ptr b,.int .i64 n] [gn b kb bl s] Value (fun u=>u) (fun _=>True) (fun u=>[sl de 1 u (s.mem n),gn b kb bl s]):=by
 refine Fn.intro (N:=11) func28 rfl ntmps28 rfl fun F=>?_
 show aq _ _ _ _ _ _ [gn b kb bl s,F]
 refine J 8 ?_
 refine .c call18 rfl im fun _ _=>?_
 refine .o2 (C:=gn b kb bl s) .auto rfl ?_
 rintro v vl -
 refine .o3 (C:=bR kb bl s.k) .auto rfl ?_
 rintro vo vl xs ⟨hxb,hxs⟩
 have hxx:=And.intro hxb hxs
 have hgb:=uQ (j7 hxb hxs) hg
 refine J 1 ?_
 refine .c call40 rfl (gk (b:=kb) (bl:=bl) (k:=s.k) (n:=n)) fun _ _=>?_
 rw[hgb]
 refine .c call53 rfl uJ fun _ _=>?_
 refine .c call27 rfl yH fun _ _=>?_
 refine J 4 ?_
 rw[(ss hg).2]
 refine .aP rfl rfl fun w s=>⟨(.slice none 0 0),?_,trivial,aj .auto s⟩
 rfl
theorem uS{W:World}{b kb:Nat}{bl:List Nat}{s:Sy}{n:Int}{m:Nat}(hk:nt m s.k){j:Nat}{l:Lib}(hn:n=(j:Int))(hg:s.k.libs[j]?=some l):Fn Tryz.prog W 28 [ptr b,.int .i64 n] [gn b kb bl s] Value (fun u=>u) (fun _=>True) (fun u=>[sl de 1 u (s.mem n),gn b kb bl s]):=by
 refine Fn.intro (N:=11) func28 rfl ntmps28 rfl fun F=>?_
 subst hn
 show aq _ _ _ _ _ _ [gn b kb bl s,F]
 refine J 8 ?_
 refine .c call18 rfl im fun _ _=>?_
 refine .o2 (C:=gn b kb bl s) .auto rfl ?_
 rintro v vl -
 refine .o3 (C:=bR kb bl s.k) .auto rfl ?_
 rintro vo vl xs ⟨hxb,hxs⟩
 have hxx:=And.intro hxb hxs
 obtain⟨x,hx,hxe,hbx⟩:=eL hxb hxs hg
 subst hxe
 have hlo:=hk.gY x.2 (List.mem_of_getElem? hg)
 refine J 1 ?_
 refine .c call40 rfl (gk (b:=kb) (bl:=bl) (k:=s.k) (n:=(j:Int))) fun _ _=>?_
 rw[aY,hbx]
 refine .o3 (C:=bR kb bl s.k) .auto rfl ?_
 rintro vo2 vl2 xs2 ⟨hxb2,hxs2⟩
 obtain⟨x2,hx2,hxe2,hbx2⟩:=eL hxb2 hxs2 hg
 have hxq:x2=x:=Prod.ext (Option.some.inj (hbx2.symm.trans hbx)) hxe2
 subst hxq
 have hxx2:=And.intro hxb2 hxs2
 refine .fr .auto (cZ (f:=fun x:Nat×Lib=>cX x.1 x.2) hx2) ?_
 refine .o2 (C:=cX x2.1 x2.2) .auto rfl ?_
 rintro bs br -
 refine .c call53 rfl (il (b:=x2.1) (bs:=bs) (br:=br) (l:=x2.2)) fun _ _=>?_
 refine .o2 (C:=bF x2.1 bs br x2.2) .auto rfl ?_
 rintro vv vw -
 refine .c call27 rfl (rz (b:=bs) (s:=x2.2.aM) (Nat.le_trans hlo.1.sp.mem (by decide))) fun u10 _=>?_
 refine .to (A:=aF (fun x:Nat×Lib=>cX x.1 x.2) xs2) .auto (eK (f:=fun x:Nat×Lib=>cX x.1 x.2) hx2) ?_
 refine J 4 ?_
 rw[(Dv hg).2]
 exact JR 0 u10
theorem Cp{W:World}{b kb:Nat}{bl:List Nat}{s:Sy}{n:Int}{m:Nat}(hk:nt m s.k):Fn Tryz.prog W 28 [ptr b,.int .i64 n] [gn b kb bl s] Value (fun u=>u) (fun _=>True) (fun u=>[sl de 1 u (s.mem n),gn b kb bl s]):=by
 cases hg:aB s.k.libs n with
 | none=>exact vJ hk hg
 | some l =>
  obtain⟨h0, -,h1⟩:=bQ hg
  exact uS hk (j:=n.toNat) (by omega) h1
end Go.SLYtpbjdoplfgeliaaGreat
namespace Go.SLYtpbjdoplfgeliaaGreat
open Go Go.RowKit
def may(w:Int)(e:Ev):Bool:=decide (e.ab=w) && (decide (0<e.mode) || decide (e.kind=3) || decide (e.kind=4))
def jA(w:Int)(v:aL):Nat:=(if v.runs=true∧v.ab=w then 1 else 0)+v.evs.countP (may w)
def sumP(w:Int):List aL→Nat
 | []=>0
 | v::l=>jA w v+sumP w l
def rowN(w:Int):List (List Int)→Nat
 | []=>0
 | r::l=>r.count w+rowN w l
def xk(w:Int)(l:Lib):Nat:=rowN w l.rows+sumP w l.vs+l.waiting.countP (may w)
def mR(e:Ev):Prop:=0<e.mode→(e.mode=7∧0≤e.ab)∨(e.mode≠7∧e.ab<0)
structure fm(v:aL):Prop where
 e:∀ e∈v.evs,mR e
 t:v.mode=5∨v.mode=6∨v.mode=7→0≤v.ab
structure Pk(l:Lib):Prop where
 n:∀ w,0≤w→xk w l=df l.aM w
 v:∀ v∈l.vs,fm v
 w:∀ e∈l.waiting,mR e
 rl:l.rows.length=l.vs.length
 rg:∀ r∈l.rows, ∀ t∈r,(0:Int)≤t
theorem gm{w:Int}{vs:List aL}{i:Nat}{v:aL}(h:vs[i]?=some v)(x:aL):sumP w (vs.set i x)+jA w v=sumP w vs+jA w x:=by
 induction vs generalizing i with
 | nil=>simp at h
 | cons y vs ih =>
  cases i with
  | zero =>
   obtain rfl:y=v:=by simpa using h
   simp only[List.set_cons_zero,sumP];omega
  | succ i =>
   have:=ih (i:=i) (by simpa using h)
   simp only[List.set_cons_succ,sumP];omega
theorem AL{w:Int}{rows:List (List Int)}{i:Nat}{r:List Int}(h:rows[i]?=some r)(x:List Int):rowN w (rows.set i x)+r.count w=rowN w rows+x.count w:=by
 induction rows generalizing i with
 | nil=>simp at h
 | cons y rows ih =>
  cases i with
  | zero =>
   obtain rfl:y=r:=by simpa using h
   simp only[List.set_cons_zero,rowN];omega
  | succ i =>
   have:=ih (i:=i) (by simpa using h)
   simp only[List.set_cons_succ,rowN];omega
theorem IG{t:Int}:∀ {rows:List (List Int)},rowN t rows=0→yq rows t=false
 | [],_=>rfl
 | r::rows,h=>by
  unfold rowN at h
  have h1:r.contains t=false:=by
   rw[List.contains_eq_mem]
   exact decide_eq_false (fun hm=>by have:=List.count_pos_iff.2 hm;omega)
  have h2:=IG (t:=t) (rows:=rows) (by omega)
  unfold yq at h2 ⊢
  rw[List.any_cons,h1,h2];rfl
theorem Dy{rows:List (List Int)}{i:Nat}{t:Int}(hi:i<rows.length)(h:rowN t rows=0)(w:Int):rowN w (rAdd rows (i:Int) t)=rowN w rows+(if t=w then 1 else 0):=by
 obtain⟨r,hr⟩:=ak hi
 unfold rAdd
 rw[IG h,aY,hr]
 simp only[Bool.false_eq_true,if_false,Int.toNat_natCast]
 have:=AL (w:=w) hr (r++[t])
 rw[List.count_append,List.count_singleton] at this
 by_cases e:t=w
 ·rw[if_pos e];rw[if_pos (by simpa using e)] at this;omega
 ·rw[if_neg e];rw[if_neg (by simpa using e)] at this;omega
theorem IH{i:Nat}:∀ {ts:List Int} {rows:List (List Int)},i<rows.length→(∀ x∈ts,rowN x rows=0)→(∀ x,ts.count x≤1)→ ∀ w,rowN w (dW rows (i:Int) ts)=rowN w rows+ts.count w
 | [],_,_,_,_,_=>rfl
 | t::ts,rows,hi,h0,h1,w=>by
  have ht:=h0 t (List.mem_cons_self ..)
  have hn:t ∉ ts:=fun hm=>by
   have:=h1 t
   rw[List.count_cons_self] at this
   have:=List.count_pos_iff.2 hm
   omega
  show rowN w (dW (rAdd rows (i:Int) t) (i:Int) ts)=_
  rw[IH (ts:=ts) (rows:=rAdd rows (i:Int) t) (by rw[Ab];exact hi) (fun x hx=>by
   have hne:¬t=x:=fun e=>hn (by rw[e];exact hx)
   rw[Dy hi ht,if_neg hne,h0 x (List.mem_cons_of_mem _ hx)]) (fun x=>by
   have:=h1 x
   rw[List.count_cons] at this
   omega) w,Dy hi ht,List.count_cons]
  by_cases e:t=w
  ·rw[if_pos e,if_pos (by simpa using e)];omega
  ·rw[if_neg e,if_neg (by simpa using e)];omega
theorem Kr{rows:List (List Int)}{p t:Int}(h:∀ r∈rows, ∀ x∈r,(0:Int)≤x)(ht:0≤t):∀ r∈rAdd rows p t, ∀ x∈r,(0:Int)≤x:=fun r hr x hx=>by
 unfold rAdd at hr
 split at hr
 ·exact h r hr x hx
 ·split at hr
  ·exact h r hr x hx
  ·rename_i y e
   rcases List.mem_or_eq_of_mem_set hr with hr | rfl
   ·exact h r hr x hx
   ·rcases List.mem_append.1 hx with hx | hx
    ·exact h y (List.mem_of_getElem? (bQ e).2.2) x hx
    ·obtain rfl:=List.mem_singleton.1 hx;exact ht
theorem mS:∀ {ts:List Int} {rows:List (List Int)} {p:Int},(∀ r∈rows, ∀ x∈r,(0:Int)≤x)→(∀ t∈ts,(0:Int)≤t)→ ∀ r∈dW rows p ts, ∀ x∈r,(0:Int)≤x
 | [],_,_,h,_=>h
 | t::ts,rows,p,h,ht=>mS (ts:=ts) (rows:=rAdd rows p t) (Kr h (ht t (List.mem_cons_self ..))) fun x hx=>ht x (List.mem_cons_of_mem _ hx)
/-! vessels told -/
theorem Ks{w:Int}(h:0≤w)(l:List Ev):(cV l).countP (may w)=l.countP (may w):=by
 induction l with
 | nil=>rfl
 | cons e l ih =>
  unfold cV at ih ⊢
  by_cases hk:(dD e || decide (0<e.mode))=true
  ·rw[List.filter_cons_of_pos (p:=fun e=>dD e || decide (0<e.mode)) hk,List.countP_cons,List.countP_cons,ih]
  ·rw[List.filter_cons_of_neg (p:=fun e=>dD e || decide (0<e.mode)) hk,List.countP_cons,ih]
   have:may w e=false:=by
    simp only[Bool.or_eq_true,decide_eq_true_eq,not_or] at hk
    unfold dD at hk
    unfold may
    by_cases ht:e.ab=w
    ·have h1:¬e.kind=3:=fun e3=>hk.1 (by simp[e3];omega)
     have h2:¬e.kind=4:=fun e4=>hk.1 (by simp[e4];omega)
     simp[hk.2,h1,h2]
    ·simp[ht]
   rw[this];rfl
theorem AM{w:Int}(h:0≤w)(v:aL):v.strip.countP (may w)=jA w v:=by
 unfold aL.strip jA
 rw[List.countP_append,Ks h]
 by_cases hh:v.holds=true
 ·rw[if_pos hh]
  by_cases hr:v.runs=true
  ·rw[if_pos hr,List.countP_cons,List.countP_nil]
   by_cases ht:v.ab=w
   ·have:may w ⟨4,v.ab,v.mode⟩=true:=by unfold may;simp[ht]
    rw[this];simp[hr,ht]
   ·have:may w ⟨4,v.ab,v.mode⟩=false:=by unfold may;simp[ht]
    rw[this];simp[hr,ht]
  ·rw[if_neg hr,if_neg (fun g=>hr g.1),List.countP_cons,List.countP_nil]
   have:may w ⟨4, -1,v.mode⟩=false:=by
    unfold may
    have:¬(-1:Int)=w:=by omega
    simp[this]
   rw[this];simp
 ·rw[if_neg hh]
  by_cases hr:v.runs=true
  ·rw[if_pos hr,List.countP_cons,List.countP_nil]
   by_cases ht:v.ab=w
   ·have:may w ⟨4,v.ab,0⟩=true:=by unfold may;simp[ht]
    rw[this];simp[hr,ht]
   ·have:may w ⟨4,v.ab,0⟩=false:=by unfold may;simp[ht]
    rw[this];simp[hr,ht]
  ·rw[if_neg hr,if_neg (fun g=>hr g.1)];simp
theorem Cq(w:Int)(l:List Ev):jA w (aL.new l)=l.countP (may w):=by
 show(if aL.runs (aL.new l)=true∧_ then 1 else 0)+l.countP (may w)=_
 rw[if_neg (fun g=>by have:=g.1;unfold aL.runs aL.new at this;simp at this)];omega
theorem Dz{w:Int}(h:0≤w)(v:aL)(l:List Ev):jA w (v.told l)=jA w v+l.countP (may w):=by
 unfold aL.told
 rw[Cq,List.countP_append,AM h]
theorem Mn(w:Int):jA w aL.z=0:=by
 unfold jA
 rw[if_neg (fun g=>by have:=g.1;unfold aL.runs aL.z at this;simp at this)];rfl
theorem uT{v:aL}(h:fm v):∀ e∈v.strip,mR e:=fun e he=>by
 unfold aL.strip at he
 rcases List.mem_append.1 he with he | he
 ·split at he
  ·rename_i hh
   obtain rfl:=List.mem_singleton.1 he
   intro h0
   have hm:v.mode=2∨v.mode=4∨v.mode=7:=by unfold aL.holds at hh;simp only[Bool.or_eq_true,decide_eq_true_eq] at hh;omega
   by_cases h7:v.mode=7
   ·refine .inl ⟨h7,?_⟩
    have ht:=h.t (.inr (.inr h7))
    have hr:v.runs=true:=by unfold aL.runs;simp[h7,ht]
    show(0:Int)≤(if v.runs=true then v.ab else -1)
    rw[if_pos hr];exact ht
   ·refine .inr ⟨h7,?_⟩
    have hr:¬v.runs=true:=fun g=>by unfold aL.runs at g;simp only[Bool.and_eq_true,Bool.or_eq_true,decide_eq_true_eq] at g;omega
    show(if v.runs=true then v.ab else -1)<0
    rw[if_neg hr];omega
  ·split at he
   ·obtain rfl:=List.mem_singleton.1 he
    intro h0;exact absurd h0 (by show ¬(0:Int)<0;omega)
   ·cases he
 ·exact h.e e (List.mem_filter.1 he).1
theorem uU{l:List Ev}(h:∀ e∈l,mR e):fm (aL.new l):=⟨h,fun g=>by
 have:(aL.new l).mode=1:=rfl
 omega⟩
theorem xn{v:aL}{l:List Ev}(h:fm v)(hl:∀ e∈l,mR e):fm (v.told l):=uU fun e he=>by
 rcases List.mem_append.1 he with he | he
 ·exact uT h e he
 ·exact hl e he
theorem II:fm aL.z:=by
 refine⟨fun _ h=>(by cases h),fun g=>?_⟩
 have:aL.z.mode=0:=rfl
 omega
theorem iY{w:Int}(l:List Int):(aI l).countP (may w)=l.count w:=by
 unfold aI
 rw[List.countP_map]
 unfold List.count
 refine List.countP_congr fun x _=>?_
 show may w ⟨3,x,0⟩=true↔_
 unfold may
 simp
theorem gT(l:List Int):∀ e∈aI l,mR e:=fun e he=>by
 obtain⟨n, -,rfl⟩:=List.mem_map.1 he
 intro h;exact absurd h (by show ¬(0:Int)<0;omega)
end Go.SLYtpbjdoplfgeliaaGreat
namespace Go.SLYtpbjdoplfgeliaaGreat
open Go Go.RowKit
structure IJ(s s':Spc)(e:kP)(n:Int):Prop where
 q:∀ w,df s' w+(if ¬e.ck=true∧w=n then 1 else 0)=df s w+e.ar.count w
 z:∀ x∈e.ar,0≤x∧df s x=0
 c:∀ x,e.ar.count x≤1
theorem uV(s:Spc)(w:Int):df s w≤1:=by
 unfold df rO
 split
 ·omega
 ·split <;> omega
theorem yN{s:Spc}{w:Int}(h:w<0):df s w=0:=by unfold df;rw[yj h];rfl
theorem pW{e:kP}:¬e.ck=true↔(e.aQ=true∨e.ended=true):=by
 unfold kP.ck
 cases e.aQ <;> cases e.ended <;> simp
theorem Mp{k:Nat}{s:Spc}(h:fS k s)(hk:k≤1990)(n c:Int):IJ s (s.run n c).2.2 (s.run n c).1 n:=by
 obtain⟨-,h1,h2, -,h3,h4, -, -⟩:=h.1.run h.2.2 (n:=n) (c:=c) (by omega) (h.rec hk)
 have hq:∀ w,df (s.run n c).2.2 w+(if ¬(s.run n c).1.ck=true∧w=n then 1 else 0)=df s w+(s.run n c).1.ar.count w:=fun w=>by
  have:=h1 w
  by_cases g:(s.run n c).1.ck=true
  ·rw[if_neg (fun x=>x.1 g)]
   rw[if_neg (fun x=>absurd x.1 (fun y=>pW.2 y g))] at this
   exact this
  ·have g2:=pW.1 g
   by_cases e:w=n
   ·rw[if_pos ⟨g,e⟩];rw[if_pos ⟨g2,e⟩] at this;exact this
   ·rw[if_neg (fun x=>e x.2)];rw[if_neg (fun x=>e x.2)] at this;exact this
 by_cases he:(s.run n c).2.1=0
 ·have hn:=h3.1 he
  have hn0:¬n<0:=fun g=>by rw[yN g] at hn;omega
  refine⟨hq,fun x hx=>⟨?_,h4 x hx⟩,fun x=>?_⟩
  ·rcases Int.lt_or_le x 0 with g | g
   ·have:=hq x
    rw[yN g,yN g,if_neg (fun y=>by have:=y.2;omega)] at this
    have:=List.count_pos_iff.2 hx
    omega
   ·exact g
  ·by_cases hx:x∈(s.run n c).1.ar
   ·have h5:=h4 x hx
    have:=hq x
    rw[if_neg (fun y=>by rw[y.2] at h5;omega)] at this
    have:=uV (s.run n c).2.2 x
    omega
   ·rw[List.count_eq_zero.2 hx];omega
 ·obtain⟨e1,e2⟩:=h2 he
  refine⟨hq,fun x hx=>?_,fun x=>?_⟩
  ·rw[e2] at hx;cases hx
  ·rw[e2];exact Nat.zero_le _
theorem Pk.Mq{l:Lib}(h:Pk l){w:Int}(hw:0≤w)(h0:df l.aM w=0):rowN w l.rows=0∧sumP w l.vs=0:=by
 have:=h.n w hw
 unfold xk at this
 omega
theorem DA{w:Int}{vs:List aL}{i:Nat}{v:aL}(h:vs[i]?=some v):jA w v≤sumP w vs:=by
 have:=gm (w:=w) h aL.z
 rw[Mn] at this
 omega
theorem Kt{v:aL}(h:v.runs=true):1≤jA v.ab v:=by
 unfold jA;rw[if_pos ⟨h,rfl⟩];omega
theorem gU{vs:List aL}{i:Nat}{x:aL}(h:∀ v∈vs,fm v)(hx:fm x):∀ v∈vs.set i x,fm v:=fun v hv=>by
 rcases List.mem_or_eq_of_mem_set hv with hv | rfl
 ·exact h v hv
 ·exact hx
theorem Pk.wS{l:Lib}{ys:List Ev}(hn:∀ w,0≤w→xk w l+ys.countP (may w)=df l.aM w)(hv:∀ v∈l.vs,fm v)(hw:∀ e∈l.waiting,mR e)(hy:∀ e∈ys,mR e)(rl:l.rows.length=l.vs.length)(rg:∀ r∈l.rows, ∀ t∈r,(0:Int)≤t):Pk (l.tell ys):=by
 by_cases h0:ys=[]
 ·subst h0;rw[jo];exact⟨hn,hv,hw,rl,rg⟩
 ·cases hp:l.procs with
  | nil =>
   rw[jc h0 hp]
   refine⟨fun w h=>?_,hv,fun e he=>?_,rl,rg⟩
   ·have:=hn w h
    unfold xk at this ⊢
    simp only[List.countP_append];omega
   ·rcases List.mem_append.1 he with he | he
    ·exact hw e he
    ·exact hy e he
  | cons p r =>
   obtain⟨i,v,rfl,hiv, -⟩:=hZ hp
   rw[jd h0 hp hiv]
   refine⟨fun w h=>?_,gU hv (xn (hv v (List.mem_of_getElem? hiv)) hy),hw,by show _=(l.vs.set i _).length;rw[List.length_set];exact rl,rg⟩
   have h1:=gm (w:=w) hiv (v.told ys)
   rw[Dz h] at h1
   have:=hn w h
   unfold xk at this ⊢
   simp only at this ⊢
   omega
theorem Pk.set{l:Lib}(h:Pk l){i:Nat}{v x:aL}{b:Bool}(hv:l.vs[i]?=some v)(hx:fm x)(hn:∀ w,0≤w→jA w x=jA w v):Pk ⟨l.aM,l.rows,l.vs.set i x,l.waiting,b⟩:=by
 refine⟨fun w hw=>?_,gU h.v hx,h.w,by show _=(l.vs.set i x).length;rw[List.length_set];exact h.rl,h.rg⟩
 have h1:=gm (w:=w) hv x
 have h2:=h.n w hw
 have h3:=hn w hw
 unfold xk at h2 ⊢
 simp only at h2 ⊢
 omega
theorem Pk.dq{l:Lib}(h:Pk l)(hl:Lk l)(p:Int):Pk (l.dq p).2:=by
 unfold Lib.dq
 cases e:aB l.vs p with
 | none=>exact h
 | some v =>
  simp only
  by_cases hm:v.mode=0
  ·rw[if_pos hm]
   obtain⟨h0, -,hv⟩:=bQ e
   have hev:=hl.run hv (by omega) (by omega)
   have hh:∀ w,jA w v=0:=fun w=>by
    unfold jA
    rw[hev,if_neg (fun g=>by have:=g.1;unfold aL.runs at this;simp[hm] at this)];rfl
   refine⟨fun w hw=>?_,gU h.v (uU fun e he=>?_),fun _ h=>(by cases h),by show _=(l.vs.set _ _).length;rw[List.length_set];exact h.rl,h.rg⟩
   ·have h1:=gm (w:=w) hv (aL.new (⟨1, -1,0⟩::l.waiting))
    have h2:=h.n w hw
    have hmw:may w ⟨1, -1,0⟩=false:=by
     unfold may
     have:¬(-1:Int)=w:=by omega
     simp[this]
    rw[Cq,List.countP_cons,hmw,hh] at h1
    unfold xk at h2 ⊢
    simp only[List.countP_nil] at h1 h2 ⊢
    simp only[Bool.false_eq_true,if_false] at h1
    omega
   ·rcases List.mem_cons.1 he with rfl | he
    ·intro h;exact absurd h (by show ¬(0:Int)<0;omega)
    ·exact h.w e he
  ·rw[if_neg hm];exact h
theorem Pk.cK{l:Lib}(h:Pk l)(p:Int):Pk (l.cK p).2:=by
 cases hh:l.has p with
 | false=>rw[je hh];exact h
 | true =>
  obtain⟨i,v,rfl,hv, -⟩:=ij hh
  rw[ia hh hv]
  refine Pk.wS (fun w hw=>?_) (gU h.v II) h.w (uT (h.v v (List.mem_of_getElem? hv))) (by show _=(l.vs.set i _).length;rw[List.length_set];exact h.rl) h.rg
  have h1:=gm (w:=w) hv aL.z
  have h2:=h.n w hw
  rw[Mn] at h1
  rw[AM hw]
  unfold xk at h2 ⊢
  simp only at h2 ⊢
  omega
theorem Pk.preempt{l:Lib}(h:Pk l)(p:Int):Pk (l.preempt p).2:=by
 cases hh:l.has p with
 | false=>rw[jy hh];exact h
 | true =>
  obtain⟨i,v,rfl,hv, -⟩:=ij hh
  rw[iE hh hv]
  exact h.set hv (xn (h.v v (List.mem_of_getElem? hv)) fun _ h=>(by cases h)) fun w hw=>by rw[Dz hw];rfl
end Go.SLYtpbjdoplfgeliaaGreat
namespace Go.SLYtpbjdoplfgeliaaGreat
open Go Go.RowKit
section
variable{l:Lib}{i:Nat}{v x:aL}{s':Spc}{e:kP}{n:Int}{b:Bool}
theorem Pk.yO(h:Pk l)(q:IJ l.aM s' e n)(hv:l.vs[i]?=some v)(hx:fm x)(hn:∀ w,0≤w→jA w x+(if ¬e.ck=true∧w=n then 1 else 0)=jA w v):Pk ((⟨s',l.rows,l.vs.set i x,l.waiting,b⟩:Lib).tell (aI e.ar)):=by
 refine Pk.wS (fun w hw=>?_) (gU h.v hx) h.w (gT _) (by show _=(l.vs.set i x).length;rw[List.length_set];exact h.rl) h.rg
 have h1:=gm (w:=w) hv x
 have h2:=h.n w hw
 have h3:=hn w hw
 have h4:=q.q w
 rw[iY]
 unfold xk at h2 ⊢
 simp only at h2 ⊢
 omega
theorem Pk.KT(h:Pk l)(q:IJ l.aM s' e n):(∀ y∈e.ar,rowN y l.rows=0):=fun y hy=>(h.Mq (q.z y hy).1 (q.z y hy).2).1
theorem Pk.Cr(h:Pk l)(q:IJ l.aM s' e n)(hv:l.vs[i]?=some v)(hx:fm x)(hn:∀ w,0≤w→jA w x+(if ¬e.ck=true∧w=n then 1 else 0)=jA w v):Pk ⟨s',dW l.rows (i:Int) e.ar,l.vs.set i x,l.waiting,b⟩:=by
 have hil:=(List.getElem?_eq_some_iff.1 hv).1
 refine⟨fun w hw=>?_,gU h.v hx,h.w,by show(dW _ _ _).length=(l.vs.set i x).length;rw[List.length_set,fM];exact h.rl,mS h.rg fun t ht=>(q.z t ht).1⟩
 have h1:=gm (w:=w) hv x
 have h2:=h.n w hw
 have h3:=hn w hw
 have h4:=q.q w
 have h5:=IH (i:=i) (by rw[h.rl];exact hil) (h.KT q) q.c w
 unfold xk at h2 ⊢
 simp only at h2 ⊢
 omega
theorem Pk.DB(h:Pk l)(q:IJ l.aM s' e n)(hg:e.ck=true)(h0:0≤n)(hv:l.vs[i]?=some v)(hx:fm x)(hn:∀ w,0≤w→jA w x+(if n=w then 1 else 0)=jA w v):Pk ⟨s',dW (dW l.rows (i:Int) e.ar) (i:Int) [n],l.vs.set i x,l.waiting,b⟩:=by
 have hil:=(List.getElem?_eq_some_iff.1 hv).1
 have hr1:i<l.rows.length:=by rw[h.rl];exact hil
 have hA:=IH (i:=i) hr1 (h.KT q) q.c
 have hn0:=hn n h0
 rw[if_pos rfl] at hn0
 have hpn:=h.n n h0
 have hsl:=DA (w:=n) hv
 have hrn:=uV l.aM n
 have hrow:rowN n l.rows=0∧df l.aM n=1:=by unfold xk at hpn;omega
 have hwn:e.ar.count n=0:=by
  rw[List.count_eq_zero]
  intro hm
  have:=(q.z n hm).2
  omega
 have hrow2:rowN n (dW l.rows (i:Int) e.ar)=0:=by rw[hA];omega
 refine⟨fun w hw=>?_,gU h.v hx,h.w,by show(dW _ _ _).length=(l.vs.set i x).length;rw[List.length_set,fM,fM];exact h.rl,mS (mS h.rg fun t ht=>(q.z t ht).1) fun t ht=>by rw[List.mem_singleton.1 ht];exact h0⟩
 have h1:=gm (w:=w) hv x
 have h2:=h.n w hw
 have h3:=hn w hw
 have h4:=q.q w
 rw[if_neg (fun y=>y.1 hg)] at h4
 have h5:=Dy (i:=i) (t:=n) (by rw[fM];exact hr1) hrow2 w
 have h6:=hA w
 show xk w ⟨s',rAdd (dW l.rows (i:Int) e.ar) (i:Int) n,l.vs.set i x,l.waiting,b⟩=_
 unfold xk at h2 ⊢
 simp only at h2 ⊢
 omega
end
theorem qN{p:Ev→Bool}{l:List Ev}{x:Ev}{r:List Ev}(h:evWithin l=some (x,r)):l.countP p=r.countP p+(if p x=true then 1 else 0)∧x∈l∧(∀ y∈r,y∈l)∧0<x.mode:=by
 unfold evWithin at h
 split at h
 ·cases h
 ·split at h
  ·cases h
  ·rename_i h0 y e2
   cases h
   have hx:iU x=true:=ui (l:=l) (k:=0) (i:=(idxP iU l 0).toNat) (by omega) e2
   have e:l.take (idxP iU l 0).toNat++x::l.drop ((idxP iU l 0).toNat+1)=l:=by rw[← drop_cons e2,List.take_append_drop]
   have h1:=congrArg (List.countP p) e
   rw[List.countP_append,List.countP_cons] at h1
   refine⟨by rw[List.countP_append];omega,List.mem_of_getElem? e2,fun y hy=>?_,of_decide_eq_true hx⟩
   rcases List.mem_append.1 hy with hy | hy
   ·exact List.mem_of_mem_take hy
   ·exact List.mem_of_mem_drop hy
theorem fb{v:aL}(h:¬(v.mode=5∨v.mode=6∨v.mode=7)):v.runs=false:=by
 unfold aL.runs
 have h1:¬v.mode=5:=fun e=>h (.inl e)
 have h2:¬v.mode=6:=fun e=>h (.inr (.inl e))
 have h3:¬v.mode=7:=fun e=>h (.inr (.inr e))
 simp[h1,h2,h3]
theorem iH{v:aL}(g:fm v)(h:v.mode=5∨v.mode=6∨v.mode=7):v.runs=true:=by
 have ht:=g.t h
 unfold aL.runs
 rcases h with h | h | h <;> simp[h,ht]
theorem dK{w:Int}{v:aL}(h:v.runs=false):jA w v=v.evs.countP (may w):=by unfold jA;rw[h];simp
theorem iZ{w:Int}{v:aL}(h:v.runs=true):jA w v=(if v.ab=w then 1 else 0)+v.evs.countP (may w):=by unfold jA;rw[h];simp
theorem Pk.enter{l:Lib}(h:Pk l){i:Nat}{v:aL}{m:Int}(hv:l.vs[i]?=some v)(hm:m=5∨m=6∨m=7↔v.mode=5∨v.mode=6∨v.mode=7):Pk (l.enter (i:Int) m):=by
 cases hl:l.locked with
 | true=>rw[pD hl];exact h
 | false =>
  rw[m9 hv hl]
  have hg:=h.v v (List.mem_of_getElem? hv)
  have hg2:fm {v with mode:=m }:=⟨hg.e,fun g=>hg.t (hm.1 g)⟩
  refine h.set (x:={v with mode:=m }) hv hg2 fun w hw=>?_
  by_cases g:v.mode=5∨v.mode=6∨v.mode=7
  ·rw[iZ (iH hg g),iZ (iH hg2 (hm.2 g))]
  ·rw[dK (fb g),dK (fb (v:={v with mode:=m }) (fun y=>g (hm.1 y)))]
theorem Pk.leave{l:Lib}(h:Pk l){i:Nat}{v:aL}{m t:Int}(hv:l.vs[i]?=some v)(hg:fm {v with mode:=m,ab:=t })(hn:∀ w,0≤w→jA w {v with mode:=m,ab:=t }=jA w v):Pk (l.leave (i:Int) m t):=by
 rw[iD hv]
 exact h.set hv hg hn
theorem AN:∀ {rows rows':List (List Int)} {t:Int},rSteal rows=some (t,rows')→(∀ w,rowN w rows'+(if t=w then 1 else 0)=rowN w rows)∧ ∃ r∈rows,t∈r
 | [],_,_,h=>by cases h
 | r::rows,rows',t,h=>by
  unfold rSteal at h
  split at h
  ·rename_i t' e
   cases h
   obtain⟨r0,rfl⟩:∃ r0,r=r0++[t]:=by
    rw[List.getLast?_eq_some_iff] at e
    exact e
   refine⟨fun w=>?_,_,List.mem_cons_self ..,by simp⟩
   show(List.dropLast (r0++[t])).count w+rowN w rows+_=(r0++[t]).count w+rowN w rows
   rw[List.dropLast_concat,List.count_append,List.count_singleton]
   by_cases g:t=w
   ·rw[if_pos g,if_pos (by simpa using g)];omega
   ·rw[if_neg g,if_neg (by simpa using g)];omega
  ·split at h
   ·cases h
   ·rename_i t' r' e
    cases h
    obtain⟨h1,y,hy,hty⟩:=AN e
    refine⟨fun w=>?_,y,List.mem_cons_of_mem _ hy,hty⟩
    have:=h1 w
    show r.count w+rowN w r'+_=r.count w+rowN w rows
    omega
theorem DC{rows rows':List (List Int)}{p t:Int}(h:rPick rows p=some (t,rows')):(∀ w,rowN w rows'+(if t=w then 1 else 0)=rowN w rows)∧ ∃ r∈rows,t∈r:=by
 unfold rPick at h
 split at h
 ·cases h
 ·rename_i u r e
  cases h
  have hr:=(bQ e).2.2
  refine⟨fun w=>?_,_,List.mem_of_getElem? hr,List.mem_cons_self ..⟩
  have h1:=AL (w:=w) hr r
  rw[List.count_cons] at h1
  by_cases g:t=w
  ·rw[if_pos g];rw[if_pos (by simpa using g)] at h1;omega
  ·rw[if_neg g];rw[if_neg (by simpa using g)] at h1;omega
 ·exact AN h
theorem Ku{rows rows':List (List Int)}{p t:Int}(h:rPick rows p=some (t,rows'))(hg:∀ r∈rows, ∀ x∈r,(0:Int)≤x):∀ r∈rows', ∀ x∈r,(0:Int)≤x:=fun r hr x hx=>by
 rcases Int.lt_or_le x 0 with g | g
 ·have h1:=(DC h).1 x
  have h0:rowN x rows=0:=by
   have:∀ l:List (List Int),(∀ r∈l, ∀ y∈r,(0:Int)≤y)→rowN x l=0:=fun l=>by
    induction l with
    | nil=>intro _;rfl
    | cons a l ih =>
     intro hl
     show a.count x+rowN x l=0
     rw[ih fun r hr=>hl r (List.mem_cons_of_mem _ hr),List.count_eq_zero.2 fun hm=>by have:=hl a (List.mem_cons_self ..) x hm;omega]
   exact this rows hg
  have h2:1≤rowN x rows':=by
   have:∀ l:List (List Int),r∈l→1≤rowN x l:=fun l=>by
    induction l with
    | nil=>intro hm;cases hm
    | cons a l ih =>
     intro hm
     show 1≤a.count x+rowN x l
     rcases List.mem_cons.1 hm with rfl | hm
     ·have:=List.count_pos_iff.2 hx;omega
     ·have:=ih hm;omega
   exact this rows' hr
  omega
 ·exact g
end Go.SLYtpbjdoplfgeliaaGreat
namespace Go.SLYtpbjdoplfgeliaaGreat
open Go Go.RowKit
theorem Pk.step{k:Nat}{l:Lib}(h:Pk l)(hl:Lk l)(ho:fS k l.aM)(hk:k≤1990)(p c:Int):Pk (l.step p c).2.2:=by
 cases hh:l.has p with
 | false=>rw[pG hh];exact h
 | true =>
  obtain⟨i,v,rfl,hv,h0⟩:=ij hh
  have hvg:=h.v v (List.mem_of_getElem? hv)
  have hil:=(List.getElem?_eq_some_iff.1 hv).1
  by_cases h1:v.mode=1
  ·have hr:v.runs=false:=fb (by omega)
   rw[sd hh hv h1]
   show Pk (l.upcall (i:Int) c).2
   cases hw:evWithin v.evs with
   | none=>rw[na hv (by rw[hw];rfl)];exact h.enter hv (by omega)
   | some z =>
    rw[k7 hv (by rw[hw];rfl)]
    have hE:wE v.evs=z.1:=by unfold wE;rw[hw]
    have hR:wR v.evs=z.2:=by unfold wR;rw[hw]
    rw[hE,hR]
    obtain⟨-,hzm,hzs,hz0⟩:=qN (p:=may 0) (x:=z.1) (r:=z.2) hw
    have hc:=fun w=>(qN (p:=may w) (x:=z.1) (r:=z.2) hw).1
    have hxg:fm {v with evs:=z.2 }:=⟨fun e he=>hvg.e e (hzs e he),fun g=>by have:v.mode=5∨v.mode=6∨v.mode=7:=g;omega⟩
    have hxr:aL.runs {v with evs:=z.2 }=false:=hr
    have hpl:∀ w,jA w {v with evs:=z.2 }+(if may w z.1=true then 1 else 0)=jA w v:=fun w=>by
     rw[dK hr,dK hxr,hc w]
    have hgz:=hvg.e z.1 hzm hz0
    by_cases hm:z.1.mode=7
    ·have ht:0≤z.1.ab:=by rcases hgz with g | g;exact g.2;exact absurd hm g.1
     have hmay:∀ w,(may w z.1=true)↔z.1.ab=w:=fun w=>by unfold may;simp[hz0]
     have q:=Mp ho hk z.1.ab c
     by_cases hg:(l.aM.run z.1.ab c).1.ck=true
     ·rw[k6 hv hm hg]
      exact h.DB q hg ht hv hxg fun w _=>by
       have:=hpl w
       by_cases e:z.1.ab=w
       ·rw[if_pos e];rw[if_pos ((hmay w).2 e)] at this;exact this
       ·rw[if_neg e];rw[if_neg (fun y=>e ((hmay w).1 y))] at this;exact this
     ·rw[iW hv hm hg]
      exact h.Cr q hv hxg fun w _=>by
       have:=hpl w
       by_cases e:z.1.ab=w
       ·rw[if_pos ⟨hg,e.symm⟩];rw[if_pos ((hmay w).2 e)] at this;exact this
       ·rw[if_neg (fun y=>e y.2.symm)];rw[if_neg (fun y=>e ((hmay w).1 y))] at this;exact this
    ·rw[k5 hv hm]
     refine h.set (x:={v with evs:=z.2 }) hv hxg fun w hw0=>?_
     have:=hpl w
     have ht:z.1.ab<0:=by rcases hgz with g | g;exact absurd g.1 hm;exact g.2
     rw[if_neg (fun y=>by unfold may at y;simp only[Bool.and_eq_true,decide_eq_true_eq] at y;omega)] at this
     exact this
  by_cases h2:v.mode=2
  ·have hr:v.runs=false:=fb (by omega)
   rw[se hh hv h2]
   cases he:v.evs with
   | nil =>
    rw[k8 hv he]
    exact h.leave hv ⟨hvg.e,fun g=>by have:(3:Int)=5∨(3:Int)=6∨(3:Int)=7:=g;omega⟩ fun w _=>by
     rw[dK hr,dK (fb (v:={v with mode:=3,ab := -1 }) (by show ¬((3:Int)=5∨(3:Int)=6∨(3:Int)=7);omega))]
   | cons e r =>
    have hn:v.holds=true:=by unfold aL.holds;rw[h2];rfl
    have hi1:mD v=1+v.evs.countP iU:=by unfold mD;rw[hn];simp
    obtain⟨-,h3⟩:=hl.one hv (by omega)
    have hem:¬ 0<e.mode:=fun g=>by
     have:iU e=true:=decide_eq_true g
     rw[he,List.countP_cons,this] at hi1
     simp only[if_true] at hi1
     omega
    have hxg:fm {v with evs:=r }:=⟨fun y hy=>hvg.e y (by rw[he];exact List.mem_cons_of_mem _ hy),fun g=>by have:v.mode=5∨v.mode=6∨v.mode=7:=g;omega⟩
    have hxr:aL.runs {v with evs:=r }=false:=hr
    have hpl:∀ w,jA w {v with evs:=r }+(if may w e=true then 1 else 0)=jA w v:=fun w=>by
     rw[dK hr,dK hxr,he,List.countP_cons]
    by_cases hrn:dD e=true
    ·rw[nf hv he hrn]
     have hrn2:=hrn
     unfold dD at hrn2
     simp only[Bool.and_eq_true,Bool.or_eq_true,decide_eq_true_eq] at hrn2
     have hmay:∀ w,(may w e=true)↔e.ab=w:=fun w=>by
      unfold may
      simp only[Bool.and_eq_true,Bool.or_eq_true,decide_eq_true_eq]
      constructor
      ·exact fun g=>g.1
      ·exact fun g=>⟨g,hrn2.2.elim (fun x=>.inl (.inr x)) fun x=>.inr x⟩
     have hvt:=hpl e.ab
     rw[if_pos ((hmay _).2 rfl)] at hvt
     have hpn:=h.n e.ab hrn2.1.1
     have hsl:=DA (w:=e.ab) hv
     have hrd:=uV l.aM e.ab
     have hrow:rowN e.ab l.rows=0:=by unfold xk at hpn;omega
     refine⟨fun w hw=>?_,gU h.v hxg,h.w,by show(dW _ _ _).length=(l.vs.set i _).length;rw[List.length_set,fM];exact h.rl,mS h.rg fun t ht=>by rw[List.mem_singleton.1 ht];exact hrn2.1.1⟩
     have g1:=gm (w:=w) hv {v with evs:=r }
     have g2:=h.n w hw
     have g3:=hpl w
     have g4:=Dy (i:=i) (t:=e.ab) (by rw[h.rl];exact hil) hrow w
     show xk w ⟨l.aM,rAdd l.rows (i:Int) e.ab,l.vs.set i {v with evs:=r },l.waiting,l.locked⟩=_
     unfold xk at g2 ⊢
     simp only at g2 ⊢
     by_cases ht:e.ab=w
     ·rw[if_pos ht] at g4;rw[if_pos ((hmay w).2 ht)] at g3;omega
     ·rw[if_neg ht] at g4;rw[if_neg (fun y=>ht ((hmay w).1 y))] at g3;omega
    ·rw[k9 hv he hrn]
     refine h.set (x:={v with evs:=r }) hv hxg fun w hw0=>?_
     have:=hpl w
     rw[if_neg (fun y=>by
      unfold may at y
      unfold dD at hrn
      simp only[Bool.and_eq_true,Bool.or_eq_true,decide_eq_true_eq] at y hrn
      refine hrn ⟨⟨by omega,by omega⟩,?_⟩
      rcases y.2 with (g | g) | g
      ·exact absurd g hem
      ·exact .inl g
      ·exact .inr g)] at this
     exact this
  have hev:=hl.run hv h1 h2
  by_cases h3:v.mode=3
  ·rw[sf hh hv h3];exact h.enter hv (by omega)
  by_cases h4:v.mode=4
  ·have hr:v.runs=false:=fb (by omega)
   rw[sh hh hv h4]
   cases hp:rPick l.rows (i:Int) with
   | none =>
    rw[(pE (by rw[hp];rfl)).1]
    exact h.leave hv ⟨hvg.e,fun g=>by have:(8:Int)=5∨(8:Int)=6∨(8:Int)=7:=g;omega⟩ fun w _=>by
     rw[dK hr,dK (fb (v:={v with mode:=8,ab := -1 }) (by show ¬((8:Int)=5∨(8:Int)=6∨(8:Int)=7);omega))]
   | some z =>
    rw[ng (by rw[hp];rfl),(jg (t:=z.1) (rows':=z.2) hp).1,(jg (t:=z.1) (rows':=z.2) hp).2]
    rw[iD (l:={l with rows:=z.2 }) hv]
    obtain⟨hpn,r0,hr0,ht0⟩:=DC (t:=z.1) (rows':=z.2) hp
    have ht:=h.rg r0 hr0 z.1 ht0
    have hxg:fm {v with mode:=5,ab:=z.1 }:=⟨hvg.e,fun _=>ht⟩
    refine⟨fun w hw=>?_,gU h.v hxg,h.w,by show z.2.length=(l.vs.set i _).length;rw[List.length_set,(wI (t:=z.1) (rows':=z.2) hp).1];exact h.rl,Ku (t:=z.1) (rows':=z.2) hp h.rg⟩
    have g1:=gm (w:=w) hv {v with mode:=5,ab:=z.1 }
    have g2:=h.n w hw
    have g3:=hpn w
    rw[dK hr,iZ (iH hxg (.inl rfl))] at g1
    unfold xk at g2 ⊢
    simp only at g1 g2 ⊢
    omega
  by_cases h5:v.mode=5
  ·have hr:v.runs=true:=iH hvg (.inl h5)
   have hpv:∀ w,jA w v=if v.ab=w then 1 else 0:=fun w=>by rw[iZ hr,hev];rfl
   have q:=Mp ho hk v.ab c
   rw[sj hh hv h5]
   show Pk (l.gR (i:Int) c).2
   by_cases hc:l.aM.class v.ab=2
   ·rw[lb hv hc]
    have hxg:fm {v with mode:=6 }:=⟨hvg.e,fun _=>hvg.t (.inl h5)⟩
    exact h.set (x:={v with mode:=6 }) hv hxg fun w _=>by rw[iZ hr,iZ (iH hxg (.inr (.inl rfl)))]
   ·by_cases hs:(l.aM.run v.ab c).1.aQ=true
    ·rw[nh hv hc hs]
     have hg:¬(l.aM.run v.ab c).1.ck=true:=pW.2 (.inl hs)
     refine(show Pk ((⟨(l.aM.run v.ab c).2.2,l.rows,l.vs.set i (aL.new [⟨2,v.ab,0⟩]),l.waiting,l.locked⟩:Lib).tell (aI (l.aM.run v.ab c).1.ar)) from Pk.yO (l:=l) h q hv (x:=aL.new [⟨2,v.ab,0⟩]) (uU fun e he=>by
      rw[List.mem_singleton.1 he];intro g;exact absurd g (by show ¬(0:Int)<0;omega)) fun w _=>?_)
     have hz:jA w (aL.new [⟨2,v.ab,0⟩])=0:=by
      rw[Cq,List.countP_cons,List.countP_nil]
      have:may w ⟨2,v.ab,0⟩=false:=by unfold may;simp
      rw[this];rfl
     rw[hz,hpv w]
     by_cases e:v.ab=w
     ·rw[if_pos ⟨hg,e.symm⟩,if_pos e]
     ·rw[if_neg (fun y=>e y.2.symm),if_neg e]
    ·by_cases he:(l.aM.run v.ab c).1.ended=true
     ·rw[pF hv hc hs he]
      have hg:¬(l.aM.run v.ab c).1.ck=true:=pW.2 (.inr he)
      refine(show Pk ((⟨(l.aM.run v.ab c).2.2,l.rows,l.vs.set i {v with mode:=3,ab := -1 },l.waiting,l.locked⟩:Lib).tell (aI (l.aM.run v.ab c).1.ar)) from Pk.yO (l:=l) h q hv (x:={v with mode:=3,ab := -1 }) ⟨hvg.e,fun g=>by have:(3:Int)=5∨(3:Int)=6∨(3:Int)=7:=g;omega⟩ fun w _=>?_)
      have hz:jA w {v with mode:=3,ab := -1 }=0:=by
       rw[dK (fb (v:={v with mode:=3,ab := -1 }) (by show ¬((3:Int)=5∨(3:Int)=6∨(3:Int)=7);omega))]
       show v.evs.countP (may w)=0
       rw[hev];rfl
      rw[hz,hpv w]
      by_cases e:v.ab=w
      ·rw[if_pos ⟨hg,e.symm⟩,if_pos e]
      ·rw[if_neg (fun y=>e y.2.symm),if_neg e]
     ·rw[ni hv hc hs he]
      have hg:(l.aM.run v.ab c).1.ck=true:=by unfold kP.ck;simp[hs,he]
      have:=Pk.yO h q hv (b:=l.locked) hvg fun w _=>by rw[if_neg (fun y=>y.1 hg)];rfl
      rw[fy hv] at this
      exact this
  by_cases h6:v.mode=6
  ·rw[sk hh hv h6];exact h.enter hv (by omega)
  by_cases h7:v.mode=7
  ·have hr:v.runs=true:=iH hvg (.inr (.inr h7))
   have hpv:∀ w,jA w v=if v.ab=w then 1 else 0:=fun w=>by rw[iZ hr,hev];rfl
   have q:=Mp ho hk v.ab c
   have hx3:fm {v with mode:=3,ab := -1 }:=⟨hvg.e,fun g=>by have:(3:Int)=5∨(3:Int)=6∨(3:Int)=7:=g;omega⟩
   have hz:∀ w,jA w {v with mode:=3,ab := -1 }=0:=fun w=>by
    rw[dK (fb (v:={v with mode:=3,ab := -1 }) (by show ¬((3:Int)=5∨(3:Int)=6∨(3:Int)=7);omega))]
    show v.evs.countP (may w)=0
    rw[hev];rfl
   rw[sm hh hv h7]
   show Pk (l.inside (i:Int) c).2
   by_cases hg:(l.aM.run v.ab c).1.ck=true
   ·by_cases hy:(l.aM.run v.ab c).1.yielded=true
    ·rw[iX hv hg hy]
     show Pk (Lib.leave _ _ _ _)
     rw[iD (l:=((l.aK v.ab c).2.fD (i:Int) (l.aM.run v.ab c).1.ar).fD (i:Int) [v.ab]) hv]
     exact h.DB q hg (hvg.t (.inr (.inr h7))) hv hx3 fun w _=>by rw[hz w,hpv w,Nat.zero_add]
    ·rw[nj hv hg hy]
     show Pk (Lib.leave _ _ _ _)
     rw[iD (l:=(l.aK v.ab c).2.fD (i:Int) (l.aM.run v.ab c).1.ar) hv]
     have hx5:fm {v with mode:=5,ab:=v.ab }:=⟨hvg.e,fun _=>hvg.t (.inr (.inr h7))⟩
     exact h.Cr q hv hx5 fun w _=>by
      rw[if_neg (fun y=>y.1 hg),iZ hr,iZ (iH hx5 (.inl rfl))];rfl
   ·rw[lf hv hg]
    show Pk (Lib.leave _ _ _ _)
    rw[iD (l:=(l.aK v.ab c).2.fD (i:Int) (l.aM.run v.ab c).1.ar) hv]
    exact h.Cr q hv hx3 fun w _=>by
     rw[hz w,hpv w]
     by_cases e:v.ab=w
     ·rw[if_pos ⟨hg,e.symm⟩,if_pos e]
     ·rw[if_neg (fun y=>e y.2.symm),if_neg e]
  by_cases h8:v.mode=8
  ·cases he:ig l.rows with
   | true=>rw[pH hh hv h8 he];exact h
   | false =>
    rw[pI hh hv h8 he]
    have hx3:fm {v with mode:=3 }:=⟨hvg.e,fun g=>by have:(3:Int)=5∨(3:Int)=6∨(3:Int)=7:=g;omega⟩
    exact h.set (x:={v with mode:=3 }) hv hx3 fun w _=>by
     rw[dK (fb (v:=v) (by omega)),dK (fb (v:={v with mode:=3 }) (by show ¬((3:Int)=5∨(3:Int)=6∨(3:Int)=7);omega))]
  ·rw[so hh hv ⟨h1,h2,h3,h4,h5,h6,h7,h8⟩];exact h
theorem Pk.cF{k:Nat}{l:Lib}(h:Pk l)(ho:fS k l.aM):Pk l.cF:=by
 obtain⟨-,h1, -, -, -, -, -⟩:=ho.1.wA ho.2.2
 refine Pk.wS (fun w hw=>?_) h.v h.w (gT _) h.rl h.rg
 rw[iY]
 have h2:=h.n w hw
 have h3:=h1 w
 show xk w l+_=df l.aM.tick.2 w
 rw[h3,h2];rfl
theorem Pk.fE{k:Nat}{l:Lib}(h:Pk l)(ho:fS k l.aM)(c:Int):Pk (l.fE c):=by
 obtain⟨-,h1, -, -,hs,he, -, -⟩:=ho.1.nB ho.2.2 (c:=c)
 refine Pk.wS (fun w hw=>?_) h.v h.w (gT _) h.rl h.rg
 rw[iY]
 have h2:=h.n w hw
 have h3:=h1 w
 rw[hs,he] at h3
 simp only[Bool.false_eq_true,or_self,if_false,Nat.add_zero] at h3
 show xk w l+_=df (l.aM.done c).2.2 w
 rw[h3,h2]
theorem Pk.new(s:Spc)(p:Int):Pk (Lib.new s p):=by
 have hz:∀ (w:Int) n,sumP w (List.replicate n aL.z)=0:=fun w n=>by
  induction n with
  | zero=>rfl
  | succ n ih=>rw[List.replicate_succ,sumP,ih,Mn]
 have hr:∀ (w:Int) n,rowN w (List.replicate n [])=0:=fun w n=>by
  induction n with
  | zero=>rfl
  | succ n ih=>rw[List.replicate_succ,rowN,ih];rfl
 refine⟨fun w hw=>?_,fun v hv=>by rw[(List.mem_replicate.1 hv).2];exact II,gT _,by show(List.replicate _ _).length=(List.replicate _ _).length;rw[List.length_replicate,List.length_replicate],fun r hr t ht=>by rw[(List.mem_replicate.1 hr).2] at ht;cases ht⟩
 show rowN w (List.replicate _ _)+sumP w (List.replicate _ _)+(aI s.ready).countP (may w)=df s w
 rw[hz,hr,iY,jP];omega
end Go.SLYtpbjdoplfgeliaaGreat
namespace Go.SLYtpbjdoplfgeliaaGreat
open Go Go.RowKit
def Pg(f:Int→Nat):List Int:=(List.range 16).map fun(w:Nat)=>((f (w:Int):Nat):Int)
def Mr(v:aL)(w:Int):Nat:=if v.runs=true∧v.ab=w then 1 else 0
def Ms(l:Lib):Nat→Int→Nat
 | 0,_=>0
 | q+1,w=>Ms l q w+Mr (nG l (q:Int)) w+(l.rows.getD q []).count w
theorem ff.fE{k:Nat}{l:Lib}(h:ff k l)(c:Int):ff (k+1) (l.fE c):=by
 have h0:aD 0 0 l ({l with aM:=(l.aM.done c).2.2 }:Lib):=⟨rfl,rfl,Nat.le_refl _,fun _ h=>h⟩
 have h1:=og l.aM c
 have h2:=gj (l.aM.done c).1.ar
 refine h.of ((h0.trans (aD.tell _ _)).le (by omega) (by omega)) ?_
 show fS (k+2) (Lib.tell _ _).aM
 rw[(dC _ _).1.aM]
 exact h.sp.done c
theorem Lk.fE{l:Lib}(h:Lk l)(c:Int):Lk (l.fE c):=Lk.tell h.same (fO _)
end Go.SLYtpbjdoplfgeliaaGreat
namespace Go.SLYtpbjdoplfgeliaaGreat
open Go Go.RowKit
theorem AO{w:Int}(hw:0≤w)(l:List Ev):Db l w=l.countP (may w):=by
 unfold Db
 rw[← List.countP_eq_length_filter]
 refine List.countP_congr fun e _=>?_
 unfold Hw may dD
 simp only[Bool.and_eq_true,Bool.or_eq_true,decide_eq_true_eq]
 constructor
 ·rintro⟨h,(⟨-,g⟩ | g)⟩
  ·exact⟨h,g.elim (fun x=>.inl (.inr x)) .inr⟩
  ·exact⟨h,.inl (.inl g)⟩
 ·rintro⟨h,g⟩
  refine⟨h,?_⟩
  by_cases hm:0<e.mode
  ·exact .inr hm
  ·exact .inl ⟨⟨by omega,by omega⟩,by omega⟩
theorem AP{t:Int}:∀ {rows:List (List Int)},rowN t rows≤1→(if yq rows t=true then 1 else 0)=rowN t rows
 | [],_=>rfl
 | r::rows,h=>by
  unfold rowN at h ⊢
  have h2:=AP (t:=t) (rows:=rows) (by omega)
  unfold yq at h2 ⊢
  rw[List.any_cons]
  by_cases hc:t∈r
  ·have:=List.count_pos_iff.2 hc
   rw[List.contains_eq_mem,decide_eq_true hc]
   simp only[Bool.true_or,if_true]
   omega
  ·have hz:=List.count_eq_zero.2 hc
   rw[List.contains_eq_mem,decide_eq_false hc,hz,Bool.false_or,h2,Nat.zero_add]
theorem uW{l:Lib}{w:Int}(hw:0≤w)(p:Int):(k4 l w p).length=jA w (nG l p):=by
 unfold k4 jA
 rw[List.length_append,List.length_replicate,AO hw]
 split <;> simp
theorem xo{l:Lib}{w:Int}(hw:0≤w)(hz:∀ v∈l.vs,v.mode=0→jA w v=0):∀ (k:Nat),k≤l.vs.length→((procsFrom (l.vs.drop (l.vs.length-k)) (l.vs.length-k)).flatMap (k4 l w)).length=sumP w (l.vs.drop (l.vs.length-k))
 | 0,_=>by rw[Nat.sub_zero,List.drop_length];rfl
 | k+1,hk=>by
  obtain⟨v,hv⟩:=ak (show l.vs.length - (k+1)<l.vs.length by omega)
  have ih:=xo hw hz k (by omega)
  have e:l.vs.length-k=l.vs.length-(k+1)+1:=by omega
  rw[e] at ih
  rw[drop_cons hv,procsFrom]
  show _=jA w v+sumP w _
  by_cases hm:v.mode=0
  ·rw[if_pos hm,ih,hz v (List.mem_of_getElem? hv) hm];omega
  ·rw[if_neg hm,List.flatMap_cons,List.length_append,ih,uW hw]
   have:nG l ((l.vs.length-(k+1):Nat):Int)=v:=Ae (by unfold Lib.has;rw[aY,hv];simp[hm]) hv
   rw[this]
theorem qO{l:Lib}(h:Pk l)(hl:Lk l){w:Int}(hw:0≤w):(placeOf l w).length=df l.aM w:=by
 have hn:=h.n w hw
 have hr:=uV l.aM w
 have hs:=xo (l:=l) hw (fun v hv hm=>by
  obtain⟨i,hi⟩:=List.mem_iff_getElem?.1 hv
  rw[dK (fb (v:=v) (by omega)),hl.run hi (by omega) (by omega)];rfl) l.vs.length (Nat.le_refl _)
 rw[Nat.sub_self,List.drop_zero] at hs
 unfold placeOf
 rw[List.length_append,List.length_append,List.length_replicate,AO hw,kk]
 unfold xk at hn
 have hrow:=AP (t:=w) (rows:=l.rows) (by omega)
 have hw2:(if yq l.rows w=true then [(⟨2,(whereFrom w l.rows 0).1⟩:Mz)] else []).length=rowN w l.rows:=by
  rw[← hrow];split <;> rfl
 rw[hw2]
 show(l.procs.flatMap (k4 l w)).length+_+_=_
 rw[show l.procs=procsFrom l.vs 0 from rfl,hs]
 omega
/-! the whole system -/
structure xp(i:Nat)(s:Sy):Prop where
 b:yQ i s
 k:∀ l∈s.k.libs,Lk l
 p:∀ l∈s.k.libs,Pk l
theorem uX{Q:Lib→Prop}{ls:List Lib}{j:Nat}{x:Lib}(h:∀ l∈ls,Q l)(hx:Q x):∀ l∈ls.set j x,Q l:=fun l hl=>by
 rcases List.mem_or_eq_of_mem_set hl with hl | rfl
 ·exact h l hl
 ·exact hx
theorem Ft{Q:Lib→Prop}{m:Nat}{k:Krn}(hk:qY m k)(p c:Int)(h:∀ l∈k.libs,Q l)(hs:∀ l∈k.libs, ∀ p,Q (l.step p c).2.2):∀ l∈(k.step p c).2.libs,Q l:=by
 by_cases e:dy k p=0
 ·obtain⟨i,j,l,rfl,ho,hl, -⟩:=dA hk e
  rw[iF ho hl]
  exact uX h (hs l (List.mem_of_getElem? hl) _)
 ·rw[gC e];exact h
theorem IK{Q:Lib→Prop}{m:Nat}{k:Krn}(hk:qY m k)(p:Int)(h:∀ l∈k.libs,Q l)(hs:∀ l∈k.libs, ∀ p,Q (l.preempt p).2):∀ l∈(k.preempt p).2.libs,Q l:=by
 by_cases e:dy k p=0
 ·obtain⟨i,j,l,rfl,ho,hl, -⟩:=dA hk e
  rw[pM ho hl]
  exact uX h (hs l (List.mem_of_getElem? hl) _)
 ·rw[mF e];exact h
theorem Fu{Q:Lib→Prop}{k:Krn}(n c:Int)(h:∀ l∈k.libs,Q l)(hs:∀ l∈k.libs,Q (l.fE c)):∀ l∈(k.done n c).2.libs,Q l:=by
 unfold Krn.done
 cases e:aB k.libs n with
 | none=>exact h
 | some l=>exact uX h (hs l (List.mem_of_getElem? (bQ e).2.2))
theorem xp.do{i:Nat}{s:Sy}(h:xp i s)(hi:i≤400)(x:oB):xp (i+1) (s.do x).2:=by
 have hb:=h.b.do hi x
 have ho:∀ l∈s.k.libs,fS (i+2) l.aM:=fun l hl=>(h.b.k.gY l hl).sp
 have key:(∀ l∈(s.do x).2.k.libs,Lk l∧Pk l):=by
  have hq:∀ l∈s.k.libs,Lk l∧Pk l:=fun l hl=>⟨h.k l hl,h.p l hl⟩
  unfold Sy.do
  split
  ·exact Ft (Q:=fun l=>Lk l∧Pk l) h.b.k.ok x.a x.b hq fun l hl p=>⟨(h.k l hl).step p x.b,(h.p l hl).step (h.k l hl) (ho l hl) (by omega) p x.b⟩
  ·split
   ·intro l hl
    obtain⟨y,hy,rfl⟩:=List.mem_map.1 hl
    exact⟨(h.k y hy).cF,(h.p y hy).cF (ho y hy)⟩
   ·split
    ·exact Fu (Q:=fun l=>Lk l∧Pk l) x.a x.b hq fun l hl=>⟨(h.k l hl).fE _,(h.p l hl).fE (ho l hl) _⟩
    ·split
     ·exact IK (Q:=fun l=>Lk l∧Pk l) h.b.k.ok x.a hq fun l hl p=>⟨(h.k l hl).preempt p,(h.p l hl).preempt p⟩
     ·split
      ·exact hq
      ·split
       ·exact nm (Q:=fun l=>Lk l∧Pk l) (fun l p g=>⟨g.1.dq p,g.2.dq g.1 p⟩) (fun l p g=>⟨g.1.cK p,g.2.cK p⟩) _ _ hq
       ·exact hq
 exact⟨hb,fun l hl=>(key l hl).1,fun l hl=>(key l hl).2⟩
theorem xp.new{procs:Int}{ps:List fc}(h:dL procs ps=0)(hw:∀ p∈ps, ∀ f∈p.funcs, ∀ i∈f,fC i.n):xp 0 (Sy.new procs ps):=by
 have key:∀ l∈(Sy.new procs ps).k.libs,Lk l∧Pk l:=nm (Q:=fun l=>Lk l∧Pk l) (fun l p g=>⟨g.1.dq p,g.2.dq g.1 p⟩) (fun l p g=>⟨g.1.cK p,g.2.cK p⟩) _ _ fun l hl=>by
  obtain⟨p, -,rfl⟩:=List.mem_map.1 hl
  exact⟨Lk.new _ _,Pk.new _ _⟩
 exact⟨yQ.new h hw,fun l hl=>(key l hl).1,fun l hl=>(key l hl).2⟩
theorem AQ{l:Lib}(h:Pk l)(hl:Lk l):∀ n,rightIn l n=true
 | 0=>rfl
 | n+1=>by
  rw[rightIn,AQ h hl n,Bool.true_and,qO h hl (by omega)]
  refine decide_eq_true ?_
  by_cases hr:(n:Int)∈l.aM.ready
  ·rw[if_pos (by rw[List.contains_eq_mem];exact decide_eq_true hr)];exact mem_ready.1 hr
  ·rw[if_neg (by rw[List.contains_eq_mem,decide_eq_false hr];simp)];exact qx.1 hr
theorem AR{k:Krn}(h:∀ l∈k.libs,Pk l)(hl:∀ l∈k.libs,Lk l):∀ n,n≤k.libs.length→sa k n=true
 | 0,_=>rfl
 | n+1,hn=>by
  obtain⟨l,hln⟩:=ak (show n<k.libs.length by omega)
  rw[sa,AR h hl n (by omega),bA hln,AQ (h l (List.mem_of_getElem? hln)) (hl l (List.mem_of_getElem? hln))];rfl
theorem rD{n:Int}:∀ {o:List Int} {k i:Nat},o[i]?=some n→((k+i:Nat):Int)∈posFrom n o k
 | [],_,_,h=>by simp at h
 | x::o,k,i,h=>by
  unfold posFrom
  cases i with
  | zero =>
   obtain rfl:x=n:=by simpa using h
   rw[if_pos rfl];exact List.mem_cons_self ..
  | succ i =>
   have:=rD (o:=o) (k:=k+1) (i:=i) (by simpa using h)
   rw[show k+1+i=k+(i+1) by omega] at this
   split
   ·exact List.mem_cons_of_mem _ this
   ·exact this
theorem IL{k:Krn}(ha:gS k){p:Nat}(hp:p<k.owner.length)(hov:∀ v∈k.owner,v = -1∨(0≤v∧v<(k.libs.length:Int))):∀ n,n≤k.libs.length→Dc k p n=true
 | 0,_=>rfl
 | n+1,hn=>by
  obtain⟨l,hln⟩:=ak (show n<k.libs.length by omega)
  obtain⟨o,hop⟩:=ak hp
  rw[Dc,IL ha hp hov n (by omega),bA hln,Bool.true_and]
  refine decide_eq_true ?_
  have hm:l.procs.contains (p:Int)=decide (o=(n:Int)):=by
   rw[List.contains_eq_mem,ha.procs hln]
   refine decide_eq_decide.2 ⟨fun h=>?_,fun h=>?_⟩
   ·obtain⟨i,hi,hi2⟩:=yx h
    have:i=p:=by omega
    subst this
    rw[hop] at hi2
    exact Option.some.inj hi2
   ·have:=rD (k:=0) (show k.owner[p]?=some (n:Int) by rw[hop,h])
    rwa [Nat.zero_add] at this
  rw[hm]
  rcases hov o (List.mem_of_getElem? hop) with h1 | h1
  ·rw[tc (.inr (by unfold CE;rw[Int.toNat_natCast,bA hop,h1]))]
   rw[decide_eq_false (by omega)];rfl
  ·rw[qe hop (by omega)]
   simp only[Bool.true_and]
   exact decide_eq_decide.2 ⟨fun h=>h.symm,fun h=>h.symm⟩
theorem IM{k:Krn}(ha:gS k)(hov:∀ v∈k.owner,v = -1∨(0≤v∧v<(k.libs.length:Int))):∀ p,p≤k.owner.length→Dd k p=true
 | 0,_=>rfl
 | p+1,hp=>by rw[Dd,IM ha hov p (by omega),IL ha (by omega) hov _ (Nat.le_refl _)];rfl
theorem xp.right{i:Nat}{s:Sy}(h:xp i s):Af s.k=true:=by
 unfold Af Hz
 rw[AR h.p h.k _ (Nat.le_refl _),IM h.b.k.ag h.b.k.own _ (Nat.le_refl _)];rfl
end Go.SLYtpbjdoplfgeliaaGreat
namespace Go.SLYtpbjdoplfgeliaaGreat
open Go Go.RowKit
theorem Kv{l:Lib}{p:Int}(h:l.has p=true):∃ (i:Nat) (v:aL),p=(i:Int)∧l.vs[i]?=some v:=by
 obtain⟨i,v,rfl,hv⟩:=mY (s9 h)
 exact⟨i,v,rfl,hv⟩
theorem Cs{l:Lib}(hP:Pk l){p c:Int}(hc:(l.step p c).1.aK=true):∃ (i:Nat) (v:aL),p=(i:Int)∧l.vs[i]?=some v∧l.has p=true∧0≤(l.step p c).1.slot∧1≤jA (l.step p c).1.slot v:=by
 unfold Lib.step at hc ⊢
 by_cases hh:l.has p=true
 ·rw[if_pos hh] at hc ⊢
  obtain⟨i,v,rfl,hv⟩:=Kv hh
  have hvv:l.v (i:Int)=v:=eU hv
  have hg:=hP.v v (List.mem_of_getElem? hv)
  rw[hvv] at hc ⊢
  have run:∀ {d:gg×Lib},d.1.slot=v.ab→(v.mode=5∨v.mode=6∨v.mode=7)→0≤d.1.slot∧1≤jA d.1.slot v:=fun {d} h1 h2=>by
   rw[h1]
   exact⟨hg.t h2,Kt (iH hg h2)⟩
  refine⟨i,v,rfl,hv,hh,?_⟩
  by_cases h1:v.mode=1
  ·simp only[h1,if_true] at hc ⊢
   unfold Lib.upcall at hc ⊢
   rw[hvv] at hc ⊢
   cases he:evWithin v.evs with
   | none=>rw[he] at hc;cases hc
   | some x =>
    obtain⟨x,r⟩:=x
    rw[he] at hc
    simp only at hc ⊢
    have hw:=qN (p:=may x.ab) he
    have hgx:=hg.e x hw.2.1
    unfold Lib.recover at hc ⊢
    by_cases hm:x.mode=7
    ·simp only[hm,if_true]
     show 0≤x.ab∧1≤jA x.ab v
     have h0:0≤x.ab:=by
      rcases hgx (by omega) with h | h
      ·exact h.2
      ·exact absurd hm h.1
     refine⟨h0,?_⟩
     have:may x.ab x=true:=by unfold may;simp[hm]
     rw[if_pos this] at hw
     unfold jA
     omega
    ·simp only[hm,if_false] at hc
     cases hc
  ·simp only[h1,if_false] at hc ⊢
   by_cases h2:v.mode=2
   ·simp only[h2,if_true] at hc;cases hc
   ·simp only[h2,if_false] at hc ⊢
    by_cases h3:v.mode=3
    ·simp only[h3,if_true] at hc;cases hc
    ·simp only[h3,if_false] at hc ⊢
     by_cases h4:v.mode=4
     ·simp only[h4,if_true] at hc;cases hc
     ·simp only[h4,if_false] at hc ⊢
      by_cases h5:v.mode=5
      ·simp only[h5,if_true] at hc ⊢
       refine run ?_ (.inl h5)
       unfold Lib.gR at hc ⊢
       rw[hvv] at hc ⊢
       simp only at hc ⊢
       split at hc
       ·cases hc
       ·rename_i hcl
        rw[if_neg hcl];rfl
      ·simp only[h5,if_false] at hc ⊢
       by_cases h6:v.mode=6
       ·simp only[h6,if_true] at hc;cases hc
       ·simp only[h6,if_false] at hc ⊢
        by_cases h7:v.mode=7
        ·simp only[h7,if_true] at hc ⊢
         refine run ?_ (.inr (.inr h7))
         unfold Lib.inside
         rw[hvv];rfl
        ·simp only[h7,if_false] at hc
         by_cases h8:v.mode=8
         ·simp only[h8,if_true] at hc;cases hc
         ·simp only[h8,if_false] at hc;cases hc
 ·rw[if_neg hh] at hc;cases hc
theorem vK{vs:List aL}:∀ {k i:Nat} {v:aL},vs[i]?=some v→v.mode≠0→((k+i:Nat):Int)∈procsFrom vs k:=by
 induction vs with
 | nil=>intro k i v h;simp at h
 | cons x vs ih =>
  intro k i v h hm
  unfold procsFrom
  cases i with
  | zero =>
   obtain rfl:x=v:=by simpa using h
   rw[if_neg hm];exact List.mem_cons_self ..
  | succ i =>
   have:=ih (k:=k+1) (i:=i) (by simpa using h) hm
   rw[show k+1+i=k+(i+1) by omega] at this
   split
   ·exact this
   ·exact List.mem_cons_of_mem _ this
theorem uY{l:Lib}{w p:Int}:∀ q∈k4 l w p,q.at_=p∧(q.kind=1∨q.kind=3):=fun q hq=>by
 unfold k4 at hq
 rcases List.mem_append.1 hq with h | h
 ·split at h
  ·obtain rfl:=List.mem_singleton.1 h;exact⟨rfl,.inl rfl⟩
  ·cases h
 ·obtain rfl:=(List.mem_replicate.1 h).2;exact⟨rfl,.inr rfl⟩
theorem Fv{l:Lib}(hP:Pk l)(hK:Lk l)(ho:l.aM.aG.length=16){p c:Int}(hc:(l.step p c).1.aK=true):∃ (w:Nat) (q:Mz),(l.step p c).1.slot=(w:Int)∧w<16∧placeOf l (w:Int)=[q]∧q.at_=p∧(q.kind=1∨q.kind=3):=by
 obtain⟨i,v,rfl,hv,hh,h0,hpl⟩:=Cs hP hc
 obtain⟨w,hw⟩:∃ w:Nat,(l.step (i:Int) c).1.slot=(w:Int):=⟨((l.step (i:Int) c).1.slot).toNat,by omega⟩
 rw[hw] at hpl
 have hlen:=qO hP hK (w:=(w:Int)) (by omega)
 have hr:=uV l.aM (w:Int)
 have hat:=uW (l:=l) (w:=(w:Int)) (by omega) (i:Int)
 rw[Ae hh hv] at hat
 have hmode:v.mode≠0:=by
  unfold Lib.has at hh
  rw[aY,hv] at hh
  simpa using hh
 have hin:(i:Int)∈l.procs:=by
  have:=vK (k:=0) hv hmode
  rwa [Nat.zero_add] at this
 obtain⟨q,hq⟩:∃ q,q∈k4 l (w:Int) (i:Int):=by
  cases e:k4 l (w:Int) (i:Int) with
  | nil=>rw[e] at hat;simp only[List.length_nil] at hat;omega
  | cons q _=>exact⟨q,List.mem_cons_self ..⟩
 have hmem:q∈placeOf l (w:Int):=by
  unfold placeOf
  exact List.mem_append_left _ (List.mem_append_left _ (List.mem_flatMap.2 ⟨_,hin,hq⟩))
 have h1:placeOf l (w:Int)=[q]:=by
  cases e:placeOf l (w:Int) with
  | nil=>rw[e] at hmem;cases hmem
  | cons a t =>
   rw[e] at hlen hmem
   simp only[List.length_cons] at hlen
   have:t=[]:=List.eq_nil_of_length_eq_zero (by omega)
   subst this
   obtain rfl:=List.mem_singleton.1 hmem
   rfl
 refine⟨w,q,hw,?_,h1,(uY q hq).1,(uY q hq).2⟩
 rw[h1] at hlen
 have hm:df l.aM (w:Int)=1:=hlen.symm
 rcases Nat.lt_or_ge w 16 with g | g
 ·exact g
 ·have:l.aM.at (w:Int)=none:=by
   unfold Spc.at
   rw[aY,List.getElem?_eq_none_iff.2 (by omega)];rfl
  unfold df at hm
  rw[this] at hm
  cases hm
end Go.SLYtpbjdoplfgeliaaGreat
namespace Go.SLYtpbjdoplfgeliaaGreat
open Go Go.RowKit
def Ph:Sy:=⟨Ol,[0,0],0,[]⟩
theorem xp.j7{i:Nat}{s:Sy}(h:xp i s)(x:oB):(s.do x).2.k.libs.length=s.k.libs.length:=Dx h.b.k.inv x
end Go.SLYtpbjdoplfgeliaaGreat
namespace Go.SLYtpbjdoplfgeliaaGreat
open Go Go.RowKit Go.Proofs Go.Proofs.Tryz
attribute [local irreducible] aq aR bf bq bB Y
end Go.SLYtpbjdoplfgeliaaGreat
namespace Go.SLYtpbjdoplfgeliaaGreat
open Go Go.RowKit Go.Proofs Go.Proofs.Tryz
attribute [local irreducible] aq aR bf bq bB Y
theorem qP{W:World}{b:Nat}{v:Value}{xs:List (Nat×Spc)}{n:Int}(_hl:xs.length≤1000000000):Fn Tryz.prog W 99 [ptr b,.int .i64 n] [arr b 0 [v],sl bP 1 v xs] Unit (fun _=>dR ((aB xs n).map (·.1))) (fun _=>True) (fun _=>[arr b 0 [v],sl bP 1 v xs]):=by
 refine Fn.intro (N:=27) func99 rfl ntmps99 rfl fun F=>?_
 show aq _ _ _ _ _ _ [arr b 0 [v],sl bP 1 v xs,F]
 refine J 15 ?_
 refine .sB (t:=11) rfl (fun h11=>?_) (fun h11=>?_)
 ·refine J 10 ?_
  refine .gw rfl ?_
  refine J 7 ?_
  refine .aP rfl rfl fun w s=>⟨(),?_,trivial,aj .auto s⟩
  rw[eh (by omega)];rfl
 ·refine JD 10 (fun h19=>?_) fun h19=>?_
  ·refine J 7 ?_
   refine .aP rfl rfl fun w s=>⟨(),?_,trivial,aj .auto s⟩
   rw[eh (by omega)];rfl
  ·refine J 9 ?_
   obtain⟨x,hx,hg⟩:=cH (l:=xs) (i:=n) ⟨by omega,by omega⟩
   refine .p (.ix n.toNat rfl rfl (by omega) (by omega)) ?_
   refine .p (.lr rfl hx) ?_
   refine J 4 ?_
   refine .aP rfl rfl fun w s=>⟨(),?_,trivial,aj .auto s⟩
   rw[hg];rfl
theorem uZ{W:World}{b:Nat}{l:List Spc}{n:Int}(hl:l.length≤1000000000)(hg:aB l n=none):Fn Tryz.prog W 50 [ptr b,.int .i64 n] [gh b l] Value (fun u=>u) (fun _=>True) (fun u=>[sl cW 6 u (gi l n),gh b l]):=by
 refine Fn.intro (N:=9) func50 rfl ntmps50 rfl fun F=>?_
 show aq _ _ _ _ _ _ [gh b l,F]
 refine .o2 (C:=gh b l) .auto rfl ?_
 rintro v xs hxs
 have hlx:xs.length=l.length:=by rw[← hxs,List.length_map]
 have hgx:=LY hxs hg
 refine J 9 ?_
 refine .c call99 rfl (qP (xs:=xs) (n:=n) (v:=v) (by omega)) fun _ _=>?_
 rw[hgx]
 refine .c call25 rfl nI fun _ _=>?_
 refine J 4 ?_
 rw[show gi l n=[] from by unfold gi;rw[hg]]
 refine .to (A:=gh b l) (Bs:=[arr b 0 [v],sl bP 1 v xs,aF (fun x:Nat×Spc=>bV x.1 x.2)  xs]) .auto (BS hxs) ?_
 refine .aP rfl rfl fun w s=>⟨(.slice none 0 0),?_,trivial,aj .auto s⟩
 rfl
theorem rJ{W:World}{b:Nat}{l:List Spc}{n:Int}(hl:l.length≤1000000000){s:Spc}(hg:aB l n=some s)(hO:∀ s∈l,gb s):Fn Tryz.prog W 50 [ptr b,.int .i64 n] [gh b l] Value (fun u=>u) (fun _=>True) (fun u=>[sl cW 6 u (gi l n),gh b l]):=by
 refine Fn.intro (N:=9) func50 rfl ntmps50 rfl fun F=>?_
 show aq _ _ _ _ _ _ [gh b l,F]
 refine .o2 (C:=gh b l) .auto rfl ?_
 rintro v xs hxs
 have hlx:xs.length=l.length:=by rw[← hxs,List.length_map]
 obtain⟨q,hgx,hx⟩:=LX hxs hg
 have hos:=hO s (List.mem_of_getElem? (bQ hg).2.2)
 refine J 9 ?_
 refine .c call99 rfl (qP (xs:=xs) (n:=n) (v:=v) (by omega)) fun _ _=>?_
 rw[hgx]
 refine .fr .auto (yw hx) ?_
 refine .c call25 rfl (lE (s:=s) (Nat.le_trans hos.au (by decide))) fun u8 _=>?_
 refine J 4 ?_
 rw[show gi l n=s.au from by unfold gi;rw[hg]]
 refine .to (A:=gh b l) (Bs:=[arr b 0 [v],sl bP 1 v xs,bV q s,aF (fun x:Nat×Spc=>bV x.1 x.2)  (xs.eraseIdx n.toNat)]) .auto (Ak hxs hx) ?_
 exact JR 0 u8
theorem AS{W:World}{b:Nat}{l:List Spc}{n:Int}(hl:l.length≤1000000000)(hO:∀ s∈l,gb s):Fn Tryz.prog W 50 [ptr b,.int .i64 n] [gh b l] Value (fun u=>u) (fun _=>True) (fun u=>[sl cW 6 u (gi l n),gh b l]):=by
 cases hg:aB l n with
 | none=>exact uZ hl hg
 | some s=>exact rJ hl hg hO
theorem Mt{W:World}{b:Nat}{l:List Spc}{a:eN}(hl:l.length≤1000000000)(hO:∀ s∈l,gb s):Fn Tryz.prog W 49 [ptr b,.agg (cR a).toArray] [gh b l] Unit (fun _=>.int .i64 (oDo l a).1) (fun _=>True) (fun _=>[gh b (oDo l a).2]):=by
 refine Fn.intro (N:=60) func49 rfl ntmps49 rfl fun F=>?_
 show aq _ _ _ _ _ _ [gh b l,F]
 refine .o2 (C:=gh b l) .auto rfl ?_
 rintro v xs hxs
 have hlx:xs.length=l.length:=by rw[← hxs,List.length_map]
 refine J 2 ?_
 refine .ai rfl (af.box rfl rfl rfl) ?_
 rintro _ _ ⟨b3,rfl,rfl⟩
 refine .mem (H':=[arr b3 0 (cR a),arr b 0 [v],sl bP 1 v xs,aF (fun x:Nat×Spc=>bV x.1 x.2)  xs,F]) (fun w s=>s) ?_
 refine J 8 ?_
 refine .c call99 rfl (qP (xs:=xs) (n:=a.space) (v:=v) (by omega)) fun _ _=>?_
 refine J 17 ?_
 refine .eQ rfl ?_
 refine JD 8 (fun h19=>?_) fun h19=>?_
 ·refine J 12 ?_
  refine .bm (X:=Nat) [8,25,26,27,28,29,30,31] (fun k=>xs.length-k) (fun k=>k≤xs.length) (fun k=>[(25,some (.int .i64 (k:Int)))]) (fun k=>[arr b3 0 (cR a),arr b 0 [v],sl bP 1 v xs,aF (fun x:Nat×Spc=>bV x.1 x.2)  (Aj k xs),F]) 0 ?_ ?_ ?_ ?_
  ·exact Nat.zero_le _
  ·exact⟨rfl,trivial⟩
  ·simp only[HE];exact fun w s=>aw.kept .auto w s
  rintro k hk
  refine JD 6 (fun h26=>?_) fun h26=>?_
  ·refine J 6 ?_
   obtain⟨⟨q,s⟩,hx⟩:=ak (show k<xs.length by omega)
   have hos:=hO s (by rw[← hxs];exact List.mem_map.2 ⟨_,List.mem_of_getElem? hx,rfl⟩)
   refine J 1 ?_
   refine .p (.lr rfl hx) ?_
   refine J 5 ?_
   refine .fr .auto (JT hx) ?_
   refine .c call24 rfl (qG (s:=s) hos) fun u30 _=>?_
   refine J 7 ?_
   refine .to (A:=aF (fun x:Nat×Spc=>bV x.1 x.2)  (Aj (k+1) xs)) (Bs:=[bV q s.tick.2,aF (fun x:Nat×Spc=>bV x.1 x.2)  ((Aj k xs).eraseIdx k)]) .auto (LZ hx) ?_
   refine .aH (k+1) .auto rfl ?_ ?_ ?_ ?_
   ·omega
   ·show k+1≤_;omega
   ·exact⟨rfl,trivial⟩
   ·exact fun w s=>aw.kept .auto w s
  ·refine J 13 ?_
   obtain rfl:k=xs.length:=by omega
   refine .to (A:=gh b (oDo l a).2) (Bs:=[arr b 0 [v],sl bP 1 v xs,aF (fun x:Nat×Spc=>bV x.1 x.2)  (Aj xs.length xs)]) .auto (HI hxs h19) ?_
   refine .aP rfl rfl fun w s=>⟨(),?_,trivial,aj .auto s⟩
   rw[HJ h19]
 ·refine JD 7 (fun h34=>?_) fun h34=>?_
  ·have hgl:aB l a.space=none:=by
    cases hh:aB xs a.space with
    | none=>rw[← hxs,mA,hh];rfl
    | some x=>rw[hh] at h34;cases h34
   refine J 8 ?_
   rw[HK h19 hgl]
   refine .to (A:=gh b l) (Bs:=[arr b 0 [v],sl bP 1 v xs,aF (fun x:Nat×Spc=>bV x.1 x.2)  xs]) .auto (BS hxs) ?_
   exact JR 0 ()
  ·obtain⟨⟨q,s⟩,hgx⟩:∃ x,aB xs a.space=some x:=by
    cases hh:aB xs a.space with
    | none=>rw[hh] at h34;cases h34
    | some x=>exact⟨x,rfl⟩
   have hx:=(bQ hgx).2.2
   have hgl:aB l a.space=some s:=by rw[← hxs,mA,hgx];rfl
   rw[hgx]
   refine .fr .auto (yw hx) ?_
   have hos:=hO s (List.mem_of_getElem? (bQ hgl).2.2)
   refine JD 8 (fun h38=>?_) fun h38=>?_
   ·refine J 6 ?_
    refine .c call22 rfl (uF (s:=s) hos) fun u45 _=>?_
    refine J 14 ?_
    rw[Di h38 hgl]
    refine .to (A:=gh b (l.set a.space.toNat (s.run a.ab a.choice).2.2)) (Bs:=[arr b 0 [v],sl bP 1 v xs,bV q (s.run a.ab a.choice).2.2,aF (fun x:Nat×Spc=>bV x.1 x.2)  (xs.eraseIdx a.space.toNat)]) .auto (Dh hxs hx _) ?_
    exact JR 0 ()
   ·refine JD 8 (fun h51=>?_) fun h51=>?_
    ·refine J 4 ?_
     refine .c call23 rfl (qF (s:=s) hos) fun u56 _=>?_
     refine J 14 ?_
     rw[Al h51 hgl]
     refine .to (A:=gh b (l.set a.space.toNat (s.done a.choice).2.2)) (Bs:=[arr b 0 [v],sl bP 1 v xs,bV q (s.done a.choice).2.2,aF (fun x:Nat×Spc=>bV x.1 x.2)  (xs.eraseIdx a.space.toNat)]) .auto (Dh hxs hx _) ?_
     exact JR 0 ()
    ·refine J 12 ?_
     rw[HL h19 h38 h51 hgl]
     refine .to (A:=gh b l) (Bs:=[arr b 0 [v],sl bP 1 v xs,bV q s,aF (fun x:Nat×Spc=>bV x.1 x.2)  (xs.eraseIdx a.space.toNat)]) .auto (Ak hxs hx) ?_
     exact JR 0 ()
theorem Kw{W:World}{A:aa}{v:Value}{ps:List aX}(hr:Rd W [A] ej 8 v ps)(hp:∀ p∈ps,fi W [A] p)(hb:ps.length≤1000000000∧ ∀ p∈ps,p.fs.length≤1000000000∧p.bJ.length≤1000000000∧p.bb.length≤1000000000):Fn Tryz.prog W 48 [v] [A] (Option Nat) (fun o=>.tuple #[dR o,.int .i64 (fN (ps.map aX.p))]) (fun o=>o.isSome=decide (fN (ps.map aX.p)=0)) (fun o=>[optH (fun b=>gh b ((ps.map aX.p).map Spc.new)) o,A]):=by
 refine Fn.intro (N:=45) func48 rfl ntmps48 rfl fun F=>?_
 haveI hRI:∀ (H:List aa) [bx H A],aA W H v ej 8 ps:=fun H h=>⟨hr.at h.has⟩
 show aq _ _ _ _ _ _ [A,F]
 have hml:(ps.map aX.p).length=ps.length:=List.length_map ..
 refine J 13 ?_
 apply aR.ga 4 16 12 [12,13,14,15,16] rfl
 ·intro h12
  exact JS 5
 ·intro h12
  exact JS 5
 refine JD 2 (fun h16=>?_) fun h16=>?_
 ·simp only[Bool.or_eq_true,decide_eq_true_eq] at h16
  refine J 8 ?_
  refine .ez rfl rfl rfl fun w s=>⟨none,?_,by rw[rm (by rw[hml];omega)];rfl,aj .auto s⟩
  rw[rm (by rw[hml];omega)];rfl
 ·simp only[Bool.or_eq_false_iff,decide_eq_false_iff_not] at h16
  refine J 4 ?_
  refine .p (.lP ([(.slice none 0 0)]) (by kernel_rfl)) ?_
  refine .ai rfl (af.box rfl rfl rfl) ?_
  rintro _ _ ⟨b18,rfl,rfl⟩
  refine J 6 ?_
  have hke:=ug (ps:=ps.map aX.p) (by rw[hml];omega)
  refine J 6 ?_
  refine .bm (X:=Nat×Value×List (Nat×Spc)) [2,3,6,7,8,21,22,23,24,25,26,27,28,29,30,31,32,33,34,35,36,37,38,39,40,41,42,43] (fun z=>ps.length-z.1) (fun z=>z.1≤ps.length∧z.2.2.length=z.1∧z.2.2.map (·.2)=((ps.map aX.p).take z.1).map Spc.new∧checkAll (ps.map aX.p)=checkAll ((ps.map aX.p).drop z.1)) (fun z=>[(21,some (.int .i64 (z.1:Int)))]) (fun z=>[arr b18 0 [z.2.1],sl bP 1 z.2.1 z.2.2,aF (fun x:Nat×Spc=>bV x.1 x.2)  z.2.2,A,F]) (0,.slice none 0 0,[]) ?_ ?_ ?_ ?_
  ·exact⟨Nat.zero_le _,rfl,rfl,rfl⟩
  ·exact⟨rfl,trivial⟩
  ·exact fun w s=>aw.kept .auto w s
  rintro⟨n,vl,xs⟩ ⟨hk,hxl,hxm0,hck⟩
  simp only at hk hxl hxm0 hck
  refine JD 6 (fun h22=>?_) fun h22=>?_
  ·refine J 6 ?_
   obtain⟨x,hx⟩:=ak (show n<ps.length by omega)
   have hxm:(ps.map aX.p)[n]?=some x.p:=by rw[List.getElem?_map,hx];rfl
   have hpx:=hp x (List.mem_of_getElem? hx)
   have hbx:=hb.2 x (List.mem_of_getElem? hx)
   refine .cM (fun w s=>xI hpx .auto w s) fun hone=>?_
   refine J 1 ?_
   refine .p (.la rfl (Cells.rd Rd.s hx)) ?_
   refine .ai rfl (af.alloc rfl zeroValue52 rfl) ?_
   rintro _ _ ⟨b6,rfl,rfl⟩
   refine .ai rfl (af.KF (by exact sizeOf52) rfl rfl hone rfl) ?_
   rintro _ _ ⟨rfl,rfl⟩
   refine J 5 ?_
   refine .c call20 rfl (uq hpx hbx) fun o ho=>?_
   refine JD 14 (fun h31=>?_) fun h31=>?_
   ·refine J 14 ?_
    refine .ez rfl rfl rfl fun w s=>⟨none,?_,by rw[hke,hck,nH hxm h31];exact(decide_eq_false h31).symm,aj .auto s⟩
    rw[hke,hck,nH hxm h31];rfl
   ·have h31:=Decidable.of_not_not h31
    obtain⟨bs,rfl⟩:=Option.isSome_iff_exists.1 (ho.trans (decide_eq_true h31))
    refine .fr (A:=optH (fun b=>bV b (Spc.new x.p)) (some bs)) (Bs:=[bV bs (Spc.new x.p)]) .auto gN ?_
    refine J 9 ?_
    refine .ai rfl (af.gF 46 rfl rfl (by kernel_rfl)) ?_
    rintro _ _ ⟨b39,rfl,rfl⟩
    refine .ai rfl (af.fJ (enc:=bP) (k:=1) ((bs,Spc.new x.p):Nat×Spc) rfl underlying169 underlying169 typeInfo46 rfl rfl rfl (by decide) rfl rfl rfl .auto rfl .auto (by first | omega | (dsimp only;omega)) rfl) ?_
    rintro _ _ ⟨v40,rfl,rfl⟩
    refine J 2 ?_
    refine .ai rfl (af.l9 sizeOf169 rfl rfl rfl) ?_
    rintro _ _ ⟨rfl,rfl⟩
    refine J 7 ?_
    refine .aH (n+1,v40,xs++[(bs,Spc.new x.p)]) .auto rfl ?_ ?_ ?_ ?_
    ·show ps.length-(n+1)<ps.length-n;omega
    ·exact⟨by show n+1≤_;omega,by simp[hxl],by rw[aU hxm];simp[hxm0],by rw[hck,vx hxm h31]⟩
    ·exact⟨rfl,trivial⟩
    ·show ∀ w,Sat _ w _→Sat _ w (seps [_,sl bP 1 v40 (xs++[(bs,Spc.new x.p)]),aF (fun x:Nat×Spc=>bV x.1 x.2)  (xs++[(bs,Spc.new x.p)]),A,F])
     rw[jZ]
     exact fun w s=>aw.kept .auto w s
  ·obtain rfl:n=ps.length:=by omega
   have hk0:fN (ps.map aX.p)=0:=by rw[hke,hck,List.drop_of_length_le (by rw[hml];omega)];rfl
   have hxx:xs.map (·.2)=((ps.map aX.p).map Spc.new):=by rw[hxm0,List.take_of_length_le (by rw[hml];omega)]
   refine J 13 ?_
   refine .to (A:=gh b18 ((ps.map aX.p).map Spc.new)) (Bs:=[arr b18 0 [vl],sl bP 1 vl xs,aF (fun x:Nat×Spc=>bV x.1 x.2)  xs]) .auto (BS hxx) ?_
   refine .ez rfl rfl rfl fun w s=>⟨some b18,?_,by rw[hk0];rfl,aj .auto s⟩
   rw[hk0];rfl
end Go.SLYtpbjdoplfgeliaaGreat
namespace Go.SLYtpbjdoplfgeliaaGreat
open Go Go.RowKit Go.Proofs Go.Proofs.Tryz
attribute [local irreducible] aq aR bf bq bB Y
theorem DD{a b:eN}:sQ Tryz.prog 55 2 (.agg (cR a).toArray) (.agg (cR b).toArray) (decide (a=b)):=fun d w=>by
 have hs:Tryz.prog.stoodInHeld 55=false:=by kernel_rfl
 have one:∀ (r:eN) (t:TypeId) (i:Nat) (v:Value),(∀ w,(isAgg t).run Tryz.prog w = .ok false w)→(cR r)[i]?=some v→Part Tryz.prog t (cR r).toArray i v:=fun r t i v ha hv=>Part.one ha (by rw[List.getElem?_toArray];exact hv)
 refine(mr underlying55 hs (d+1) _ _ w).trans ?_
 show(Op.eqFields (d+1) _ _ [_,_,_,_]).run Tryz.prog w=_
 have pa0:Part Tryz.prog 3 (cR a).toArray 0 (.int .i64 a.kind):=one a _ 0 _ isAgg3 rfl
 have pb0:Part Tryz.prog 3 (cR b).toArray 0 (.int .i64 b.kind):=one b _ 0 _ isAgg3 rfl
 refine Eq.trans (cS (a:=.int .i64 a.kind) (b:=.int .i64 b.kind) (r:=decide (a.kind=b.kind)) ?_ ?_ ?_ ?_) ?_
 ·decide +kernel
 ·exact pa0
 ·exact pb0
 ·exact(sQ.int underlying3 d w)
 by_cases h0:a.kind=b.kind
 rotate_left
 ·rw[decide_eq_false h0,decide_eq_false (fun e=>h0 (by rw[e])),if_neg (by simp)]
 rw[decide_eq_true h0,if_pos rfl]
 have pa1:Part Tryz.prog 3 (cR a).toArray 1 (.int .i64 a.space):=one a _ 1 _ isAgg3 rfl
 have pb1:Part Tryz.prog 3 (cR b).toArray 1 (.int .i64 b.space):=one b _ 1 _ isAgg3 rfl
 refine Eq.trans (cS (a:=.int .i64 a.space) (b:=.int .i64 b.space) (r:=decide (a.space=b.space)) ?_ ?_ ?_ ?_) ?_
 ·decide +kernel
 ·exact pa1
 ·exact pb1
 ·exact(sQ.int underlying3 d w)
 by_cases h1:a.space=b.space
 rotate_left
 ·rw[decide_eq_false h1,decide_eq_false (fun e=>h1 (by rw[e])),if_neg (by simp)]
 rw[decide_eq_true h1,if_pos rfl]
 have pa2:Part Tryz.prog 3 (cR a).toArray 2 (.int .i64 a.ab):=one a _ 2 _ isAgg3 rfl
 have pb2:Part Tryz.prog 3 (cR b).toArray 2 (.int .i64 b.ab):=one b _ 2 _ isAgg3 rfl
 refine Eq.trans (cS (a:=.int .i64 a.ab) (b:=.int .i64 b.ab) (r:=decide (a.ab=b.ab)) ?_ ?_ ?_ ?_) ?_
 ·decide +kernel
 ·exact pa2
 ·exact pb2
 ·exact(sQ.int underlying3 d w)
 by_cases h2:a.ab=b.ab
 rotate_left
 ·rw[decide_eq_false h2,decide_eq_false (fun e=>h2 (by rw[e])),if_neg (by simp)]
 rw[decide_eq_true h2,if_pos rfl]
 have pa3:Part Tryz.prog 3 (cR a).toArray 3 (.int .i64 a.choice):=one a _ 3 _ isAgg3 rfl
 have pb3:Part Tryz.prog 3 (cR b).toArray 3 (.int .i64 b.choice):=one b _ 3 _ isAgg3 rfl
 refine Eq.trans (cS (a:=.int .i64 a.choice) (b:=.int .i64 b.choice) (r:=decide (a.choice=b.choice)) ?_ ?_ ?_ ?_) ?_
 ·decide +kernel
 ·exact pa3
 ·exact pb3
 ·exact(sQ.int underlying3 d w)
 by_cases h3:a.choice=b.choice
 rotate_left
 ·rw[decide_eq_false h3,decide_eq_false (fun e=>h3 (by rw[e])),if_neg (by simp)]
 rw[decide_eq_true h3,if_pos rfl]
 have e:a=b:=by
  obtain⟨a1,a2,a3,a4⟩:=a
  obtain⟨b1,b2,b3,b4⟩:=b
  simp only at h0 h1 h2 h3
  subst h0 h1 h2 h3
  rfl
 rw[decide_eq_true e]
 simp[Op.eqFields]
theorem qQ{W:World}{A:aa}{u:Value}{acts:List eN}{n:Int}(ha:Rd W [A] cR 4 u acts)(hal:acts.length≤1000000000):Fn Tryz.prog W 21 [u,.int .i64 n] [A] Value (fun w=>w) (fun _=>True) (fun w=>[sl cR 4 w (cn acts n),A]):=by
 refine Fn.intro (N:=34) func21 rfl ntmps21 rfl fun F=>?_
 haveI hRI:∀ (H:List aa) [bx H A],aA W H u cR 4 acts:=fun H h=>⟨ha.at h.has⟩
 show aq _ _ _ _ _ _ [A,F]
 refine J 19 ?_
 refine .bm (X:=Nat×Value) [5,7,10,11,12,13,14,15,16,17,18,19,20,21,22,23,24,25,26,27,28,29,30,31,32] (fun z=>acts.length-z.1) (fun z=>z.1≤acts.length) (fun z=>[(10,some (.int .i64 (z.1:Int))),(5,some z.2)]) (fun z=>[sl cR 4 z.2 (cn (acts.take z.1) n),A,F]) (0,.slice none 0 0) ?_ ?_ ?_ ?_
 ·exact Nat.zero_le _
 ·exact⟨rfl,rfl,trivial⟩
 ·show ∀ w,Sat _ w _→Sat _ w (seps [sl cR 4 (.slice none 0 0) ([]:List eN),A,F])
  exact fun w s=>aw.kept .auto w s
 rintro⟨k,vl⟩ hk
 simp only at hk
 refine JD 6 (fun h11=>?_) fun h11=>?_
 ·refine J 6 ?_
  obtain⟨x,hx⟩:=ak (show k<acts.length by omega)
  have hlk:(cn (acts.take k) n).length≤k:=Nat.le_trans (ik _ _) (by rw[List.length_take];omega)
  refine J 1 ?_
  refine .p (.la rfl (Cells.rd Rd.s hx)) ?_
  refine .ai rfl (af.alloc rfl zeroValue55 rfl) ?_
  rintro _ _ ⟨b7,rfl,rfl⟩
  refine .ai rfl (af.gW (vs:=cR x) (by exact sizeOf55) rfl rfl rfl (by rfl)) ?_
  rintro _ _ ⟨rfl,rfl⟩
  refine JD 11 (fun h17=>?_) fun h17=>?_
  ·refine J 2 ?_
   refine .p (.gJ (fun v1=>[v1,(.int .i64 0),(.int .i64 0),(.int .i64 0)]) rfl (by kernel_rfl)) ?_
   refine .ai rfl (af.gF 55 rfl rfl (by kernel_rfl)) ?_
   rintro _ _ ⟨b20,rfl,rfl⟩
   refine .ai rfl (af.fJ (enc:=cR) (k:=4) (⟨3,0,0,0⟩:eN) rfl underlying36 underlying36 typeInfo55 rfl rfl rfl (by decide) rfl rfl rfl .auto rfl .auto (by first | omega | (dsimp only;omega)) rfl) ?_
   rintro _ _ ⟨v21,rfl,rfl⟩
   refine J 9 ?_
   refine .aH (k+1,v21) .auto rfl ?_ ?_ ?_ ?_
   ·show acts.length-(k+1)<acts.length-k;omega
   ·show k+1≤_;omega
   ·exact⟨rfl,rfl,trivial⟩
   ·show ∀ w,Sat _ w _→Sat _ w (seps [sl cR 4 v21 (cn (acts.take (k+1)) n),A,F])
    rw[od hx,qJ h17]
    exact fun w s=>aw.kept .auto w s
  ·refine JD 9 (fun h26=>?_) fun h26=>?_
   ·refine J 4 ?_
    rw[show(cR x).set 1 (.int .i64 0)=cR {x with space:=0 } from rfl]
    refine J 5 ?_
    refine .ai rfl (af.gF 55 rfl rfl (by kernel_rfl)) ?_
    rintro _ _ ⟨b30,rfl,rfl⟩
    refine .ai rfl (af.fJ (enc:=cR) (k:=4) ({x with space:=0 }:eN) rfl underlying36 underlying36 typeInfo55 rfl rfl rfl (by decide) rfl rfl rfl .auto rfl .auto (by first | omega | (dsimp only;omega)) rfl) ?_
    rintro _ _ ⟨v31,rfl,rfl⟩
    refine J 9 ?_
    refine .aH (k+1,v31) .auto rfl ?_ ?_ ?_ ?_
    ·show acts.length-(k+1)<acts.length-k;omega
    ·show k+1≤_;omega
    ·exact⟨rfl,rfl,trivial⟩
    ·show ∀ w,Sat _ w _→Sat _ w (seps [sl cR 4 v31 (cn (acts.take (k+1)) n),A,F])
     rw[od hx,uK h17 h26]
     exact fun w s=>aw.kept .auto w s
   ·refine J 8 ?_
    refine .aH (k+1,vl) .auto rfl ?_ ?_ ?_ ?_
    ·show acts.length-(k+1)<acts.length-k;omega
    ·show k+1≤_;omega
    ·exact⟨rfl,rfl,trivial⟩
    ·show ∀ w,Sat _ w _→Sat _ w (seps [sl cR 4 vl (cn (acts.take (k+1)) n),A,F])
     rw[od hx,uL h17 h26,List.append_nil]
     exact fun w s=>aw.kept .auto w s
 ·refine J 12 ?_
  obtain rfl:k=acts.length:=by omega
  rw[List.take_length]
  exact JR 0 vl
theorem oA{W:World}{A:aa}{v:Value}{ps:List aX}(hr:Rd W [A] ej 8 v ps)(hp:∀ p∈ps,fi W [A] p)(hb:ps.length≤1000000000∧ ∀ p∈ps,p.fs.length≤1000000000∧p.bJ.length≤1000000000∧p.bb.length≤1000000000)(hw:∀ p∈ps.map aX.p, ∀ f∈p.funcs, ∀ i∈f,fC i.n){u:Value}{acts:List eN}{n:Int}(ha:Rd W [A] cR 4 u acts)(hal:acts.length≤1000):Fn Tryz.prog W 12 [v,.int .i64 n,u] [A] Value (fun w=>.tuple #[w,.int .i64 (lg (ps.map aX.p) n)]) (fun _=>True) (fun w=>[sl cW 6 w (aloneR (ps.map aX.p) n acts),A]):=by
 refine Fn.intro (N:=46) func12 rfl ntmps12 rfl fun F=>?_
 haveI hRI:∀ (H:List aa) [bx H A],aA W H v ej 8 ps:=fun H h=>⟨hr.at h.has⟩
 show aq _ _ _ _ _ _ [A,F]
 have hml:(ps.map aX.p).length=ps.length:=List.length_map ..
 refine J 12 ?_
 apply aR.ga 5 19 14 [14,15,16,17,18,19] rfl
 ·intro h14
  exact JS 6
 ·intro h14
  exact JS 6
 refine JD 2 (fun h19=>?_) fun h19=>?_
 ·simp only[Bool.or_eq_true,decide_eq_true_eq] at h19
  have hgn:aB (ps.map aX.p) n=none:=eh (by rw[hml];omega)
  refine J 8 ?_
  rw[(uM hgn acts).1,(uM hgn acts).2]
  refine .ez rfl rfl rfl fun w s=>⟨(.slice none 0 0),?_,trivial,aj .auto s⟩
  rfl
 ·simp only[Bool.or_eq_false_iff,decide_eq_false_iff_not] at h19
  refine J 7 ?_
  refine .p (.add rfl rfl (by omega)) ?_
  obtain⟨i,rfl⟩:∃ i:Nat,n=(i:Int):=⟨n.toNat,by omega⟩
  obtain⟨p0,hpi⟩:=ak (show i<ps.length by omega)
  have hpm:=List.mem_of_getElem? hpi
  have hgi:aB (ps.map aX.p) (i:Int)=some p0.p:=by rw[aY,List.getElem?_map,hpi];rfl
  have hcut:(ps.take (i+1)).drop i=[p0]:=by
   rw[aU hpi,List.drop_append_of_le_length (by rw[List.length_take];omega),List.drop_of_length_le (by rw[List.length_take];omega)];rfl
  have hrc:Rd W [A] ej 8 (cut 8 i (i+1) v) [p0]:=hcut ▸ hr.cut (Nat.le_succ i) (by omega)
  have hw1:∀ p∈ [p0].map aX.p, ∀ f∈p.funcs, ∀ i∈f,fC i.n:=fun p hp=>hw p (by
   rw[show[p0].map aX.p=[p0.p] from rfl,List.mem_singleton] at hp;subst hp;exact List.mem_map.2 ⟨p0,hpm,rfl⟩)
  refine .p (.I7 i (i+1) underlying22 sizeOf52 rfl rfl rfl Rd.s rfl (by omega) (by omega) (by omega)) ?_
  refine .c call48 rfl (Kw (ps:=[p0]) hrc (fun p hq=>by rw[List.mem_singleton] at hq;subst hq;exact hp p hpm) ⟨by show 1≤_;decide,fun p hq=>by rw[List.mem_singleton] at hq;subst hq;exact hb.2 p hpm⟩) fun o ho=>?_
  rw[show[p0].map aX.p=[p0.p] from rfl,rA] at ho ⊢
  refine JD 14 (fun h30=>?_) fun h30=>?_
  ·refine J 9 ?_
   rw[(xj hgi h30 acts).1,(xj hgi h30 acts).2]
   refine .ez rfl rfl rfl fun w s=>⟨(.slice none 0 0),?_,trivial,aj .auto s⟩
   rfl
  ·have hc:cy p0.p=0:=Decidable.not_not.mp h30
   obtain⟨ka,rfl⟩:=Option.isSome_iff_exists.1 (ho.trans (decide_eq_true hc))
   refine .fr (A:=optH (fun b=>gh b ([p0.p].map Spc.new)) (some ka)) (Bs:=[gh ka [Spc.new p0.p]]) .auto gN ?_
   have hk1:fa 1 [Spc.new p0.p]:=fa.new (ps:=[p0.p]) (by rw[rA];exact hc) hw1
   refine J 7 ?_
   refine .c call21 rfl (qQ (n:=(i:Int)) ha (by omega)) fun u34 _=>?_
   refine J 5 ?_
   refine .bm (X:=Nat) [11,36,37,38,39,40,41,42,43] (fun k=>(cn acts (i:Int)).length-k) (fun k=>k≤(cn acts (i:Int)).length) (fun k=>[(36,some (.int .i64 (k:Int)))]) (fun k=>[gh ka (eP [Spc.new p0.p] ((cn acts (i:Int)).take k)),sl cR 4 u34 (cn acts (i:Int)),A,F]) 0 ?_ ?_ ?_ ?_
   ·exact Nat.zero_le _
   ·exact⟨rfl,trivial⟩
   ·exact fun w s=>aw.kept .auto w s
   rintro k hk
   refine JD 6 (fun h37=>?_) fun h37=>?_
   ·refine J 6 ?_
    obtain⟨x,hx⟩:=ak (show k<(cn acts (i:Int)).length by omega)
    have hlb:=ik acts (i:Int)
    have hok:=sq hk1 (cn acts (i:Int)) k hk (by omega)
    refine .p (.ix k rfl rfl rfl (by omega)) ?_
    refine .p (.la rfl (Cells.rd Rd.s hx)) ?_
    refine .ai rfl (af.alloc rfl zeroValue55 rfl) ?_
    rintro _ _ ⟨b11,rfl,rfl⟩
    refine .ai rfl (af.gW (vs:=cR x) (by exact sizeOf55) rfl rfl rfl (by rfl)) ?_
    rintro _ _ ⟨rfl,rfl⟩
    refine J 5 ?_
    refine .c call49 rfl (Mt (l:=eP [Spc.new p0.p] ((cn acts (i:Int)).take k)) (a:=x) (by rw[uN];exact(by decide:1≤1000000000)) (hok.aM (by have:=ik acts (i:Int);omega))) fun _ _=>?_
    rw[← qA hx]
    refine J 7 ?_
    refine .aH (k+1) .auto rfl ?_ ?_ ?_ ?_
    ·omega
    ·show k+1≤_;omega
    ·exact⟨rfl,trivial⟩
    ·exact fun w s=>aw.kept .auto w s
   ·refine J 8 ?_
    obtain rfl:k=(cn acts (i:Int)).length:=by omega
    have hok:=sq hk1 (cn acts (i:Int)) _ (Nat.le_refl _) (by have:=ik acts (i:Int);omega)
    rw[List.take_length] at hok ⊢
    refine .c call50 rfl (AS (l:=eP [Spc.new p0.p] (cn acts (i:Int))) (n:=0) (by rw[uN];exact(by decide:1≤1000000000)) (hok.aM (by have:=ik acts (i:Int);omega))) fun u45 _=>?_
    refine J 5 ?_
    rw[(qK hgi hc acts).1,(qK hgi hc acts).2]
    exact JR 0 u45
theorem rE{W:World}  : Fn Tryz.prog W 9 [] [] Unit (fun _=>.bool true) (fun _=>True) (fun _=>[]):=by
 refine Fn.intro (N:=49) func9 rfl ntmps9 rfl fun F=>?_
 show aq _ _ _ _ _ _ [F]
 refine J 7 ?_
 refine .p (.fH (fun v1 v2=>[v1,v2,(.int .i64 0),(.int .i64 0),(.int .u64 0)]) rfl rfl (by kernel_rfl)) ?_
 refine .ai rfl (af.gF 94 rfl rfl (by kernel_rfl)) ?_
 rintro _ _ ⟨b6,rfl,rfl⟩
 refine .ai rfl (af.gF 95 rfl rfl (by kernel_rfl)) ?_
 rintro _ _ ⟨b7,rfl,rfl⟩
 refine .p (.gJ (fun _=>ej (jD b6 b7)) rfl (by kernel_rfl)) ?_
 refine .ai rfl (af.alloc rfl zeroValue52 rfl) ?_
 rintro _ _ ⟨b1,rfl,rfl⟩
 refine J 5 ?_
 refine .p (.vk (fun v1 v2 v3=>[v1,v2,(.int .i64 0),v3]) rfl rfl rfl (by kernel_rfl)) ?_
 refine .p (.fH (fun v1 v2=>[v1,v2,(.int .i64 0),(.int .i64 0)]) rfl rfl (by kernel_rfl)) ?_
 refine .p (.gJ (fun v1=>[v1,(.int .i64 0),(.int .i64 0),(.int .i64 0)]) rfl (by kernel_rfl)) ?_
 refine .ai rfl (af.gF 55 rfl rfl (by kernel_rfl)) ?_
 rintro _ _ ⟨b12,rfl,rfl⟩
 refine .c call21 rfl (qQ (A:=arr b12 0 (rows cR Ob)) (acts:=Ob) (n:=1) (Rd.lit .here rfl (fun _ _=>rfl) rfl) (by decide)) fun u13 _=>?_
 rw[OV]
 refine J 7 ?_
 refine .ai rfl (af.gF 52 rfl rfl (by kernel_rfl)) ?_
 rintro _ _ ⟨b17,rfl,rfl⟩
 refine .p (.fH (fun v1 v2=>[v1,v2,(.int .i64 0),(.int .i64 0)]) rfl rfl (by kernel_rfl)) ?_
 refine .ai rfl (af.gF 55 rfl rfl (by kernel_rfl)) ?_
 rintro _ _ ⟨b19,rfl,rfl⟩
 refine .c call12 rfl (oA (A:=NC b6 b7 b17 b19) (v:=rZ b17 2) (u:=rZ b19 1) (ps:=[jD b6 b7,jD b6 b7]) (acts:=NB) (n:=1) IC Kq L2 OP Fg (by decide)) fun u20 _=>?_
 rw[show[jD b6 b7,jD b6 b7].map aX.p=[FC,FC] from rfl,OW,OX]
 refine J 1 ?_
 refine .p (.extract (v:=u20) rfl rfl) ?_
 refine .p (.extract (v:=.int .i64 0) rfl rfl) ?_
 refine J 11 ?_
 refine .g (.ix 0 rfl rfl rfl (by decide)) ?_
 refine .g (.la rfl (Cells.rd Rd.s (show Oc[0]?=some ⟨1,0,0,3⟩ from rfl))) ?_
 refine .g (.fH (fun v1 v2=>[v1,(.int .i64 0),(.int .i64 0),v2]) rfl rfl (by kernel_rfl)) ?_
 refine .g (.Nq (Y.KG (by kernel_rfl) (DD (a:=⟨1,0,0,3⟩) (b:=⟨1,0,0,3⟩)) rfl rfl rfl) (decide_eq_true rfl)) ?_
 refine J 3 ?_
 refine .g (.ix 1 rfl rfl rfl (by decide)) ?_
 refine .g (.la rfl (Cells.rd Rd.s (show Oc[1]?=some ⟨3,0,0,0⟩ from rfl))) ?_
 refine .g (.gJ (fun v1=>[v1,(.int .i64 0),(.int .i64 0),(.int .i64 0)]) rfl (by kernel_rfl)) ?_
 refine .g (.Nq (Y.KG (by kernel_rfl) (DD (a:=⟨3,0,0,0⟩) (b:=⟨3,0,0,0⟩)) rfl rfl rfl) (decide_eq_true rfl)) ?_
 exact JR 14 ()
end Go.SLYtpbjdoplfgeliaaGreat
