/- Walks of functions, and what they compute. Conditions: none, this text proves no statement. -/
import Derived.Test.YthlllpngkljgfaaGreatG07
import Derived.Test.YthlllpngkljgfaaGreatProg
import Derived.Test.YthlllpngkljgfaaGreatG11
import Derived.Test.YthlllpngkljgfaaGreatG05
import Derived.KernelRfl
import Derived.Test.YthlllpngkljgfaaGreatG06
set_option maxRecDepth 20000
set_option maxHeartbeats 4000000
namespace Go.SLYthlllpngkljgfaaGreat
open Go Go.RowKit Go.Proofs Go.Proofs.Tryz
attribute [local irreducible] ar aM bm bA bE Y
theorem vJ{W:World}{b:Nat}{bl:List Nat}{k:Krn}{A:aa}{v:Value}{prio:List Int}{turn:Int}{m:Nat}(hpr:Rd W [A] au 1 v prio)(hpl:prio.length≤1000000000)(hk:nZ m k):Fn Tryz.prog W 121 [ptr b,v,.int .i64 turn] [bu b bl k,A] Value (fun u=>u) (fun _=>True) (fun u=>[sl au 1 u (k.targets prio turn),bu b bl k,A]):=by
 refine Fn.intro (N:=14) func121 rfl ntmps121 rfl fun F=>?_
 haveI hRI:∀ (H:List aa) [bj H A],ax W H v au 1 prio:=fun H h=>⟨hpr.at h.has⟩
 show ar _ _ _ _ _ _ [bu b bl k,A,F]
 refine J 8 ?_
 refine .c call71 rfl l5 fun _ _=>?_
 refine J 1 ?_
 refine .c call166 rfl (AP hk) fun u10 _=>?_
 refine J 2 ?_
 refine .c call165 rfl (CC (A:=seps [sl au 1 u10 k.demand,A]) (demand:=k.demand) (prio:=prio) (Rd.eU (Rd.sl .here)) (Rd.eU (hpr.at (.there .here))) ⟨hpl,Hw hk⟩) fun u13 _=>?_
 refine J 4 ?_
 refine .dY .auto ?_
 refine .aJ rfl rfl fun w s=>⟨_,?_,trivial,aj .auto s⟩
 rfl
theorem sf{W:World}{b:Nat}{bl:List Nat}{k:Krn}{A:aa}{v:Value}{prio:List Int}{turn:Int}{m:Nat}(hpr:Rd W [A] au 1 v prio)(hpl:prio.length≤1000000000)(hi:Inv m k)(hm:m≤200000000):Fn Tryz.prog W 61 [ptr b,v,.int .i64 turn] [bu b bl k,A] Unit (fun _=>.int .i64 ((k.share prio turn).2:Int)) (fun _=>True) (fun _=>[bu b bl (k.share prio turn).1,A]):=by
 refine Fn.intro (N:=73) func61 rfl ntmps61 rfl fun F=>?_
 haveI hRI:∀ (H:List aa) [bj H A],ax W H v au 1 prio:=fun H h=>⟨hpr.at h.has⟩
 show ar _ _ _ _ _ _ [bu b bl k,A,F]
 refine J 10 ?_
 refine .c call121 rfl (vJ hpr hpl hi.ok) fun u17 _=>?_
 obtain⟨want,hwt⟩:∃ want,want=k.targets prio turn:=⟨_,rfl⟩
 have htf:=ob hi.ok prio turn
 have hsh:k.share prio turn=dK want 0 (takeFrom want 0 (k,0)):=by rw[hwt];rfl
 rw[← hwt] at htf ⊢
 rw[hsh]
 have hll:=hi.ok.ll
 refine J 17 ?_
 refine .aX (X:=Nat×Krn×Nat) [8,9,10,12,20,21,22,23,24,25,26,27,28,29,30,31,32,33,34,35,36,37,38,39,40,41,42,43,44,45,46,47] (fun z=>want.length-z.1) (fun z=>z.1≤want.length∧Inv (m+2 * z.2.2) z.2.1∧z.2.2≤64 * z.1∧z.2.1.libs.length=k.libs.length∧z.2.1.owner.length=k.owner.length∧takeFrom want 0 (k,0)=takeFrom (want.drop z.1) z.1 (z.2.1,z.2.2)) (fun z=>[(20,some (.int .i64 (z.1:Int))),(8,some (.int .i64 (z.2.2:Int)))]) (fun z=>[sl au 1 u17 want,bu b bl z.2.1,A,F]) (0,k,0) ?_ ?_ ?_ ?_
 ·exact⟨Nat.zero_le _,hi,Nat.zero_le _,rfl,rfl,rfl⟩
 ·exact⟨rfl,rfl,trivial⟩
 ·exact fun w s=>aq.kept .auto w s
 rintro⟨n,k1,mv⟩ ⟨hn,hi1,hmv,hl1,ho1,htk⟩
 simp only at hn hi1 hmv hl1 ho1 htk
 refine JD 6 (fun h21=>?_) fun h21=>?_
 ·refine J 6 ?_
  obtain⟨w,hw⟩:=ak (show n<want.length by omega)
  have hw64:=htf.2.1 w (List.mem_of_getElem? hw)
  obtain⟨l,hl⟩:=ak (show n<k1.libs.length by omega)
  have hlo:=hi1.ok.gE l (List.mem_of_getElem? hl)
  refine J 8 ?_
  refine .c call48 rfl ff fun _ _=>?_
  refine .o3 (C:=bu b bl k1) .auto rfl ?_
  rintro vo vl xs ⟨hxb,hxs⟩
  have hxl:=ay hxs
  have hbl:=ay hxb
  have hxx:=And.intro hxb hxs
  obtain⟨x,hx,hxe,hbx⟩:=dU hxb hxs hl
  rw[bf,hbx]
  subst hxe
  refine .fr .auto (cc (f:=fun x:Nat×Lib=>cn x.1 x.2) hx) ?_
  refine .o2 (C:=cn x.1 x.2) .auto rfl ?_
  rintro bs br -
  refine .c call81 rfl (jt (l:=x.2) (Nat.le_trans hlo.vl (by decide))) fun u26 _=>?_
  refine .to (A:=aO (fun x:Nat×Lib=>cn x.1 x.2) xs) .auto (cK (f:=fun x:Nat×Lib=>cn x.1 x.2) hx) ?_
  refine .to (A:=bu b bl k1) .auto rS ?_
  refine J 11 ?_
  refine .p (.lr rfl hw) ?_
  refine .p (.kC rfl rfl) ?_
  refine .p (.sliceFrom (min x.2.procs.length w.toNat) underlying50 sizeOf3 rfl rfl Rd.s (by omega) (by omega)) ?_
  obtain⟨ps,hps⟩:∃ ps,ps=x.2.procs.drop w.toNat:=⟨_,rfl⟩
  have hpl64:x.2.procs.length≤64:=Nat.le_trans (jk _ _) hlo.vl
  have hpsl:ps.length≤64:=by rw[hps,List.length_drop];omega
  have hcut:=(Rd.sl (W:=W) (H:=[sl au 1 u26 x.2.procs]) .here).cut (lo:=min x.2.procs.length w.toNat) (hi:=x.2.procs.length) (by omega) (Nat.le_refl _)
  rw[List.take_length,Hy, ← hps] at hcut
  haveI hIc:∀ (H:List aa) [bj H (sl au 1 u26 x.2.procs)],ax W H (cut 1 (min x.2.procs.length w.toNat) x.2.procs.length u26) au 1 ps:=fun H h=>⟨hcut.at h.has⟩
  refine J 5 ?_
  refine .aX (X:=Nat×Krn) [8,12,37,38,39,40,41,42,43,44,45,46] (fun z=>ps.length-z.1) (fun z=>z.1≤ps.length∧Inv (m+2 * (mv+z.1)) z.2∧z.2.libs.length=k.libs.length∧z.2.owner.length=k.owner.length∧eG (ps.drop z.1) z.2=eG ps k1) (fun z=>[(37,some (.int .i64 (z.1:Int))),(8,some (.int .i64 ((mv+z.1:Nat):Int)))]) (fun z=>[sl au 1 u26 x.2.procs,sl au 1 u17 want,bu b bl z.2,A,F]) (0,k1) ?_ ?_ ?_ ?_
  ·exact⟨Nat.zero_le _,hi1,hl1,ho1,rfl⟩
  ·exact⟨rfl,rfl,trivial⟩
  ·exact fun w s=>aq.kept .auto w s
  rintro⟨j,k2⟩ ⟨hj,hi2,hl2,ho2,hta⟩
  simp only at hj hi2 hl2 ho2 hta
  refine JD 6 (fun h38=>?_) fun h38=>?_
  ·refine J 6 ?_
   obtain⟨p,hp⟩:=ak (show j<ps.length by omega)
   refine J 9 ?_
   refine .c call122 rfl (Fm (k:=k2) hi2.ok (by omega)) fun _ _=>?_
   refine J 4 ?_
   refine .p (.fm (Y.add rfl rfl (by dsimp only;omega)) (show((mv+j:Nat):Int)+1=((mv+(j+1):Nat):Int) from by omega)) ?_
   refine J 8 ?_
   refine .aw (j+1,(k2.take p).2) .auto rfl ?_ ?_ ?_ ?_
   ·show ps.length-(j+1)<ps.length-j;omega
   ·exact⟨by show j+1≤_;omega,hi2.take p,(nE hi2.ok p).1.trans hl2,(nE hi2.ok p).2.trans ho2,by rw[← hta,drop_cons hp];rfl⟩
   ·exact⟨rfl,rfl,trivial⟩
   ·exact fun w s=>aq.kept .auto w s
  ·obtain rfl:j=ps.length:=by omega
   rw[List.drop_length] at hta
   refine J 10 ?_
   refine .aw (n+1,k2,mv+ps.length) .auto rfl ?_ ?_ ?_ ?_
   ·show want.length-(n+1)<want.length-n;omega
   ·exact⟨by show n+1≤_;omega,hi2,by show mv+ps.length≤64 * (n+1);omega,hl2,ho2,by rw[htk,EE hw hl hps, ← hta];rfl⟩
   ·exact⟨rfl,rfl,trivial⟩
   ·exact fun w s=>aq.kept .auto w s
 ·obtain rfl:n=want.length:=by omega
  rw[List.drop_length,takeFrom] at htk
  have hrm:want≠[]→Room want k1:=fun hne=>by have:=ED hi (htf.2.2.2 hne) htf.2.2.1;rw[htk] at this;exact this
  rw[htk]
  have hmv5:mv≤512:=by omega
  refine J 14 ?_
  refine .aX (X:=Nat×Krn×Nat) [8,13,50,51,52,53,54,55,56,57,58,59,60,61,62,63,64,65,66,67,68,69,70,71] (fun z=>want.length-z.1) (fun z=>z.1≤want.length∧Inv (m+2 * z.2.2) z.2.1∧z.2.2≤512+64 * z.1∧z.2.1.libs.length=k.libs.length∧(want≠[]→Room want z.2.1)∧dK want 0 (k1,mv)=dK (want.drop z.1) z.1 (z.2.1,z.2.2)) (fun z=>[(50,some (.int .i64 (z.1:Int))),(8,some (.int .i64 (z.2.2:Int)))]) (fun z=>[sl au 1 u17 want,bu b bl z.2.1,A,F]) (0,k1,mv) ?_ ?_ ?_ ?_
  ·exact⟨Nat.zero_le _,hi1,by show mv≤512+64 * 0;omega,hl1,hrm,rfl⟩
  ·exact⟨rfl,rfl,trivial⟩
  ·exact fun w s=>aq.kept .auto w s
  rintro⟨n,k3,mv3⟩ ⟨hn3,hi3,hmv3,hl3,hr3,hgv⟩
  simp only at hn3 hi3 hmv3 hl3 hr3 hgv
  refine JD 6 (fun h51=>?_) fun h51=>?_
  ·refine J 6 ?_
   obtain⟨w,hw⟩:=ak (show n<want.length by omega)
   have hw64:=htf.2.1 w (List.mem_of_getElem? hw)
   have hne:want≠[]:=by rintro rfl;simp at hw
   refine J 5 ?_
   refine .aX (X:=Nat×Krn) [8,13,53,54,55,56,57,58,59,60,61,62,63,64,65,66,67,68,69,70] (fun z=>w.toNat-z.2.owner.count (n:Int)) (fun z=>Inv (m+2 * (mv3+z.1)) z.2∧Room want z.2∧z.2.libs.length=k.libs.length∧z.1+(w.toNat-z.2.owner.count (n:Int))=w.toNat-k3.owner.count (n:Int)∧giveTo (w.toNat-z.2.owner.count (n:Int)) (n:Int) z.2=giveTo (w.toNat-k3.owner.count (n:Int)) (n:Int) k3) (fun z=>[(13,some (.int .i64 (n:Int))),(8,some (.int .i64 ((mv3+z.1:Nat):Int)))]) (fun z=>[sl au 1 u17 want,bu b bl z.2,A,F]) (0,k3) ?_ ?_ ?_ ?_
   ·exact⟨hi3,hr3 hne,hl3,by simp,rfl⟩
   ·exact⟨rfl,rfl,trivial⟩
   ·exact fun w s=>aq.kept .auto w s
   rintro⟨j,k2⟩ ⟨hi2,hr2,hlk2,hjc,hgt⟩
   simp only at hi2 hr2 hlk2 hjc hgt
   refine J 2 ?_
   refine .draw [sl au 1 u17 want] [1,1,2,2,1,0,0,0,0,1] rfl (by kernel_rfl) ?_
   have hnl2:n<k2.libs.length:=by omega
   obtain⟨l2,hl2⟩:=ak hnl2
   refine J 2 ?_
   refine .c2 call48 rfl ff fun _ _=>?_
   refine .o3 (C:=bu b bl k2) .auto rfl ?_
   rintro vo vl xs ⟨hxb,hxs⟩
   have hxl:=ay hxs
   have hbl:=ay hxb
   have hxx:=And.intro hxb hxs
   obtain⟨x,hx,hxe,hbx⟩:=dU hxb hxs hl2
   rw[bf,hbx]
   subst hxe
   refine .fr .auto (cc (f:=fun x:Nat×Lib=>cn x.1 x.2) hx) ?_
   refine .o2 (C:=cn x.1 x.2) .auto rfl ?_
   rintro bs br -
   refine .c2 call81 rfl (jt (l:=x.2) (Nat.le_trans (hi2.ok.gE x.2 (List.mem_of_getElem? hl2)).vl (by decide))) fun u56 _=>?_
   refine .to (A:=aO (fun x:Nat×Lib=>cn x.1 x.2) xs) .auto (cK (f:=fun x:Nat×Lib=>cn x.1 x.2) hx) ?_
   refine .to (A:=bu b bl k2) .auto rS ?_
   refine J 4 ?_
   refine .q (.lr rfl hw) ?_
   refine JD 3 (fun h62=>?_) fun h62=>?_
   ·have hpc:x.2.procs.length=k2.owner.count (n:Int):=by rw[hi2.ag.procs hl2];exact iv _ _ _
    have hlt:k2.owner.count (n:Int)<w.toNat:=by omega
    obtain⟨i,r,hf,hoi,hmin⟩:=EC (hr2.free hi2.ok hw hlt)
    have hol:=hi2.ok.ol
    have hfl:k2.free.length≤64:=Nat.le_trans (by rw[show k2.free=posFrom (-1) k2.owner 0 from mZ _ _,iv];exact List.count_le_length) hol
    have hrg:=hr2.eX hw hlt hoi hl2
    refine J 7 ?_
    refine .c call27 rfl (rh (k:=k2) hol) fun u65 _=>?_
    refine .c call124 rfl (NY (A:=sl au 1 u65 k2.free) (xs:=k2.free) (Rd.sl .here) (by omega) (by rw[hf];simp)) fun _ _=>?_
    rw[hmin]
    refine J 1 ?_
    refine .c call123 rfl (Fo (k:=k2) (p:=(i:Int)) (n:=(n:Int)) hi2.ok (by omega)) fun _ _=>?_
    refine J 4 ?_
    refine .p (.fm (Y.add rfl rfl (by dsimp only;omega)) (show((mv3+j:Nat):Int)+1=((mv3+(j+1):Nat):Int) from by omega)) ?_
    refine J 3 ?_
    refine .aw (j+1,(k2.eX (i:Int) (n:Int)).2) .auto rfl ?_ ?_ ?_ ?_
    ·show w.toNat-(k2.eX (i:Int) (n:Int)).2.owner.count (n:Int)<w.toNat-k2.owner.count (n:Int);rw[hrg.2];omega
    ·exact⟨hi2.eX hoi hl2,hrg.1,hrg.1.len.symm.trans (hr2.len.trans hlk2),by show j+1+(w.toNat-(k2.eX (i:Int) (n:Int)).2.owner.count (n:Int))=_;rw[hrg.2];omega,by show giveTo (w.toNat-(k2.eX (i:Int) (n:Int)).2.owner.count (n:Int)) (n:Int) (k2.eX (i:Int) (n:Int)).2=_;rw[hrg.2, ← hgt,show w.toNat-k2.owner.count (n:Int)=(w.toNat-(k2.owner.count (n:Int)+1))+1 from by omega,giveTo,hf];rfl⟩
    ·exact⟨rfl,rfl,trivial⟩
    ·exact fun w s=>aq.kept .auto w s
   ·have hpc:x.2.procs.length=k2.owner.count (n:Int):=by rw[hi2.ag.procs hl2];exact iv _ _ _
    have hge:w.toNat-k2.owner.count (n:Int)=0:=by omega
    rw[hge] at hjc hgt
    refine J 10 ?_
    refine .aw (n+1,k2,mv3+j) .auto rfl ?_ ?_ ?_ ?_
    ·show want.length-(n+1)<want.length-n;omega
    ·exact⟨by show n+1≤_;omega,hi2,by show mv3+j≤512+64 * (n+1);omega,hlk2,fun _=>hr2,by rw[hgv,EF hw hi3 (by omega), ← hgt, ← hjc];rfl⟩
    ·exact⟨rfl,rfl,trivial⟩
    ·exact fun w s=>aq.kept .auto w s
  ·obtain rfl:n=want.length:=by omega
   rw[List.drop_length,dK] at hgv
   refine J 12 ?_
   rw[hgv]
   exact JR 0 ()
end Go.SLYthlllpngkljgfaaGreat
namespace Go.SLYthlllpngkljgfaaGreat
open Go Go.RowKit Go.Proofs Go.Proofs.Tryz
attribute [local irreducible] ar aM bm bA bE Y
end Go.SLYthlllpngkljgfaaGreat
namespace Go.SLYthlllpngkljgfaaGreat
open Go Go.RowKit Go.Proofs Go.Proofs.Tryz
attribute [local irreducible] ar aM bm bA bE Y
end Go.SLYthlllpngkljgfaaGreat
namespace Go.SLYthlllpngkljgfaaGreat
open Go Go.RowKit Go.Proofs Go.Proofs.Tryz
attribute [local irreducible] ar aM bm bA bE Y
theorem uV{W:World}{b bs br:Nat}{l:Lib}{A:aa}{v:Value}{ts:List Int}(hr:Rd W [A] au 1 v ts)(htl:ts.length≤1000000)(hl:l.waiting.length≤400000000∧l.vs.length≤1000000000∧ ∀ y∈l.vs,y.evs.length≤400000000):Fn Tryz.prog W 126 [ptr b,v] [aW b bs br l,A] Unit (fun _=>.tuple #[]) (fun _=>True) (fun _=>[aW b bs br (l.tell (aB ts)),A]):=by
 refine Fn.intro (N:=22) func126 rfl ntmps126 rfl fun F=>?_
 haveI hRI:∀ (H:List aa) [bj H A],ax W H v au 1 ts:=fun H h=>⟨hr.at h.has⟩
 show ar _ _ _ _ _ _ [aW b bs br l,A,F]
 refine J 14 ?_
 refine .aX (X:=Nat×Value) [4,6,9,10,11,12,13,14,15,16,17,18] (fun z=>ts.length-z.1) (fun z=>z.1≤ts.length) (fun z=>[(9,some (.int .i64 (z.1:Int))),(4,some z.2)]) (fun z=>[sl bP 3 z.2 (aB (ts.take z.1)),aW b bs br l,A,F]) (0,.slice none 0 0) ?_ ?_ ?_ ?_
 ·exact Nat.zero_le _
 ·exact⟨rfl,rfl,trivial⟩
 ·exact fun w s=>aq.kept .auto w s
 rintro⟨k,u⟩ hk
 simp only at hk
 refine JD 6 (fun h10=>?_) fun h10=>?_
 ·refine J 6 ?_
  obtain⟨n,hx⟩:=ak (show k<ts.length by omega)
  refine J 8 ?_
  refine .p (.fF (fun v1 v2=>[v1,v2,(.int .i64 0)]) rfl rfl (by kernel_rfl)) ?_
  refine .ai rfl (ae.gC 87 rfl rfl (by kernel_rfl)) ?_
  rintro _ _ ⟨b16,rfl,rfl⟩
  refine .ai rfl (ae.gh (enc:=bP) (k:=3) (⟨3,n,0⟩:Ev) rfl underlying75 underlying75 typeInfo87 rfl rfl rfl (by decide) rfl rfl rfl .auto rfl .auto (by unfold aB;rw[List.length_map,List.length_take];omega) rfl) ?_
  rintro _ _ ⟨v17,rfl,rfl⟩
  refine J 8 ?_
  refine .aw (k+1,v17) .auto rfl ?_ ?_ ?_ ?_
  ·show ts.length-(k+1)<ts.length-k;omega
  ·show k+1≤_;omega
  ·exact⟨rfl,rfl,trivial⟩
  ·show ∀ w,Sat _ w _→Sat _ w (seps [sl bP 3 v17 (aB (ts.take (k+1))),aW b bs br l,A,F])
   rw[tv hx]
   exact fun w s=>aq.kept .auto w s
 ·refine J 8 ?_
  obtain rfl:k=ts.length:=by omega
  rw[List.take_length]
  refine .c call37 rfl (jR (l:=l) (A:=sl bP 3 u (aB ts)) (Rd.sl .here) ⟨by rw[eD];omega,hl⟩) fun _ _=>?_
  exact JR 1 ()
theorem yO{W:World}{b:Nat}{bl:List Nat}{k:Krn}{p:Int}{m:Nat}(hk:nU m k):Fn Tryz.prog W 67 [ptr b,.int .i64 p] [bu b bl k] Unit (fun _=>.int .i64 (k.preempt p).1) (fun _=>True) (fun _=>[bu b bl (k.preempt p).2]):=by
 refine Fn.intro (N:=19) func67 rfl ntmps67 rfl fun F=>?_
 show ar _ _ _ _ _ _ [bu b bl k,F]
 refine J 9 ?_
 refine .c call127 rfl (ri hk.ok) fun _ _=>?_
 refine JD 14 (fun h14=>?_) fun h14=>?_
 ·refine .o3 (C:=bu b bl k) .auto rfl ?_
  rintro vo vl xs ⟨hxb,hxs⟩
  have hxl:=ay hxs
  have hbl:=ay hxb
  have hxx:=And.intro hxb hxs
  obtain⟨i,n,l,rfl,ho,hl, -⟩:=dE hk.ok h14
  obtain⟨x,hx,rfl,hbx⟩:=dU hxb hxs hl
  have hlo:=hk.gE x.2 (List.mem_of_getElem? hl)
  rw[sK ho hl]
  rw[(jE (bl:=bl) ho).2,(jE (bl:=bl) ho).1,hbx]
  refine .fr .auto (cc (f:=fun x:Nat×Lib=>cn x.1 x.2) hx) ?_
  refine .o2 (C:=cn x.1 x.2) .auto rfl ?_
  rintro bs br -
  refine J 3 ?_
  refine .c call35 rfl (sd (l:=x.2) (b:=x.1) (bs:=bs) (br:=br) (p:=(i:Int)) hlo.1) fun _ _=>?_
  refine .to (A:=aO (fun x:Nat×Lib=>cn x.1 x.2) (xs.set n (x.1,(x.2.preempt (i:Int)).2))) .auto (kn (f:=fun x:Nat×Lib=>cn x.1 x.2) (x.1,(x.2.preempt (i:Int)).2) hx) ?_
  have hss:=nA hxb hxs hx (x.2.preempt (i:Int)).2
  refine .to (A:=sl cQ 1 vl (xs.set n (x.1,(x.2.preempt (i:Int)).2))) (Bs:=[sl cQ 1 vl xs]) .auto (qM (hxb.trans hss.1.symm)) ?_
  exact JR 9 ()
 ·refine J 9 ?_
  rw[qn h14]
  exact JR 0 ()
theorem Fq{W:World}{b:Nat}{bl:List Nat}{k:Krn}{q c:Int}{m:Nat}(hk:nU m k):Fn Tryz.prog W 66 [ptr b,.int .i64 q,.int .i64 c] [bu b bl k] Unit (fun _=>.int .i64 (k.done q c).1) (fun _=>True) (fun _=>[bu b bl (k.done q c).2]):=by
 refine Fn.intro (N:=27) func66 rfl ntmps66 rfl fun F=>?_
 show ar _ _ _ _ _ _ [bu b bl k,F]
 refine J 9 ?_
 refine .c call48 rfl ff fun _ _=>?_
 refine JD 10 (fun h14=>?_) fun h14=>?_
 ·refine .o3 (C:=bu b bl k) .auto rfl ?_
  rintro vo vl xs ⟨hxb,hxs⟩
  have hxl:=ay hxs
  have hbl:=ay hxb
  have hxx:=And.intro hxb hxs
  rw[uA (HY (kG hxb hxs) h14)]
  exact JR 7 ()
 ·refine .o3 (C:=bu b bl k) .auto rfl ?_
  rintro vo vl xs ⟨hxb,hxs⟩
  have hxl:=ay hxs
  have hbl:=ay hxb
  have hxx:=And.intro hxb hxs
  obtain⟨j,x,rfl,hx,hl,hbx⟩:=HZ hxb hxs h14
  have hlo:=hk.gE x.2 (List.mem_of_getElem? hl)
  have hdw:=lU x.2.aK c
  rw[uB hl,bf,hbx]
  refine .fr .auto (cc (f:=fun x:Nat×Lib=>cn x.1 x.2) hx) ?_
  refine .o2 (C:=cn x.1 x.2) .auto rfl ?_
  rintro bs br -
  refine J 5 ?_
  refine .c call49 rfl (ir (b:=x.1) (bs:=bs) (br:=br) (l:=x.2)) fun _ _=>?_
  refine J 1 ?_
  refine .o2 (C:=aW x.1 bs br x.2) .auto rfl ?_
  rintro vv vw -
  refine .c call36 rfl (xj (b:=bs) (s:=x.2.aK) (k:=c) hlo.1.sp) fun u19 _=>?_
  refine .cr (fun w s=>Rd.isSl (Rd.sl .auto) w s) fun hu19=>?_
  refine J 1 ?_
  refine .p (.extract (v:=.agg (mS u19 (x.2.aK.done c).1).toArray) rfl rfl) ?_
  refine .p (.extract (v:=.int .i64 (x.2.aK.done c).2.1) rfl rfl) ?_
  refine .ai rfl (ae.alloc rfl zeroValue66 rfl) ?_
  rintro _ _ ⟨b8,rfl,rfl⟩
  refine .ai rfl (ae.hD (vs:=mS u19 (x.2.aK.done c).1) (by exact sizeOf66) rfl rfl (yy hu19) (by rfl)) ?_
  rintro _ _ ⟨rfl,rfl⟩
  refine J 8 ?_
  refine .c call126 rfl (uV (l:=({x.2 with aK:=(x.2.aK.done c).2.2 }:Lib)) (b:=x.1) (bs:=bs) (br:=br) (A:=sl au 1 u19 (x.2.aK.done c).1.av) (Rd.sl .here) (by omega) ⟨Nat.le_trans hlo.1.wt (by decide),Nat.le_trans hlo.1.vl (by decide),fun y hy=>Nat.le_trans (hlo.1.ev y hy) (by decide)⟩) fun _ _=>?_
  refine .to (A:=aO (fun x:Nat×Lib=>cn x.1 x.2) (xs.set j (x.1,(x.2.eW c)))) .auto (kn (f:=fun x:Nat×Lib=>cn x.1 x.2) (x.1,(x.2.eW c)) hx) ?_
  have hss:=nA hxb hxs hx (x.2.eW c)
  refine .to (A:=sl cQ 1 vl (xs.set j (x.1,(x.2.eW c)))) (Bs:=[sl cQ 1 vl xs]) .auto (qM (hxb.trans hss.1.symm)) ?_
  exact JR 9 ()
theorem Fs{W:World}{b:Nat}{bl:List Nat}{k:Krn}{m:Nat}(hk:nU m k):Fn Tryz.prog W 65 [ptr b] [bu b bl k] Unit (fun _=>.tuple #[]) (fun _=>True) (fun _=>[bu b bl k.tick]):=by
 refine Fn.intro (N:=27) func65 rfl ntmps65 rfl fun F=>?_
 show ar _ _ _ _ _ _ [bu b bl k,F]
 have hll:=hk.ok.ll
 refine J 3 ?_
 refine .c call105 rfl kl fun _ _=>?_
 refine J 4 ?_
 refine .aX (X:=Nat) [2,5,6,7,8,9,10,11,12,13,14,15,16,17,18,19,20,21,22,23,24,25,26] (fun j=>k.libs.length-j) (fun j=>j≤k.libs.length) (fun j=>[(5,some (.int .i64 (j:Int)))]) (fun j=>[bu b bl (k.na j),F]) 0 ?_ ?_ ?_ ?_
 ·exact Nat.zero_le _
 ·exact⟨rfl,trivial⟩
 ·rw[EX];exact fun w s=>aq.kept .auto w s
 rintro j hj
 refine JD 6 (fun h6=>?_) fun h6=>?_
 ·obtain⟨l,hl⟩:=ak (show j<k.libs.length by omega)
  have hlt:=JT hl
  refine .o3 (C:=bu b bl (k.na j)) .auto rfl ?_
  rintro vo vl xs ⟨hxb,hxs⟩
  have hxx:=And.intro hxb hxs
  obtain⟨x,hx,rfl,hbx⟩:=dU hxb hxs hlt
  have hil:=(List.getElem?_eq_some_iff.1 hx).1
  have hlo:=hk.gE x.2 (List.mem_of_getElem? hl)
  have hdu:=Nat.le_trans (pS x.2.aK.aT) hlo.1.sp.wl
  have hst:=HX hl
  refine J 10 ?_
  refine .draw [arr b 0 [vo,vl],sl cQ 1 vl xs] [0,0,0,0,0,0,0,1,1,1,1,1,1,1,2,2,1,3] rfl (by kernel_rfl) ?_
  refine J 5 ?_
  refine .q (.ix j rfl rfl rfl hil) ?_
  refine .q (.lr rfl hx) ?_
  refine J 5 ?_
  refine .p (.ix j rfl rfl rfl hil) ?_
  refine .p (.lr rfl hx) ?_
  refine .fr .auto (cc (f:=fun x:Nat×Lib=>cn x.1 x.2) hx) ?_
  refine .o2 (C:=cn x.1 x.2) .auto rfl ?_
  rintro bs br -
  refine .c2 call49 rfl (ir (b:=x.1) (bs:=bs) (br:=br) (l:=x.2)) fun _ _=>?_
  refine .o2 (C:=aW x.1 bs br x.2) .auto rfl ?_
  rintro vv vw -
  refine .c2 call39 rfl (xk (b:=bs) (s:=x.2.aK) hlo.1.sp) fun u23 _=>?_
  refine .p (.field 0 50 underlying66 rfl isAgg50 rfl rfl) ?_
  refine .c call126 rfl (uV (l:=({x.2 with aK:=x.2.aK.tick.2 }:Lib)) (b:=x.1) (bs:=bs) (br:=br) (A:=sl au 1 u23 x.2.aK.aT.due) (Rd.sl .here) hdu ⟨Nat.le_trans hlo.1.wt (by decide),Nat.le_trans hlo.1.vl (by decide),fun y hy=>Nat.le_trans (hlo.1.ev y hy) (by decide)⟩) fun _ _=>?_
  refine .to (A:=aO (fun x:Nat×Lib=>cn x.1 x.2) (xs.set j (x.1,x.2.cv))) .auto (kn (f:=fun x:Nat×Lib=>cn x.1 x.2) (x.1,x.2.cv) hx) ?_
  have hss:=nA hxb hxs hx x.2.cv
  refine .to (A:=sl cQ 1 vl (xs.set j (x.1,x.2.cv))) (Bs:=[sl cQ 1 vl xs]) .auto (qM (hxb.trans hss.1.symm)) ?_
  rw[hst] at hss
  refine J 7 ?_
  refine .aw (j+1) .auto rfl ?_ ?_ ?_ ?_
  ·omega
  ·show j+1≤_;omega
  ·exact⟨rfl,trivial⟩
  ·exact fun w s=>aq.kept .auto w s
 ·refine J 4 ?_
  obtain rfl:j=k.libs.length:=by omega
  rw[HW]
  exact JR 0 ()
end Go.SLYthlllpngkljgfaaGreat
namespace Go.SLYthlllpngkljgfaaGreat
open Go Go.RowKit
def sr(b:Nat)(s:Sy):aa:=oq (fun _ _=>True) fun(kb:Nat) (bl:List Nat)=>[fD b kb bl s]
theorem do_1{s:Sy}{x:qC}(h:x.kind=1):s.do x=s.qp x.a x.b:=by unfold Sy.do;rw[if_pos h]
theorem Kh{s:Sy}{x:qC}(h1:¬x.kind=1)(h:x.kind=2):s.do x=(0,s.Ag):=by unfold Sy.do;rw[if_neg h1,if_pos h]
theorem Ft{s:Sy}{x:qC}(h1:¬x.kind=1)(h2:¬x.kind=2)(h:x.kind=3):s.do x=s.pW x.a x.b:=by unfold Sy.do;rw[if_neg h1,if_neg h2,if_pos h]
theorem Mc{s:Sy}{x:qC}(h1:¬x.kind=1)(h2:¬x.kind=2)(h3:¬x.kind=3)(h:x.kind=4):s.do x=((s.k.preempt x.a).1,⟨(s.k.preempt x.a).2,s.prio,s.turn,s.log⟩):=by unfold Sy.do;rw[if_neg h1,if_neg h2,if_neg h3,if_pos h]
theorem Md{s:Sy}{x:qC}(h1:¬x.kind=1)(h2:¬x.kind=2)(h3:¬x.kind=3)(h4:¬x.kind=4)(h:x.kind=5):s.do x=(0,⟨s.k,s.prio,x.a,s.log⟩):=by unfold Sy.do;rw[if_neg h1,if_neg h2,if_neg h3,if_neg h4,if_pos h]
theorem Me{s:Sy}{x:qC}(h1:¬x.kind=1)(h2:¬x.kind=2)(h3:¬x.kind=3)(h4:¬x.kind=4)(h5:¬x.kind=5)(h:x.kind=6):s.do x=(0,⟨(s.k.share s.prio s.turn).1,s.prio,s.turn,s.log⟩):=by unfold Sy.do;rw[if_neg h1,if_neg h2,if_neg h3,if_neg h4,if_neg h5,if_pos h]
theorem Ki{s:Sy}{x:qC}(h1:¬x.kind=1)(h2:¬x.kind=2)(h3:¬x.kind=3)(h4:¬x.kind=4)(h5:¬x.kind=5)(h6:¬x.kind=6):s.do x=(1,s):=by unfold Sy.do;rw[if_neg h1,if_neg h2,if_neg h3,if_neg h4,if_neg h5,if_neg h6]
theorem rj{s:Sy}{p c:Int}(h:(s.k.step p c).1.2.1.aL=true):(s.qp p c).2=⟨(s.k.step p c).2,s.prio,s.turn,s.log++[⟨1,(s.k.step p c).1.1,(s.k.step p c).1.2.1.slot,c⟩]⟩:=by unfold Sy.qp jf;rw[if_pos h]
theorem uW{s:Sy}{p c:Int}(h:(s.k.step p c).1.2.1.aL=false):(s.qp p c).2=⟨(s.k.step p c).2,s.prio,s.turn,s.log⟩:=by unfold Sy.qp jf;rw[if_neg (by rw[h];simp),List.append_nil]
theorem Fu{s:Sy}{n c:Int}(h:(s.k.done n c).1=0):(s.pW n c).2=⟨(s.k.done n c).2,s.prio,s.turn,s.log++[⟨2,n,0,c⟩]⟩:=by unfold Sy.pW;rw[if_pos h]
theorem AS{s:Sy}{n c:Int}(h:¬(s.k.done n c).1=0):(s.pW n c).2=⟨(s.k.done n c).2,s.prio,s.turn,s.log⟩:=by unfold Sy.pW;rw[if_neg h,List.append_nil]
def Sy.aC(s:Sy)(n:Int):List Rec:=match aU s.k.libs n with | none=>[] | some l=>l.aK.aC
def Sy.mem(s:Sy)(n:Int):List Int:=match aU s.k.libs n with | none=>[] | some l=>l.aK.mem
theorem sM{s:Sy}{n:Int}(h:aU s.k.libs n=none):s.aC n=[]∧s.mem n=[]:=by unfold Sy.aC Sy.mem;rw[h];exact⟨rfl,rfl⟩
theorem DH{s:Sy}{j:Nat}{l:Lib}(h:s.k.libs[j]?=some l):s.aC (j:Int)=l.aK.aC∧s.mem (j:Int)=l.aK.mem:=by unfold Sy.aC Sy.mem;rw[bf,h];exact⟨rfl,rfl⟩
theorem Kj{m:Nat}{s:Sy}(h:nU m s.k)(n:Int):(s.aC n).length≤1000000000∧(s.mem n).length≤1000000000:=by
 cases e:aU s.k.libs n with
 | none=>rw[(sM e).1,(sM e).2];exact⟨Nat.zero_le _,Nat.zero_le _⟩
 | some l =>
  obtain⟨-, -,hl⟩:=cB e
  have hs:=(h.gE l (List.mem_of_getElem? hl)).1.sp
  unfold Sy.aC Sy.mem
  rw[e]
  exact⟨Nat.le_trans hs.aC (by decide),Nat.le_trans hs.mem (by decide)⟩
end Go.SLYthlllpngkljgfaaGreat
namespace Go.SLYthlllpngkljgfaaGreat
open Go Go.RowKit
def OT(b:Nat)(k:Krn)(prio:List Int):aa:=oq (fun _ _=>True) fun(kb:Nat) (v:Value)=>[arr b 0 [ptr kb,v,.int .i64 0,.slice none 0 0],Gv kb k,sl au 1 v prio]
def N1:Krn:=Krn.new 1 [A9,A9]
def Nd:Krn:=(N1.share [0,0] 0).1
theorem KP:ee 1 [A9,A9]=0:=by kernel_rfl
def ID:Lib:=Nd.libs.getD 0 Bn
def Mf:Lib:=Nd.libs.getD 1 Bn
theorem Nf:placeOf ID 0=[⟨3,0⟩]:=by kernel_rfl
theorem Ng:placeOf Mf 0=[⟨4, -1⟩]:=by kernel_rfl
theorem Nh:placeOf ID 1=[]:=by kernel_rfl
theorem xo:Nd.libs[0]?=some ID:=by kernel_rfl
theorem IE:Nd.libs[1]?=some Mf:=by kernel_rfl
def OU(k:Krn):Bool:=k.libs.all fun l=>l.vs.all (fun v=>decide (v.evs.length≤1000000)) && decide (l.waiting.length≤1000000) && decide (l.rows.length≤64) && l.rows.all (fun r=>decide (r.length≤1000000))
theorem Fv{ps:List aS}{n:Nat}{x:aS}(h:ps[n]?=some x):(ps.take (n+1)).map (·.prio)=(ps.take n).map (·.prio)++[x.prio]:=by rw[aQ h,List.map_append];rfl
end Go.SLYthlllpngkljgfaaGreat
namespace Go.SLYthlllpngkljgfaaGreat
open Go Go.RowKit Go.Proofs Go.Proofs.Tryz
attribute [local irreducible] ar aM bm bA bE Y
theorem iO{W:World}{A:aa}{v:Value}{ps:List aS}{procs:Int}(hr:Rd W [A] ez 8 v ps)(hp:∀ p∈ps,eE W [A] p)(hb:ps.length≤1000000000∧ ∀ p∈ps,p.fs.length≤1000000000∧p.bF.length≤1000000000∧p.bb.length≤1000000000):Fn Tryz.prog W 14 [.int .i64 procs,v] [A] (Option Nat) (fun o=>.tuple #[ef o,.int .i64 (ee procs (ps.map aS.p))]) (fun o=>o.isSome=decide (ee procs (ps.map aS.p)=0)) (fun o=>[optH (fun b=>sr b (Sy.new procs (ps.map aS.p))) o,A]):=by
 refine Fn.intro (N:=48) func14 rfl ntmps14 rfl fun F=>?_
 haveI hRI:∀ (H:List aa) [bj H A],ax W H v ez 8 ps:=fun H h=>⟨hr.at h.has⟩
 show ar _ _ _ _ _ _ [A,F]
 have hml:(ps.map aS.p).length=ps.length:=List.length_map ..
 have hpm:(ps.map aS.p).map (·.prio)=ps.map (·.prio):=by rw[List.map_map];rfl
 refine J 10 ?_
 refine .c call60 rfl (IB hr hp hb) fun o ho=>?_
 refine JD 14 (fun h18=>?_) fun h18=>?_
 ·refine J 9 ?_
  refine .fk rfl rfl rfl fun w s=>⟨none,?_,(decide_eq_false h18).symm,aj (by repeat (first | exact aq.nil | (apply aq.cons; · repeat (first | exact Take.here | apply Take.there)) | apply aq.Gq | apply aq.Gr | apply aq.void | apply aq.Gj | apply aq.two | (apply aq.Bt; · exact fT) | (apply aq.allM; · exact fun _=>fT) | apply aq.f1 rfl | apply aq.f2 rfl | apply aq.f3 rfl | apply aq.f4 rfl | apply aq.f10 rfl | apply aq.eU | assumption | exact trivial | rfl | omega | (focus (obtain⟨rfl⟩:o=none:=by simpa [h18] using ho)))) s⟩
  rfl
 ·have h18:=Decidable.of_not_not h18
  obtain⟨kb,rfl⟩:=Option.isSome_iff_exists.1 (ho.trans (decide_eq_true h18))
  have hi:=(iw h18).1
  have hps8:ps.length≤8:=by have:=(iw h18).2.2.2.2.2;omega
  refine .fr (A:=optH (fun b=>Gv b (Krn.new procs (ps.map aS.p))) (some kb)) (Bs:=[Gv kb (Krn.new procs (ps.map aS.p))]) .auto fc ?_
  refine .o1 (C:=Gv kb (Krn.new procs (ps.map aS.p))) .auto rfl ?_
  rintro bl -
  refine J 5 ?_
  refine .p (.hZ (fun v1=>[v1,(.slice none 0 0),(.int .i64 0),(.slice none 0 0)]) rfl (by kernel_rfl)) ?_
  refine .ai rfl (ae.box rfl rfl rfl) ?_
  rintro _ _ ⟨b22,rfl,rfl⟩
  refine J 12 ?_
  refine .aX (X:=Nat×Value) [10,25,26,27,28,29,30,31,32,33,34,35,36,37,38,39,40] (fun z=>ps.length-z.1) (fun z=>z.1≤ps.length) (fun z=>[(25,some (.int .i64 (z.1:Int)))]) (fun z=>[arr b22 0 [ptr kb,z.2,.int .i64 0,.slice none 0 0],sl au 1 z.2 ((ps.take z.1).map (·.prio)),bu kb bl (Krn.new procs (ps.map aS.p)),A,F]) (0,.slice none 0 0) ?_ ?_ ?_ ?_
  ·exact Nat.zero_le _
  ·exact⟨rfl,trivial⟩
  ·exact fun w s=>aq.kept .auto w s
  rintro⟨n,u⟩ hn
  simp only at hn
  refine JD 6 (fun h26=>?_) fun h26=>?_
  ·refine J 6 ?_
   obtain⟨x,hx⟩:=ak (show n<ps.length by omega)
   have hpx:=hp x (List.mem_of_getElem? hx)
   refine .cr (fun w s=>CV hpx .auto w s) fun hone=>?_
   refine J 1 ?_
   refine .p (.la rfl (Cells.rd Rd.s hx)) ?_
   refine .ai rfl (ae.alloc rfl zeroValue56 rfl) ?_
   rintro _ _ ⟨b10,rfl,rfl⟩
   refine .ai rfl (ae.IX (by exact sizeOf56) rfl rfl hone rfl) ?_
   rintro _ _ ⟨rfl,rfl⟩
   refine J 2 ?_
   refine .draw [arr b22 0 [ptr kb,u,.int .i64 0,.slice none 0 0],arr b10 0 (ez x)] [0,0,0,0,0,1,1,2,2,1,1,3] rfl (by kernel_rfl) ?_
   refine J 7 ?_
   refine .d2 rfl Kept.auto (ae.gC 3 rfl rfl (by kernel_rfl)) (by rintro _ _ ⟨b36,rfl,rfl⟩;exact Kept.auto) ?_
   rintro _ _ ⟨b36,rfl,rfl⟩
   refine .d2 rfl Kept.auto (ae.gh (enc:=au) (k:=1) x.prio rfl underlying50 underlying50 typeInfo3 rfl rfl rfl (by decide) rfl rfl rfl .auto rfl .auto (by rw[List.length_map,List.length_take];omega) rfl) (by rintro _ _ ⟨v37,rfl,rfl⟩;exact Kept.auto) ?_
   rintro _ _ ⟨v37,rfl,rfl⟩
   refine J 2 ?_
   refine .d3 rfl (ae.mr sizeOf50 rfl rfl rfl) ?_
   rintro _ _ ⟨rfl,rfl⟩
   refine J 7 ?_
   refine .aw (n+1,v37) .auto rfl ?_ ?_ ?_ ?_
   ·show ps.length-(n+1)<ps.length-n;omega
   ·show n+1≤_;omega
   ·exact⟨rfl,trivial⟩
   ·show ∀ w,Sat _ w _→Sat _ w (seps [_,sl au 1 v37 ((ps.take (n+1)).map (·.prio)),_,A,F])
    rw[Fv hx]
    exact fun w s=>aq.kept .auto w s
  ·obtain rfl:n=ps.length:=by omega
   rw[List.take_length]
   refine J 12 ?_
   refine .c call61 rfl (sf (A:=sl au 1 u (ps.map (·.prio))) (prio:=(ps.map (·.prio))) (turn:=0) (Rd.sl .here) (by rw[List.length_map];omega) hi (by decide)) fun _ _=>?_
   refine J 10 ?_
   rw[show Sy.new procs (ps.map aS.p)=⟨((Krn.new procs (ps.map aS.p)).share (ps.map (·.prio)) 0).1,(ps.map (·.prio)),0,[]⟩ from by unfold Sy.new;rw[hpm]]
   refine .fk rfl rfl rfl fun w s=>⟨some b22,?_,(decide_eq_true h18).symm,aj .auto s⟩
   rw[h18];rfl
theorem cE{W:World}{b kb:Nat}{bl:List Nat}{s:Sy}:Fn Tryz.prog W 20 [ptr b] [fD b kb bl s] Unit (fun _=>ptr kb) (fun _=>True) (fun _=>[fD b kb bl s]):=by
 refine Fn.intro (N:=9) func20 rfl ntmps20 rfl fun F=>?_
 show ar _ _ _ _ _ _ [fD b kb bl s,F]
 refine .o2 (C:=fD b kb bl s) .auto rfl ?_
 rintro v vl -
 refine J 12 ?_
 refine .eK rfl ?_
 exact JR 12 ()
theorem jg{W:World}{b kb:Nat}{bl:List Nat}{s:Sy}(hl:s.log.length≤1000000):Fn Tryz.prog W 17 [ptr b] [fD b kb bl s] Value (fun u=>u) (fun _=>True) (fun u=>[sl fC 4 u s.log,fD b kb bl s]):=by
 refine Fn.intro (N:=11) func17 rfl ntmps17 rfl fun F=>?_
 show ar _ _ _ _ _ _ [fD b kb bl s,F]
 refine .o2 (C:=fD b kb bl s) .auto rfl ?_
 rintro v vl -
 refine J 12 ?_
 refine .eK rfl ?_
 refine J 8 ?_
 refine .c call63 rfl (LV (A:=sl fC 4 vl s.log) (Rd.sl .here) (by omega)) fun u9 _=>?_
 refine .c call62 rfl M5 fun u10 _=>?_
 exact JR 4 u10
theorem IF{W:World}{b kb:Nat}{bl:List Nat}{s:Sy}{p c:Int}{m:Nat}(hk:nU m s.k)(hl:s.log.length≤1000000):Fn Tryz.prog W 64 [ptr b,.int .i64 p,.int .i64 c] [fD b kb bl s] Unit (fun _=>.int .i64 (s.qp p c).1) (fun _=>True) (fun _=>[fD b kb bl (s.qp p c).2]):=by
 refine Fn.intro (N:=38) func64 rfl ntmps64 rfl fun F=>?_
 show ar _ _ _ _ _ _ [fD b kb bl s,F]
 refine .o2 (C:=fD b kb bl s) .auto rfl ?_
 rintro v vl -
 refine J 13 ?_
 refine .c call125 rfl (Fp (k:=s.k) (b:=kb) (bl:=bl) (p:=p) (c:=c) hk) fun u17 _=>?_
 refine .cr (fun w s=>Rd.isSl (Rd.sl .auto) w s) fun hu17=>?_
 refine J 1 ?_
 refine .p (.extract (v:=.int .i64 (s.k.step p c).1.1) rfl rfl) ?_
 refine .p (.extract (v:=.agg (dt u17 (s.k.step p c).1.2.1).toArray) rfl rfl) ?_
 refine .p (.extract (v:=.int .i64 (s.k.step p c).1.2.2) rfl rfl) ?_
 refine .ai rfl (ae.alloc rfl zeroValue68 rfl) ?_
 rintro _ _ ⟨b8,rfl,rfl⟩
 refine J 1 ?_
 refine .ai rfl (ae.hD (vs:=dt u17 (s.k.step p c).1.2.1) (by exact sizeOf68) rfl rfl (cV hu17) (by rfl)) ?_
 rintro _ _ ⟨rfl,rfl⟩
 refine JD 10 (fun h22=>?_) fun h22=>?_
 ·refine .draw [arr b 0 [ptr kb,v,.int .i64 s.turn,vl],arr b8 0 (dt u17 (s.k.step p c).1.2.1)] [0,0,0,0,0,1,1,1,1,1,2,2,1,1,3] rfl (by kernel_rfl) ?_
  refine J 9 ?_
  refine .p (.FW (fun v1 v2 v3 v4=>[v1,v2,v3,v4]) rfl rfl rfl rfl (by kernel_rfl)) ?_
  refine .d2 rfl Kept.auto (ae.gC 42 rfl rfl (by kernel_rfl)) (by rintro _ _ ⟨b33,rfl,rfl⟩;exact Kept.auto) ?_
  rintro _ _ ⟨b33,rfl,rfl⟩
  refine .d2 rfl Kept.auto (ae.gh (enc:=fC) (k:=4) (⟨1,(s.k.step p c).1.1,(s.k.step p c).1.2.1.slot,c⟩:q8) rfl underlying30 underlying30 typeInfo42 rfl rfl rfl (by decide) rfl rfl rfl .auto rfl .auto (by omega) rfl) (by rintro _ _ ⟨v34,rfl,rfl⟩;exact Kept.auto) ?_
  rintro _ _ ⟨v34,rfl,rfl⟩
  refine J 2 ?_
  refine .d3 rfl (ae.mr sizeOf30 rfl rfl rfl) ?_
  rintro _ _ ⟨rfl,rfl⟩
  refine J 9 ?_
  rw[rj h22]
  exact JR 0 ()
 ·refine J 9 ?_
  rw[uW h22]
  exact JR 0 ()
theorem l7{W:World}{b kb:Nat}{bl:List Nat}{s:Sy}{x:qC}{m:Nat}(hk:nU m s.k)(hi:Inv m s.k)(hm:m≤2000000)(hl:s.log.length≤1000000)(hp:s.prio.length≤1000):Fn Tryz.prog W 18 [ptr b,.agg (ga x).toArray] [fD b kb bl s] Unit (fun _=>.int .i64 (s.do x).1) (fun _=>True) (fun _=>[fD b kb bl (s.do x).2]):=by
 refine Fn.intro (N:=94) func18 rfl ntmps18 rfl fun F=>?_
 show ar _ _ _ _ _ _ [fD b kb bl s,F]
 refine J 2 ?_
 refine .ai rfl (ae.box rfl rfl rfl) ?_
 rintro _ _ ⟨b3,rfl,rfl⟩
 refine .mem (H':=[arr b3 0 (ga x),fD b kb bl s,F]) (fun w s=>s) ?_
 refine J 10 ?_
 refine .eK rfl ?_
 refine JD 21 (fun h10=>?_) fun h10=>?_
 ·refine J 6 ?_
  refine .c call64 rfl (IF (s:=s) (p:=x.a) (c:=x.b) hk hl) fun _ _=>?_
  refine J 11 ?_
  rw[do_1 h10]
  exact JR 0 ()
 ·refine JD 6 (fun h18=>?_) fun h18=>?_
  ·refine J 2 ?_
   refine .o2 (C:=fD b kb bl s) .auto rfl ?_
   rintro v vl -
   refine J 4 ?_
   refine .c call65 rfl (Fs (k:=s.k) (b:=kb) (bl:=bl) hk) fun _ _=>?_
   refine J 8 ?_
   refine .p (.hZ (fun v1=>[v1,(.int .i64 0),(.int .i64 0),(.int .i64 0)]) rfl (by kernel_rfl)) ?_
   refine .ai rfl (ae.gC 42 rfl rfl (by kernel_rfl)) ?_
   rintro _ _ ⟨b31,rfl,rfl⟩
   refine .ai rfl (ae.gh (enc:=fC) (k:=4) (⟨3,0,0,0⟩:q8) rfl underlying30 underlying30 typeInfo42 rfl rfl rfl (by decide) rfl rfl rfl .auto rfl .auto (by omega) rfl) ?_
   rintro _ _ ⟨v32,rfl,rfl⟩
   refine J 2 ?_
   refine .ai rfl (ae.mr sizeOf30 rfl rfl rfl) ?_
   rintro _ _ ⟨rfl,rfl⟩
   refine J 10 ?_
   rw[Kh h10 h18]
   exact JR 0 ()
  ·refine JD 6 (fun h35=>?_) fun h35=>?_
   ·refine J 1 ?_
    refine .draw [] [1,1,1,1,1,1,1,1,3,1] rfl (by kernel_rfl) ?_
    refine .o2 (C:=fD b kb bl s) .auto rfl ?_
    rintro v vl -
    refine J 8 ?_
    refine .c call66 rfl (Fq (k:=s.k) (b:=kb) (bl:=bl) (q:=x.a) (c:=x.b) hk) fun _ _=>?_
    refine JD 9 (fun h47=>?_) fun h47=>?_
    ·refine .draw [arr b 0 [ptr kb,v,.int .i64 s.turn,vl],arr b3 0 (ga x)] [0,0,0,0,0,1,1,1,1,1,2,2,1,1,3] rfl (by kernel_rfl) ?_
     refine J 9 ?_
     refine .p (.sk (fun v1 v2 v3=>[v1,v2,(.int .i64 0),v3]) rfl rfl rfl (by kernel_rfl)) ?_
     refine .d2 rfl Kept.auto (ae.gC 42 rfl rfl (by kernel_rfl)) (by rintro _ _ ⟨b58,rfl,rfl⟩;exact Kept.auto) ?_
     rintro _ _ ⟨b58,rfl,rfl⟩
     refine .d2 rfl Kept.auto (ae.gh (enc:=fC) (k:=4) (⟨2,x.a,0,x.b⟩:q8) rfl underlying30 underlying30 typeInfo42 rfl rfl rfl (by decide) rfl rfl rfl .auto rfl .auto (by omega) rfl) (by rintro _ _ ⟨v59,rfl,rfl⟩;exact Kept.auto) ?_
     rintro _ _ ⟨v59,rfl,rfl⟩
     refine J 2 ?_
     refine .d3 rfl (ae.mr sizeOf30 rfl rfl rfl) ?_
     rintro _ _ ⟨rfl,rfl⟩
     refine J 10 ?_
     rw[Ft h10 h18 h35,Fu h47]
     exact JR 0 ()
    ·refine J 10 ?_
     rw[Ft h10 h18 h35,AS h47]
     exact JR 0 ()
   ·refine JD 6 (fun h62=>?_) fun h62=>?_
    ·refine .draw [] [1,1,1,1,1,1,3,1] rfl (by kernel_rfl) ?_
     refine .o2 (C:=fD b kb bl s) .auto rfl ?_
     rintro v vl -
     refine J 6 ?_
     refine .c call67 rfl (yO (k:=s.k) (b:=kb) (bl:=bl) (p:=x.a) hk) fun _ _=>?_
     refine J 11 ?_
     rw[Mc h10 h18 h35 h62]
     exact JR 0 ()
    ·refine JD 6 (fun h71=>?_) fun h71=>?_
     ·refine J 1 ?_
      refine .o2 (C:=fD b kb bl s) .auto rfl ?_
      rintro v vl -
      refine J 16 ?_
      rw[Md h10 h18 h35 h62 h71]
      exact JR 0 ()
     ·refine JD 6 (fun h78=>?_) fun h78=>?_
      ·refine .draw [] [1,1,1,1,1,1,1,1,1,1,1,1,3] rfl (by kernel_rfl) ?_
       refine .o2 (C:=fD b kb bl s) .auto rfl ?_
       rintro v vl -
       refine J 12 ?_
       refine .c call61 rfl (sf (k:=s.k) (b:=kb) (bl:=bl) (A:=sl au 1 v s.prio) (v:=v) (prio:=s.prio) (turn:=s.turn) (Rd.sl .here) (by omega) hi (by omega)) fun _ _=>?_
       refine J 10 ?_
       rw[Me h10 h18 h35 h62 h71 h78]
       exact JR 0 ()
      ·refine J 12 ?_
       rw[Ki h10 h18 h35 h62 h71 h78]
       exact JR 0 ()
end Go.SLYthlllpngkljgfaaGreat
namespace Go.SLYthlllpngkljgfaaGreat
open Go Go.RowKit
theorem xp{l:Lib}{p:Int}(c:Int)(hh:l.has p=true):(l.step p c).2.1=0:=by
 obtain⟨i,v,rfl,hv, -⟩:=gA hh
 by_cases h1:v.mode=1
 ·rw[qd hh hv h1]
 by_cases h2:v.mode=2
 ·rw[qe hh hv h2]
 by_cases h3:v.mode=3
 ·rw[qf hh hv h3]
 by_cases h4:v.mode=4
 ·rw[qg hh hv h4]
 by_cases h5:v.mode=5
 ·rw[qh hh hv h5]
 by_cases h6:v.mode=6
 ·rw[qi hh hv h6]
 by_cases h7:v.mode=7
 ·rw[qj hh hv h7]
 by_cases h8:v.mode=8
 ·cases he:gR l.rows with
  | true=>rw[m5 hh hv h8 he]
  | false=>rw[m6 hh hv h8 he]
 ·rw[qk hh hv ⟨h1,h2,h3,h4,h5,h6,h7,h8⟩]
theorem Fw{l:Lib}{p c:Int}(h:(l.step p c).2.1≠0):l.step p c=(gk.z,11,l):=by
 cases hh:l.has p with
 | false=>exact kR hh
 | true=>exact absurd (xp c hh) h
theorem rk{m:Nat}{k:Krn}(hk:nZ m k){p c:Int}(h:(k.step p c).1.2.2≠0):(k.step p c).2=k∧(k.step p c).1.2.1=gk.z:=by
 by_cases e:dp k p=0
 ·obtain⟨i,j,l,rfl,ho,hl, -⟩:=dE hk e
  rw[jO ho hl] at h ⊢
  have e2:=Fw h
  simp only at h ⊢
  rw[e2]
  exact⟨by show(⟨k.owner,k.libs.set j l⟩:Krn)=k;rw[gP hl],rfl⟩
 ·rw[gI e];exact⟨rfl,rfl⟩
theorem Fx{k:Krn}{n c:Int}(h:(k.done n c).1≠0):(k.done n c).2=k:=by
 cases e:aU k.libs n with
 | none=>rw[uA e]
 | some l =>
  obtain⟨h0, -,hl⟩:=cB e
  obtain⟨j,rfl⟩:∃ j:Nat,n=(j:Int):=⟨n.toNat,by omega⟩
  rw[Int.toNat_natCast] at hl
  rw[uB hl] at h ⊢
  have hs:(l.aK.done c).1=lB.z∧(l.aK.done c).2.2=l.aK:=by
   simp only at h
   unfold Spc.done at h ⊢
   simp only at h ⊢
   split
   ·exact⟨rfl,rfl⟩
   ·rename_i h3;rw[if_neg h3] at h;exact absurd rfl h
  have:l.eW c=l:=by
   unfold Lib.eW
   rw[hs.1,hs.2]
   exact jD l
  show(⟨k.owner,k.libs.set j (l.eW c)⟩:Krn)=k
  rw[this,gP hl]
theorem IG{m:Nat}{k:Krn}(hk:nZ m k){p:Int}(h:(k.preempt p).1≠0):(k.preempt p).2=k:=by
 by_cases e:dp k p=0
 ·obtain⟨i,j,l,rfl,ho,hl, -⟩:=dE hk e
  rw[sK ho hl] at h
  exact absurd rfl h
 ·rw[qn e]
theorem Mg{m:Nat}{s:Sy}(hk:nZ m s.k){x:qC}(h:(s.do x).1≠0):(s.do x).2=s:=by
 by_cases h1:x.kind=1
 ·rw[do_1 h1] at h ⊢
  have:=rk hk h
  unfold Sy.qp jf
  simp only
  rw[this.1,this.2]
  simp[gk.z]
 by_cases h2:x.kind=2
 ·rw[Kh h1 h2] at h;exact absurd rfl h
 by_cases h3:x.kind=3
 ·rw[Ft h1 h2 h3] at h ⊢
  have:=Fx h
  have h':¬(s.k.done x.a x.b).1=0:=h
  rw[AS h',this]
 by_cases h4:x.kind=4
 ·rw[Mc h1 h2 h3 h4] at h ⊢
  have:=IG hk h
  simp only
  rw[this]
 by_cases h5:x.kind=5
 ·rw[Md h1 h2 h3 h4 h5] at h;exact absurd rfl h
 by_cases h6:x.kind=6
 ·rw[Me h1 h2 h3 h4 h5 h6] at h;exact absurd rfl h
 ·rw[Ki h1 h2 h3 h4 h5 h6]
theorem yP(k:Krn)(p:Int):(k.preempt p).2.libs.length=k.libs.length:=by
 unfold Krn.preempt
 split
 ·rfl
 ·split
  ·rfl
  ·split
   ·rfl
   ·exact List.length_set ..
theorem Fy(k:Krn)(n c:Int):(k.done n c).2.libs.length=k.libs.length:=by
 unfold Krn.done
 split
 ·rfl
 ·exact List.length_set ..
structure N2(s:Sy)(x:qC)(r:List q8):Prop where
 log:(s.do x).2.log=s.log++r
 one:r.length≤1
 err:(s.do x).1≠0→r.length=0
 no:x.kind=5∨x.kind=6∨x.kind=4→r.length=0
 tick:x.kind=2→r.length=1
 done:x.kind=3→(s.do x).1=0→r.length=1
theorem DI{m:Nat}{s:Sy}(hk:nZ m s.k)(x:qC):∃ r,N2 s x r:=by
 by_cases h1:x.kind=1
 ·refine⟨jf (s.k.step x.a x.b).1 x.b,by rw[do_1 h1];rfl,rX _ _,fun h=>?_,fun h=>by omega,fun h=>by omega,fun h=>by omega⟩
  rw[do_1 h1] at h
  unfold jf
  rw[(rk hk h).2]
  rfl
 by_cases h2:x.kind=2
 ·refine⟨[⟨3,0,0,0⟩],by rw[Kh h1 h2];rfl,Nat.le_refl _,fun h=>?_,fun h=>by omega,fun _=>rfl,fun h=>by omega⟩
  rw[Kh h1 h2] at h;exact absurd rfl h
 by_cases h3:x.kind=3
 ·refine⟨if (s.k.done x.a x.b).1=0 then [⟨2,x.a,0,x.b⟩] else [],by rw[Ft h1 h2 h3];rfl,by split <;> simp,fun h=>?_,fun h=>by omega,fun h=>by omega,fun _ h=>?_⟩
  ·rw[Ft h1 h2 h3] at h
   have h':¬(s.k.done x.a x.b).1=0:=h
   rw[if_neg h'];rfl
  ·rw[Ft h1 h2 h3] at h
   have h':(s.k.done x.a x.b).1=0:=h
   rw[if_pos h'];rfl
 by_cases h4:x.kind=4
 ·exact⟨[],by rw[Mc h1 h2 h3 h4];exact(List.append_nil _).symm,Nat.zero_le _,fun _=>rfl,fun _=>rfl,fun h=>by omega,fun h=>by omega⟩
 by_cases h5:x.kind=5
 ·exact⟨[],by rw[Md h1 h2 h3 h4 h5];exact(List.append_nil _).symm,Nat.zero_le _,fun _=>rfl,fun _=>rfl,fun h=>by omega,fun h=>by omega⟩
 by_cases h6:x.kind=6
 ·exact⟨[],by rw[Me h1 h2 h3 h4 h5 h6];exact(List.append_nil _).symm,Nat.zero_le _,fun _=>rfl,fun _=>rfl,fun h=>by omega,fun h=>by omega⟩
 ·exact⟨[],by rw[Ki h1 h2 h3 h4 h5 h6];exact(List.append_nil _).symm,Nat.zero_le _,fun _=>rfl,fun h=>by omega,fun h=>by omega,fun h=>by omega⟩
theorem uX{n m:Nat}{k:Krn}(h:SI n m k)(p c:Int):(k.ownerOf p).2=decide ((k.step p c).1.2.2=0)∧((k.step p c).1.2.2=0→(k.step p c).1.1=(k.ownerOf p).1):=by
 by_cases e:dp k p=0
 ·obtain⟨i,j,l,rfl,ho,hl, -⟩:=dE h.ok e
  rw[jO ho hl,jr ho (by omega)]
  have hm:cN l.vs (i:Int)≠0:=(h.ag.iff j l hl i).2 ho
  have hh:l.has (i:Int)=true:=by
   unfold cN at hm
   rw[Int.toNat_natCast] at hm
   unfold Lib.has
   rw[bf]
   cases ev:l.vs[i]? with
   | none=>rw[List.getD_eq_getElem?_getD,ev] at hm;exact absurd rfl hm
   | some v=>rw[aY ev] at hm;simpa using hm
  refine⟨?_,fun _=>rfl⟩
  show true=decide ((l.step (i:Int) c).2.1=0)
  rw[xp c hh]
  rfl
 ·rw[gI e]
  refine⟨?_,fun h=>absurd h e⟩
  show _=decide (dp k p=0)
  rw[decide_eq_false e]
  unfold dp at e
  unfold Krn.ownerOf
  cases eo:aU k.owner p with
  | none=>rfl
  | some o =>
   rw[eo] at e
   simp only at e ⊢
   by_cases h1:o = -1
   ·rw[if_pos h1]
   ·rw[if_neg h1] at e;exact absurd rfl e
theorem IH{n m:Nat}{s:Sy}(h:SI n m s.k){x:qC}(hk:x.kind=1)(hg:s.log.length<(s.do x).2.log.length):(s.do x).2.log.getD s.log.length ⟨0,0,0,0⟩=⟨1,(s.k.ownerOf x.a).1,(s.k.step x.a x.b).1.2.1.slot,x.b⟩:=by
 rw[do_1 hk] at hg ⊢
 cases hc:(s.k.step x.a x.b).1.2.1.aL with
 | false=>rw[uW hc] at hg;exact absurd hg (Nat.lt_irrefl _)
 | true =>
  rw[rj hc]
  have he:(s.k.step x.a x.b).1.2.2=0:=by
   by_cases h0:(s.k.step x.a x.b).1.2.2=0
   ·exact h0
   ·rw[(rk h.ok h0).2] at hc;cases hc
  show(s.log++[_]).getD s.log.length _=_
  rw[List.getD_eq_getElem?_getD,List.getElem?_append_right (Nat.le_refl _),Nat.sub_self,(uX h x.a x.b).2 he]
  rfl
theorem sN{m:Nat}{s:Sy}(hi:Inv m s.k)(x:qC):(s.do x).2.k.libs.length=s.k.libs.length:=by
 unfold Sy.do
 split
 ·exact wS _ _ _
 ·split
  ·exact List.length_map ..
  ·split
   ·exact Fy _ _ _
   ·split
    ·exact yP _ _
    ·split
     ·rfl
     ·split
      ·exact(im hi _ _).2.ll
      ·rfl
end Go.SLYthlllpngkljgfaaGreat
namespace Go.SLYthlllpngkljgfaaGreat
open Go Go.RowKit
section
variable{W:World}{H:List aa}{α:Type}
theorem Rd.DJ{enc:α→List Value}{k:Nat}{v:Value}{xs:List α}{n:Nat}(h2:n≤xs.length)(h:Rd W H enc k v xs):Rd W H enc k (Go.SLYthlllpngkljgfaaGreat.cut k 0 n v) (xs.take n):=by
 have:=h.cut (Nat.zero_le n) h2
 rwa [List.drop_zero] at this
end
end Go.SLYthlllpngkljgfaaGreat
