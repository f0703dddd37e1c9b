/- Walks. Conditions: none. -/
import Derived.Test.YtpbjdoplfgeliaaGreatU07
import Derived.Test.YtpbjdoplfgeliaaGreatProg
import Derived.Test.YtpbjdoplfgeliaaGreatU18
import Derived.Test.YtpbjdoplfgeliaaGreatU19
import Derived.KernelRfl
import Derived.Test.YtpbjdoplfgeliaaGreatU22
import Derived.Test.YtpbjdoplfgeliaaGreatU21
set_option maxRecDepth 20000
set_option maxHeartbeats 4000000
namespace Go.SLYtpbjdoplfgeliaaGreat
open Go Go.RowKit Go.Proofs Go.Proofs.Tryz
attribute [local irreducible] ar aR bm bA bH Y
theorem Bp{W:World}{b:Nat}{bl:List Nat}{k:Krn}{n:Nat}{slot:Int}{l:Lib}(hl:k.libs[n]?=some l)(hlo:l.vs.length≤64)(hev:(∀ v∈l.vs,v.evs.length≤1000000)∧l.waiting.length≤1000000∧l.rows.length≤64∧ ∀ r∈l.rows,r.length≤1000000):Fn Tryz.prog W 60 [ptr b,.int .i64 (n:Int),.int .i64 slot] [ba b bl k] Value (fun u=>u) (fun _=>True) (fun u=>[sl rb 2 u (placeOf l slot),ba b bl k]):=by
 refine Fn.intro (N:=54) func60 rfl ntmps60 rfl fun F=>?_
 show ar _ _ _ _ _ _ [ba b bl k,F]
 have hwl:=yS l.waiting slot
 refine J 9 ?_
 refine .c call40 rfl dO fun _ _=>?_
 refine .o3 (C:=ba b bl k) .auto rfl ?_
 rintro vo vl xs ⟨hxb,hxs⟩
 have hxl:=au hxs
 have hbl:=au hxb
 have hxx:=And.intro hxb hxs
 obtain⟨x,hx,rfl,hbx⟩:=cX hxb hxs hl
 rw[aV,hbx]
 refine .fr .auto (cc (f:=fun x:Nat×Lib=>bJ x.1 x.2) hx) ?_
 refine .o2 (C:=bJ x.1 x.2) .auto rfl ?_
 rintro bs br -
 have hpl64:x.2.procs.length≤64:=Nat.le_trans (jl _ _) hlo
 refine JD 10 (fun h17=>?_) fun h17=>?_
 ·cases h17
 ·refine J 5 ?_
  refine .p (.gX (fun v1=>[v1,(.slice none 0 0)]) rfl (by kernel_rfl)) ?_
  refine .aj rfl (af.box rfl rfl rfl) ?_
  rintro _ _ ⟨b20,rfl,rfl⟩
  refine J 7 ?_
  refine .c call41 rfl (fi (l:=x.2) (by omega)) fun u22 _=>?_
  refine J 5 ?_
  refine .aZ (X:=Nat×Value) [10,24,25,26,27,28,29,30,31,32] (fun z=>x.2.procs.length-z.1) (fun z=>z.1≤x.2.procs.length) (fun z=>[(24,some (.int .i64 (z.1:Int)))]) (fun z=>[arr b20 0 [.int .i64 slot,z.2],sl rb 2 z.2 ((x.2.procs.take z.1).flatMap (df x.2 slot)),sl aq 1 u22 x.2.procs,bj x.1 bs br x.2,arr b 0 [vo,vl],sl aq 1 vo k.owner,sl cP 1 vl xs,aO (fun x:Nat×Lib=>bJ x.1 x.2) (xs.eraseIdx n),F]) (0,.slice none 0 0) ?_ ?_ ?_ ?_
  ·exact Nat.zero_le _
  ·exact⟨rfl,trivial⟩
  ·exact fun w s=>aw.kept .auto w s
  rintro⟨j,u⟩ hj
  simp only at hj
  refine JD 6 (fun h25=>?_) fun h25=>?_
  ·refine J 6 ?_
   obtain⟨p,hp⟩:=ai (show j<x.2.procs.length by omega)
   have hfl:=xd hlo hev.1 slot j
   refine J 1 ?_
   refine .p (.lr rfl hp) ?_
   refine J 7 ?_
   refine .c call102 rfl (Cv (slot:=slot) (l:=x.2) (p:=p) (ys:=((x.2.procs.take j).flatMap (df x.2 slot))) (fun v hv=>Nat.le_trans (hev.1 v hv) (by decide)) (by omega)) fun u31 _=>?_
   refine J 7 ?_
   refine .ax (j+1,u31) .auto rfl ?_ ?_ ?_ ?_
   ·show x.2.procs.length-(j+1)<x.2.procs.length-j;omega
   ·show j+1≤_;omega
   ·exact⟨rfl,trivial⟩
   ·show ∀ w,Sat _ w _→Sat _ w (seps [_,sl rb 2 u31 ((x.2.procs.take (j+1)).flatMap (df x.2 slot)),_,_,_,_,_,_,F])
    rw[HW hp]
    exact fun w s=>aw.kept .auto w s
  ·obtain rfl:x.2.procs.length=j:=by omega
   rw[List.take_length]
   refine J 8 ?_
   have hfl:=xd hlo hev.1 slot x.2.procs.length
   rw[List.take_length] at hfl
   refine J 1 ?_
   refine .c call103 rfl (Ix (l:=x.2)) fun _ _=>?_
   refine .o2 (C:=bj x.1 bs br x.2) .auto rfl ?_
   rintro vv vw -
   refine J 1 ?_
   refine .c call104 rfl (uR (rs:=x.2.rows) ⟨hev.2.2.1,fun r hr=>Nat.le_trans (hev.2.2.2 r hr) (by decide)⟩) fun _ _=>?_
   refine .to (A:=bj x.1 bs br x.2) .auto kk ?_
   refine JD 12 (fun h40=>?_) fun h40=>?_
   ·refine J 3 ?_
    refine .c call105 rfl (jt (n:=1) (slot:=slot) (ys:=x.2.procs.flatMap (df x.2 slot)) (by omega)) fun u43 _=>?_
    refine J 6 ?_
    refine .c call107 rfl (sd (l:=x.2) (by omega)) fun u46 _=>?_
    refine J 1 ?_
    refine .c call106 rfl (l8 (A:=sl cf 3 u46 x.2.waiting) (Rd.sl .here) (by omega)) fun _ _=>?_
    refine .c call105 rfl (jt (slot:=slot) (ys:=x.2.procs.flatMap (df x.2 slot)++List.replicate 1 ⟨2,(whereFrom slot x.2.rows 0).1⟩) (by rw[List.length_append,List.length_replicate];omega)) fun u49 _=>?_
    refine .to (A:=bJ x.1 x.2) .auto kk ?_
    refine .to (A:=aO (fun x:Nat×Lib=>bJ x.1 x.2) xs) .auto (cC (f:=fun x:Nat×Lib=>bJ x.1 x.2) hx) ?_
    refine J 12 ?_
    rw[uE,show kS x.2 slot=List.replicate 1 ⟨2,(whereFrom slot x.2.rows 0).1⟩ from by unfold kS;rw[if_pos h40];rfl]
    refine .aS rfl rfl fun w s=>⟨_,?_,trivial,ak .auto s⟩
    rfl
   ·refine J 6 ?_
    refine .c call107 rfl (sd (l:=x.2) (by omega)) fun u46 _=>?_
    refine J 1 ?_
    refine .c call106 rfl (l8 (A:=sl cf 3 u46 x.2.waiting) (Rd.sl .here) (by omega)) fun _ _=>?_
    refine .c call105 rfl (jt (slot:=slot) (ys:=x.2.procs.flatMap (df x.2 slot)) (by omega)) fun u49 _=>?_
    refine .to (A:=bJ x.1 x.2) .auto kk ?_
    refine .to (A:=aO (fun x:Nat×Lib=>bJ x.1 x.2) xs) .auto (cC (f:=fun x:Nat×Lib=>bJ x.1 x.2) hx) ?_
    refine J 12 ?_
    rw[uE,show kS x.2 slot=[] from by unfold kS;rw[if_neg (by rw[h40];simp)],List.append_nil]
    refine .aS rfl rfl fun w s=>⟨_,?_,trivial,ak .auto s⟩
    rfl
theorem zo{W:World}{b:Nat}{bl:List Nat}{k:Krn}{m:Nat}(hk:o0 m k):Fn Tryz.prog W 61 [ptr b] [ba b bl k] Unit (fun _=>.bool (re k)) (fun _=>True) (fun _=>[ba b bl k]):=by
 refine Fn.intro (N:=38) func61 rfl ntmps61 rfl fun F=>?_
 show ar _ _ _ _ _ _ [ba b bl k,F]
 have hll:=hk.ll
 have hol:=hk.ol
 refine J 9 ?_
 refine .c call35 rfl eC fun _ _=>?_
 refine J 4 ?_
 refine .aZ (X:=Nat) [2,3,4,5,6,9,10,11,12,13,14,15,16,17,18,19,20,21,22,23,24,25,26,27,28,29,30,31,32,33,34,35,36,37] (fun z=>k.owner.length-z) (fun z=>z≤k.owner.length∧oh k z=true) (fun z=>[(9,some (.int .i64 (z:Int)))]) (fun z=>[ba b bl k,F]) 0 ?_ ?_ ?_ ?_
 ·exact⟨Nat.zero_le _,rfl⟩
 ·exact⟨rfl,trivial⟩
 ·exact fun w s=>aw.kept .auto w s
 rintro p ⟨hp,hpt⟩
 refine JD 6 (fun h10=>?_) fun h10=>?_
 ·have hp1:p<k.owner.length:=by omega
  refine J 14 ?_
  refine .c call108 rfl vj fun _ _=>?_
  refine J 10 ?_
  refine .c call57 rfl iR fun _ _=>?_
  refine J 4 ?_
  refine .aZ (X:=Nat) [3,4,5,6,20,21,22,23,24,25,26,27,28,29,30,31,32,33,34,35,36] (fun z=>k.libs.length-z) (fun z=>z≤k.libs.length∧og k p z=true) (fun z=>[(20,some (.int .i64 (z:Int))),(3,some (.int .i64 (p:Int))),(4,some (.int .i64 (k.ownerOf (p:Int)).1)),(5,some (.bool (k.ownerOf (p:Int)).2))]) (fun z=>[ba b bl k,F]) 0 ?_ ?_ ?_ ?_
  ·exact⟨Nat.zero_le _,rfl⟩
  ·exact⟨rfl,rfl,rfl,rfl,trivial⟩
  ·exact fun w s=>aw.kept .auto w s
  rintro n ⟨hn,hnt⟩
  refine JD 6 (fun h21=>?_) fun h21=>?_
  ·obtain⟨l,hl⟩:=ai (show n<k.libs.length by omega)
   have hlo:=hk.gy l (List.mem_of_getElem? hl)
   refine J 14 ?_
   refine .c call40 rfl dO fun _ _=>?_
   refine .o3 (C:=ba b bl k) .auto rfl ?_
   rintro vo vl xs ⟨hxb,hxs⟩
   have hxl:=au hxs
   have hbl:=au hxb
   have hxx:=And.intro hxb hxs
   obtain⟨x,hx,hxe,hbx⟩:=cX hxb hxs hl
   rw[aV,hbx]
   subst hxe
   refine .fr .auto (cc (f:=fun x:Nat×Lib=>bJ x.1 x.2) hx) ?_
   refine .o2 (C:=bJ x.1 x.2) .auto rfl ?_
   rintro bs br -
   refine .c call41 rfl (fi (l:=x.2) (Nat.le_trans hlo.vl (by decide))) fun u26 _=>?_
   refine .to (A:=aO (fun x:Nat×Lib=>bJ x.1 x.2) xs) .auto (cC (f:=fun x:Nat×Lib=>bJ x.1 x.2) hx) ?_
   refine .to (A:=ba b bl k) .auto kk ?_
   refine J 1 ?_
   refine .c call59 rfl (nR (A:=sl aq 1 u26 x.2.procs) (xs:=x.2.procs) (x:=(p:Int)) (Rd.sl .here) (by have:=jl x.2.vs 0;have:x.2.procs.length≤x.2.vs.length:=this;have:=hlo.vl;omega)) fun _ _=>?_
   refine J 2 ?_
   apply aR.gq 4 34 30 [30,31,32,33,34] rfl
   ·intro h30
    exact JS 5
   ·intro h30
    exact JS 5
   refine .p (.Db underlying4 rfl rfl) ?_
   refine JD 2 (fun h35=>?_) fun h35=>?_
   ·have h35:¬x.2.procs.contains (p:Int)=((k.ownerOf (p:Int)).2 && decide ((n:Int)=(k.ownerOf (p:Int)).1)):=fun e=>by rw[e] at h35;simp at h35
    rw[Kl hp1 (by omega) hl h35]
    exact JR 15 ()
   ·refine J 7 ?_
    refine .ax (n+1) .auto rfl ?_ ?_ ?_ ?_
    ·omega
    ·exact⟨by omega,by rw[og,hnt,aP hl,Bool.true_and];simpa using h35⟩
    ·exact⟨rfl,rfl,rfl,rfl,trivial⟩
    ·exact fun w s=>aw.kept .auto w s
  ·obtain rfl:k.libs.length=n:=by omega
   refine J 10 ?_
   refine .ax (p+1) .auto rfl ?_ ?_ ?_ ?_
   ·omega
   ·exact⟨by omega,by rw[oh,hpt,hnt];rfl⟩
   ·exact⟨rfl,trivial⟩
   ·exact fun w s=>aw.kept .auto w s
 ·obtain rfl:p=k.owner.length:=by omega
  refine J 11 ?_
  refine .aS rfl rfl fun w s=>⟨(),?_,trivial,ak .auto s⟩
  rw[show re k=true from hpt]
theorem so{W:World}{b:Nat}{bl:List Nat}{k:Krn}{m:Nat}(hk:o0 m k)(hpk:O8 k):Fn Tryz.prog W 17 [ptr b] [ba b bl k] Unit (fun _=>.bool (kT k)) (fun _=>True) (fun _=>[ba b bl k]):=by
 refine Fn.intro (N:=38) func17 rfl ntmps17 rfl fun F=>?_
 show ar _ _ _ _ _ _ [ba b bl k,F]
 have hll:=hk.ll
 refine J 9 ?_
 refine .c call57 rfl iR fun _ _=>?_
 refine J 4 ?_
 refine .aZ (X:=Nat) [2,3,4,5,6,9,10,11,12,13,14,15,16,17,18,19,20,21,22,23,24,25,26,27,28,29,30,31] (fun z=>k.libs.length-z) (fun z=>z≤k.libs.length∧iA k z=true) (fun z=>[(9,some (.int .i64 (z:Int)))]) (fun z=>[ba b bl k,F]) 0 ?_ ?_ ?_ ?_
 ·exact⟨Nat.zero_le _,rfl⟩
 ·exact⟨rfl,trivial⟩
 ·exact fun w s=>aw.kept .auto w s
 rintro n ⟨hn,hnt⟩
 refine JD 6 (fun h10=>?_) fun h10=>?_
 ·have hn1:n<k.libs.length:=by omega
  obtain⟨l,hl⟩:=ai hn1
  have hlo:=hk.gy l (List.mem_of_getElem? hl)
  have hpo:=hpk.ev l (List.mem_of_getElem? hl)
  refine J 14 ?_
  refine .c call40 rfl dO fun _ _=>?_
  refine .o3 (C:=ba b bl k) .auto rfl ?_
  rintro vo vl xs ⟨hxb,hxs⟩
  have hxl:=au hxs
  have hbl:=au hxb
  have hxx:=And.intro hxb hxs
  obtain⟨x,hx,hxe,hbx⟩:=cX hxb hxs hl
  rw[aV,hbx]
  subst hxe
  refine .fr .auto (cc (f:=fun x:Nat×Lib=>bJ x.1 x.2) hx) ?_
  refine .o2 (C:=bJ x.1 x.2) .auto rfl ?_
  rintro bs br -
  refine .c call53 rfl ir fun _ _=>?_
  refine .o2 (C:=bj x.1 bs br x.2) .auto rfl ?_
  rintro vv vw -
  refine .o1 (C:=fM bs x.2.aI) .auto rfl ?_
  rintro pt -
  refine .c call58 rfl (l6 hlo.th) fun u16 _=>?_
  refine .to (A:=aO (fun x:Nat×Lib=>bJ x.1 x.2) xs) .auto (cC (f:=fun x:Nat×Lib=>bJ x.1 x.2) hx) ?_
  refine .to (A:=ba b bl k) .auto kk ?_
  refine J 9 ?_
  refine .aZ (X:=Nat) [3,4,5,6,17,18,19,20,21,22,23,24,25,26,27,28,29,30] (fun z=>16-z) (fun z=>z≤16∧rightIn x.2 z=true) (fun z=>[(17,some (.int .i64 (z:Int))),(3,some (.int .i64 (n:Int))),(4,some u16)]) (fun z=>[sl aq 1 u16 x.2.aI.ready,ba b bl k,F]) 0 ?_ ?_ ?_ ?_
  ·exact⟨Nat.zero_le _,rfl⟩
  ·exact⟨rfl,rfl,rfl,trivial⟩
  ·exact fun w s=>aw.kept .auto w s
  rintro s ⟨hs,hst⟩
  refine JD 6 (fun h18=>?_) fun h18=>?_
  ·refine J 20 ?_
   refine .c call59 rfl (nR (A:=sl aq 1 u16 x.2.aI.ready) (xs:=x.2.aI.ready) (x:=(s:Int)) (Rd.sl .here) (by have:=ic x.2.aI.aF 0;have:x.2.aI.ready.length≤x.2.aI.aF.length:=this;have:=hlo.th;omega)) fun _ _=>?_
   refine JD 2 (fun h22=>?_) fun h22=>?_
   ·refine J 9 ?_
    refine .c call60 rfl (Bp (n:=n) (slot:=(s:Int)) hl hlo.vl hpo) fun u26 _=>?_
    refine JD 5 (fun h29=>?_) fun h29=>?_
    ·rw[xe (show s<16 by omega) hn1 hl (by rw[if_pos h22];omega)]
     exact JR 15 ()
    ·refine J 7 ?_
     refine .ax (s+1) .auto rfl ?_ ?_ ?_ ?_
     ·omega
     ·exact⟨by omega,by rw[rightIn,hst,Bool.true_and,if_pos h22];exact decide_eq_true (by omega)⟩
     ·exact⟨rfl,rfl,rfl,trivial⟩
     ·exact fun w s=>aw.kept .auto w s
   ·refine J 7 ?_
    refine .c call60 rfl (Bp (n:=n) (slot:=(s:Int)) hl hlo.vl hpo) fun u26 _=>?_
    refine JD 5 (fun h29=>?_) fun h29=>?_
    ·rw[xe (show s<16 by omega) hn1 hl (by rw[if_neg (by rw[h22];simp)];omega)]
     exact JR 15 ()
    ·refine J 7 ?_
     refine .ax (s+1) .auto rfl ?_ ?_ ?_ ?_
     ·omega
     ·exact⟨by omega,by rw[rightIn,hst,Bool.true_and,if_neg (by rw[h22];simp)];exact decide_eq_true (by omega)⟩
     ·exact⟨rfl,rfl,rfl,trivial⟩
     ·exact fun w s=>aw.kept .auto w s
  ·obtain rfl:s=16:=by omega
   refine J 10 ?_
   refine .ax (n+1) .auto rfl ?_ ?_ ?_ ?_
   ·omega
   ·exact⟨by omega,by rw[iA,hnt,aP hl,hst];rfl⟩
   ·exact⟨rfl,trivial⟩
   ·exact fun w s=>aw.kept .auto w s
 ·obtain rfl:n=k.libs.length:=by omega
  refine J 11 ?_
  refine .cg call61 rfl (zo hk) fun _ _=>?_
  refine J 5 ?_
  refine .aS rfl rfl fun w s=>⟨(),?_,trivial,ak .auto s⟩
  unfold kT;rw[hnt];rfl
end Go.SLYtpbjdoplfgeliaaGreat
namespace Go.SLYtpbjdoplfgeliaaGreat
open Go Go.RowKit Go.Proofs Go.Proofs.Tryz
attribute [local irreducible] ar aR bm bA bH Y
theorem C4{W:World}{A:aa}{v:Value}{ps:List bc}(hr:Rd W [A] eT 8 v ps)(hp:∀ p∈ps,eY W [A] p)(hb:ps.length≤1000000000∧ ∀ p∈ps,p.fs.length≤1000000000∧p.bK.length≤1000000000∧p.bf.length≤1000000000)(hw:∀ p∈ps.map bc.p, ∀ f∈p.funcs, ∀ i∈f,fK i.n){np:Int}{u:Value}{xs:List oo}(hst:Rd W [A] nW 3 u xs)(hsl:xs.length≤1000000000)(hnp:0≤np∧np≤255):Fn Tryz.prog W 4 [.int .u8 np,v,u] [A] Unit (fun _=>.bool true) (fun _=>True) (fun _=>[A]):=by
 refine Fn.intro (N:=49) func4 rfl ntmps4 rfl fun F=>?_
 haveI hRI:∀ (H:List aa) [bE H A],aC W H v eT 8 ps:=fun H h=>⟨hr.at h.has⟩
 haveI hRJ:∀ (H:List aa) [bE H A],aC W H u nW 3 xs:=fun H h=>⟨hst.at h.has⟩
 show ar _ _ _ _ _ _ [A,F]
 obtain⟨mk,mkd⟩:∃ mk,mk=np.toNat % (20):=⟨_,rfl⟩
 have mkl:mk<20:=by rw[mkd];exact Nat.mod_lt _ (by decide)
 have mkt:np.tmod (20)=(mk:Int):=by
  obtain⟨m,rfl⟩:∃ m:Nat,np=(m:Int):=⟨np.toNat,by omega⟩
  rw[mkd,Int.toNat_natCast];exact(Int.ofNat_tmod m (20)).symm
 refine J 8 ?_
 refine .p (.fa (Y.rem rfl rfl (by omega)) mkt) ?_
 refine .p (.jZ underlying5 underlying3 rfl (by omega)) ?_
 refine .p (.add rfl rfl (by omega)) ?_
 refine J 1 ?_
 refine .c call8 rfl (Be (procs:=(mk:Int)+1) hr hp hb) fun o ho=>?_
 refine JD 14 (fun h20=>?_) fun h20=>?_
 ·refine J 2 ?_
  refine .c call16 rfl nU fun _ _=>?_
  exact JR 5 ()
 ·have hc:dF ((mk:Int)+1) (ps.map bc.p)=0:=Decidable.not_not.mp h20
  obtain⟨sb,rfl⟩:=Option.isSome_iff_exists.1 (ho.trans (decide_eq_true hc))
  refine .fr (A:=optH (fun b=>D4 b (Sy.new ((mk:Int)+1) (ps.map bc.p))) (some sb)) (Bs:=[D4 sb (Sy.new ((mk:Int)+1) (ps.map bc.p))]) .auto iJ ?_
  refine .o2 (C:=D4 sb (Sy.new ((mk:Int)+1) (ps.map bc.p))) .auto rfl ?_
  rintro kb bl -
  have hP0:=vD.new hc hw
  have hI0:=hP0.b
  have hni:=gU hc
  have hkl0:(Sy.new ((mk:Int)+1) (ps.map bc.p)).k.libs.length=ps.length:=((dH (gU hc).1 _ _).2.ll.trans hni.2.1).trans (List.length_map ..)
  refine J 2 ?_
  refine .Bx (X:=Value) [2,22,23,24,25,26] (fun u2=>Rd W [A] nW 3 u2 (xs.take 80)) (fun u2=>[(2,some u2)]) (fun _=>[gK sb kb bl (Sy.new ((mk:Int)+1) (ps.map bc.p)),A,F]) ?_ ?_
  ·refine JD 7 (fun h24=>?_) fun h24=>?_
   ·refine J 2 ?_
    refine .p (.sliceTo 80 underlying23 sizeOf32 rfl rfl Rd.s rfl (by omega)) ?_
    refine J 2 ?_
    refine .kF (cut 3 0 80 u) .auto ?_ ?_ ?_
    ·exact Rd.Lq (n:=80) (by omega) hst
    ·exact⟨rfl,trivial⟩
    ·exact fun w s=>aw.kept .auto w s
   ·refine J 1 ?_
    refine .kF u .auto ?_ ?_ ?_
    ·rw[List.take_of_length_le (by omega)];exact hst
    ·exact⟨rfl,trivial⟩
    ·exact fun w s=>aw.kept .auto w s
  ·rintro u2 hsm
   haveI hRK:∀ (H:List aa) [bE H A],aC W H u2 nW 3 (xs.take 80):=fun H h=>⟨hsm.at h.has⟩
   have hxs2:(xs.take 80).length≤80:=List.length_take_le ..
   refine J 7 ?_
   refine .aZ (X:=Nat×Sy) [6,9,27,28,29,30,31,32,33,34,35,36,37,38,39,40,41,42] (fun z=>(xs.take 80).length-z.1) (fun z=>z.1≤(xs.take 80).length∧vD z.1 z.2) (fun z=>[(9,some (.int .i64 (z.1:Int)))]) (fun z=>[gK sb kb bl z.2,A,F]) (0,(Sy.new ((mk:Int)+1) (ps.map bc.p))) ?_ ?_ ?_ ?_
   ·exact⟨Nat.zero_le _,hP0⟩
   ·exact⟨rfl,trivial⟩
   ·exact fun w s=>aw.kept .auto w s
   rintro⟨i,s⟩ ⟨hi,hP⟩
   simp only at hi hP
   have hI:=hP.b
   refine JD 9 (fun h30=>?_) fun h30=>?_
   ·refine J 9 ?_
    obtain⟨x,hx⟩:=ai (show i<(xs.take 80).length by omega)
    refine .p (.ix i rfl rfl rfl (by omega)) ?_
    refine .p (.la rfl (Cells.rd Rd.s hx)) ?_
    refine .c call11 rfl (mf (b:=sb) (kb:=kb) (bl:=bl) (s:=s) (x:=x) (hI.rn (by omega)) hI.k.inv (by omega) (by have:=hI.log;omega) (Nat.le_trans hI.prio (by decide))) fun _ _=>?_
    have hP2:=hP.do (by omega) x
    refine J 5 ?_
    refine .c call18 rfl (dC (b:=sb) (kb:=kb) (bl:=bl) (s:=(s.do x).2)) fun _ _=>?_
    refine .o2 (C:=gK sb kb bl (s.do x).2) .auto rfl ?_
    rintro pv lv -
    refine .c call17 rfl (so (b:=kb) (bl:=bl) (k:=(s.do x).2.k) hP2.b.k.ok (hP2.Pd (by omega))) fun _ _=>?_
    rw[hP2.right]
    refine JD 3 (fun h42=>?_) fun h42=>?_
    ·cases h42
    ·refine J 8 ?_
     refine .ax (i+1,(s.do x).2) .auto rfl ?_ ?_ ?_ ?_
     ·show(xs.take 80).length-(i+1)<(xs.take 80).length-i;omega
     ·exact⟨by show i+1≤_;omega,hP2⟩
     ·exact⟨rfl,trivial⟩
     ·exact fun w s=>aw.kept .auto w s
   ·refine J 7 ?_
    refine .c call16 rfl nU fun _ _=>?_
    refine J 2 ?_
    refine .cg call18 rfl (dC (b:=sb) (kb:=kb) (bl:=bl) (s:=s)) fun _ _=>?_
    refine .o2 (C:=gK sb kb bl s) .auto rfl ?_
    rintro pv lv -
    refine .cg call17 rfl (so (b:=kb) (bl:=bl) (k:=s.k) hP.b.k.ok (hP.Pd (by omega))) fun _ _=>?_
    rw[hP.right]
    exact JR 5 ()
end Go.SLYtpbjdoplfgeliaaGreat
namespace Go.SLYtpbjdoplfgeliaaGreat
open Go Go.RowKit
def PH(t:Spc)(cB:List k7):Spc:=cB.foldl (fun s a=>H5 s 0 a) t
theorem Ea.kinds{l0:List Spc}{s:Sy}(h:Ea l0 s){a:k7}(ha:a∈s.log):a.kind=1∨a.kind=2∨a.kind=3:=by
 obtain⟨n,hn⟩:=List.getElem?_of_mem ha
 have h0:=h.ok n a hn
 unfold oDo at h0
 by_cases h3:a.kind=3
 ·exact .inr (.inr h3)
 ·rw[if_neg h3] at h0
  split at h0
  ·cases h0
  ·by_cases h1:a.kind=1
   ·exact .inl h1
   ·rw[if_neg h1] at h0
    by_cases h2:a.kind=2
    ·exact .inr (.inl h2)
    ·rw[if_neg h2] at h0;cases h0
end Go.SLYtpbjdoplfgeliaaGreat
