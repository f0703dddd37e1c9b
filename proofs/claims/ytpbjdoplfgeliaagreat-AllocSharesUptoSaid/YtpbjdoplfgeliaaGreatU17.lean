/- Walks of functions, and what they compute. Conditions: none, this text proves no statement. -/
import Derived.Test.YtpbjdoplfgeliaaGreatU07
import Derived.Test.YtpbjdoplfgeliaaGreatProg
import Derived.Test.YtpbjdoplfgeliaaGreatU12
import Derived.Test.YtpbjdoplfgeliaaGreatU13
import Derived.Test.YtpbjdoplfgeliaaGreatU15
import Derived.Test.YtpbjdoplfgeliaaGreatU16
import Derived.KernelRfl
set_option maxRecDepth 20000
set_option maxHeartbeats 4000000
namespace Go.SLYtpbjdoplfgeliaaGreat
open Go Go.RowKit Go.Proofs Go.Proofs.Tryz
attribute [local irreducible] ar aR bm bA bH Y
theorem oZq{procs:Int}{ps:List gn}(h:dF procs ps=0):kn ps=0:=by
 unfold dF at h
 split at h
 ·cases h
 ·unfold kn
  rw[if_neg (by omega)];exact h
theorem zh{W:World}{A:aa}{v:Value}{ps:List bc}(hr:Rd W [A] eT 8 v ps)(hp:∀ p∈ps,eY W [A] p)(hb:ps.length≤1000000000∧ ∀ p∈ps,p.fs.length≤1000000000∧p.bK.length≤1000000000∧p.bf.length≤1000000000)(hw:∀ p∈ps.map bc.p, ∀ f∈p.funcs, ∀ i∈f,fK i.n){np turn:Int}{u w9:Value}{cB:List N5}{prio:List Int}(ha:Rd W [A] Ke 3 u cB)(_hal:cB.length≤1000000000)(hnp:0≤np∧np≤255)(hpr:Rd W [A] aq 1 w9 prio)(hpl:prio.length≤1000000000):Fn Tryz.prog W 6 [.int .u8 np,v,u,w9,.int .i64 turn] [A] Unit (fun _=>.bool true) (fun _=>True) (fun _=>[A]):=by
 refine Fn.intro (N:=243) func6 rfl ntmps6 rfl fun F=>?_
 haveI hRJ:∀ (H:List aa) [bE H A],aC W H u Ke 3 cB:=fun H h=>⟨ha.at h.has⟩
 show ar _ _ _ _ _ _ [A,F]
 obtain⟨mk,mkd⟩:∃ mk,mk=np.toNat % (17):=⟨_,rfl⟩
 have mkl:mk<17:=by rw[mkd];exact Nat.mod_lt _ (by decide)
 have mkt:np.tmod (17)=(mk:Int):=by
  obtain⟨m,rfl⟩:∃ m:Nat,np=(m:Int):=⟨np.toNat,by omega⟩
  rw[mkd,Int.toNat_natCast];exact(Int.ofNat_tmod m (17)).symm
 refine J 8 ?_
 refine .p (.fa (Y.rem rfl rfl (by omega)) mkt) ?_
 refine .p (.jZ underlying5 underlying3 rfl (by omega)) ?_
 refine .p (.add rfl rfl (by omega)) ?_
 refine J 1 ?_
 refine .c call29 rfl (vk (procs:=(mk:Int)+1) hr hp hb) fun o ho=>?_
 refine JD 14 (fun h35=>?_) fun h35=>?_
 ·refine J 2 ?_
  refine .c call30 rfl ns fun _ _=>?_
  exact JR 5 ()
 ·have hc:dF ((mk:Int)+1) (ps.map bc.p)=0:=Decidable.not_not.mp h35
  obtain⟨kb,rfl⟩:=Option.isSome_iff_exists.1 (ho.trans (decide_eq_true hc))
  refine .fr (A:=optH (fun b=>tH b (Krn.new ((mk:Int)+1) (ps.map bc.p))) (some kb)) (Bs:=[tH kb (Krn.new ((mk:Int)+1) (ps.map bc.p))]) .auto iJ ?_
  refine .o1 (C:=tH kb (Krn.new ((mk:Int)+1) (ps.map bc.p))) .auto rfl ?_
  rintro bl -
  have hI0:=ff.new hc hw
  have hni:=gU hc
  have hlw:(Krn.new ((mk:Int)+1) (ps.map bc.p)).libs.length=ps.length:=hni.2.1.trans (List.length_map ..)
  have hz0:=ji (oZq hc)
  have hne:ps.length≠0∧ps.length≤8:=by have h:=hz0.1;have h2:=hz0.2.1;rw[List.length_map] at h h2;omega
  refine J 9 ?_
  refine .aZ (X:=Nat×Krn) [13,37,38,39,40,41,42,43,44,45,46,47,48,49,50,51,52,53,54,55,56,57,58,59,60,61,62,63,64,65,66,67,68,69,70,71,72,73,74,75,76,77,78,79,80,81,82,83,84,85,86] (fun z=>cB.length-z.1) (fun z=>z.1≤cB.length∧z.1≤120∧ff z.1 z.2∧z.2.libs.length=ps.length) (fun z=>[(13,some (.int .i64 (z.1:Int)))]) (fun z=>[ba kb bl z.2,A,F]) (0,(Krn.new ((mk:Int)+1) (ps.map bc.p))) ?_ ?_ ?_ ?_
  ·exact⟨Nat.zero_le _,Nat.zero_le _,hI0,hlw⟩
  ·exact⟨rfl,trivial⟩
  ·exact fun w s=>aw.kept .auto w s
  rintro⟨i,k⟩ ⟨hi,hi2,hI,hkl⟩
  simp only at hi hi2 hI hkl
  refine J 8 ?_
  apply aR.gz 3 44 41 [41,42,43,44] rfl
  ·intro h41
   exact JS 4
  ·intro h41
   exact JS 4
  refine JD 2 (fun h44=>?_) fun h44=>?_
  ·simp only[Bool.and_eq_true,decide_eq_true_eq] at h44
   refine J 8 ?_
   obtain⟨x,hx⟩:=ai (show i<cB.length by omega)
   refine .p (.ix i rfl rfl rfl (by omega)) ?_
   refine J 1 ?_
   refine .p (.lr rfl hx) ?_
   refine JD 9 (fun h65=>?_) fun h65=>?_
   ·refine .draw [] [1,1,1,1,1,1,1,1,1,1,1,3] rfl (by kernel_rfl) ?_
    refine J 3 ?_
    refine .p (.ix i rfl rfl rfl (by omega)) ?_
    refine J 1 ?_
    refine .p (.ld rfl (Cell.rd (c:=1) Rd.s hx rfl)) ?_
    refine J 2 ?_
    refine .p (.ix i rfl rfl rfl (by omega)) ?_
    refine J 1 ?_
    refine .p (.ld rfl (Cell.rd (c:=2) Rd.s hx rfl)) ?_
    refine .c call31 rfl (xE (b:=kb) (bl:=bl) (k:=k) (p:=x.slot) (n:=x.choice) hI.ok (by omega)) fun _ _=>?_
    refine J 9 ?_
    refine .ax (i+1,(k.dV x.slot x.choice).2) .auto rfl ?_ ?_ ?_ ?_
    ·show cB.length-(i+1)<cB.length-i;omega
    ·exact⟨by show i+1≤_;omega,by show i+1≤120;omega,hI.NH x.slot x.choice,(AJ hI.inv x.slot x.choice).2.2.2.trans hkl⟩
    ·exact⟨rfl,trivial⟩
    ·exact fun w s=>aw.kept .auto w s
   ·refine JD 6 (fun h79=>?_) fun h79=>?_
    ·refine J 4 ?_
     refine .p (.ix i rfl rfl rfl (by omega)) ?_
     refine J 1 ?_
     refine .p (.ld rfl (Cell.rd (c:=1) Rd.s hx rfl)) ?_
     refine .c call32 rfl (xD (b:=kb) (bl:=bl) (k:=k) (p:=x.slot) hI.ok (by omega)) fun _ _=>?_
     refine J 9 ?_
     refine .ax (i+1,(k.take x.slot).2) .auto rfl ?_ ?_ ?_ ?_
     ·show cB.length-(i+1)<cB.length-i;omega
     ·exact⟨by show i+1≤_;omega,by show i+1≤120;omega,hI.take _,(kR hI.ok x.slot).1.trans hkl⟩
     ·exact⟨rfl,trivial⟩
     ·exact fun w s=>aw.kept .auto w s
    ·refine .draw [] [1,1,1,1,1,1,1,1,1,1,1,3] rfl (by kernel_rfl) ?_
     refine J 3 ?_
     refine .p (.ix i rfl rfl rfl (by omega)) ?_
     refine J 1 ?_
     refine .p (.ld rfl (Cell.rd (c:=1) Rd.s hx rfl)) ?_
     refine J 2 ?_
     refine .p (.ix i rfl rfl rfl (by omega)) ?_
     refine J 1 ?_
     refine .p (.ld rfl (Cell.rd (c:=2) Rd.s hx rfl)) ?_
     refine .c call33 rfl (xF (b:=kb) (bl:=bl) (k:=k) (p:=x.slot) (c:=x.choice) (hI.rn (by omega))) fun u58 _=>?_
     refine J 9 ?_
     refine .ax (i+1,(k.step x.slot x.choice).2) .auto rfl ?_ ?_ ?_ ?_
     ·show cB.length-(i+1)<cB.length-i;omega
     ·exact⟨by show i+1≤_;omega,by show i+1≤120;omega,hI.step (by omega) _ _,(rj _ _ _).trans hkl⟩
     ·exact⟨rfl,trivial⟩
     ·exact fun w s=>aw.kept .auto w s
  ·simp only[Bool.and_eq_false_iff,decide_eq_false_iff_not] at h44
   have hdl:k.demand.length=k.libs.length:=by unfold Krn.demand;exact List.length_map ..
   refine J 8 ?_
   refine .c call35 rfl (eC (b:=kb) (bl:=bl) (k:=k)) fun _ _=>?_
   refine J 1 ?_
   refine .c call36 rfl (gH (b:=kb) (bl:=bl) (k:=k) hI.ok) fun u91 _=>?_
   refine J 2 ?_
   refine .c call34 rfl (A9 (A:=seps [sl aq 1 u91 k.demand,A]) (procs:=(k.owner.length:Int)) (demand:=k.demand) (prio:=prio) (turn:=turn) (Rd.eX (Rd.sl .here)) (Rd.eX (hpr.at (.there .here))) ⟨hpl,by omega,lR hI.ok⟩) fun u94 _=>?_
   refine .dL .auto ?_
   refine J 1 ?_
   refine .p (.extract (v:=u94) rfl rfl) ?_
   refine .p (.extract (v:=.bool (fm (k.owner.length:Int) k.demand prio turn).isSome) rfl rfl) ?_
   refine J 9 ?_
   refine .c call37 rfl (iE (b:=kb) (bl:=bl) (A:=A) (v:=w9) (prio:=prio) (turn:=turn) (k:=k) hpr hpl hI.ok) fun u100 _=>?_
   refine JD 10 (fun h102=>?_) fun h102=>?_
   ·have hfn:fm (k.owner.length:Int) k.demand prio turn=none:=by
     cases e:fm (k.owner.length:Int) k.demand prio turn with
     | none=>rfl
     | some x=>rw[e] at h102;cases h102
    have htn:k.targets prio turn=[]:=by unfold Krn.targets;rw[hfn];rfl
    refine J 2 ?_
    refine .c call30 rfl ns fun _ _=>?_
    refine J 2 ?_
    refine .g (.fa (Y.Da underlying50 rfl Rd.s) (show((k.targets prio turn).length:Int)=0 by rw[htn];rfl)) ?_
    refine J 6 ?_
    refine .cg call38 rfl (gI (b:=kb) (bl:=bl) (A:=A) (v:=w9) (prio:=prio) (turn:=turn) (k:=k) hpr hpl hI.inv (by omega)) fun _ _=>?_
    rw[CW htn]
    refine J 6 ?_
    refine .cg call39 rfl (iu (b:=kb) (bl:=bl) (A:=A) (v:=w9) (prio:=prio) (turn:=turn) (k:=k) hpr hpl hI.ok) fun _ _=>?_
    rw[FO htn (by omega)]
    exact JR 7 ()
   ·obtain⟨want,hf⟩:∃ want,fm (k.owner.length:Int) k.demand prio turn=some want:=by
     cases e:fm (k.owner.length:Int) k.demand prio turn with
     | none=>rw[e] at h102;cases h102
     | some x=>exact⟨x,rfl⟩
    have ht:k.targets prio turn=want:=by unfold Krn.targets;rw[hf];rfl
    rw[hf,ht]
    simp only[Option.getD_some]
    have hff:=lQ (lR hI.ok) hf
    have hwl:=hff.1
    have hwn:want≠[]:=by rintro rfl;simp only[List.length_nil] at hwl;omega
    have hw6:∀ w∈want,0≤w∧w≤64:=by have h:=(dT hI.ok prio turn).2.1;rw[ht] at h;exact h
    refine J 14 ?_
    refine .aZ (X:=Nat) [17,18,19,123,124,125,126,127,128,129,130,131,132,133,134,135,136,137,138,139,140,141,142,143,144,145,146,147,148,149,150,151,152,153,154,155] (fun n=>want.length-n) (fun n=>n≤want.length) (fun n=>[(18,some (.int .i64 (n:Int))),(17,some (.int .i64 ((F2 k want n:Nat):Int)))]) (fun n=>[sl aq 1 u100 want,sl aq 1 u94 want,ba kb bl k,A,F]) 0 ?_ ?_ ?_ ?_
    ·exact Nat.zero_le _
    ·exact⟨rfl,rfl,trivial⟩
    ·exact fun w s=>aw.kept .auto w s
    rintro n hn
    refine JD 9 (fun h126=>?_) fun h126=>?_
    ·refine J 6 ?_
     obtain⟨w,hw⟩:=ai (show n<want.length by omega)
     obtain⟨l,hl⟩:=ai (show n<k.libs.length by omega)
     have hlo:=hI.inv.ok.gy l (List.mem_of_getElem? hl)
     have hpc:=iv hI.inv hl
     have hw64:=hw6 w (List.mem_of_getElem? hw)
     have hol64:=hI.inv.ag.ol
     have hcl:k.owner.count (n:Int)≤k.owner.length:=List.count_le_length
     have hmv:=Bd (k:=k) hw
     have hmb:=I7 (k:=k) hol64 (fun w hw=>(hw6 w hw).2) n (by omega)
     refine J 2 ?_
     refine .c call40 rfl (dO (b:=kb) (bl:=bl) (k:=k) (n:=(n:Int))) fun _ _=>?_
     refine .o3 (C:=ba kb bl k) .auto rfl ?_
     rintro vo vl xl ⟨hxb,hxs⟩
     have hxl:=au hxs
     have hbl:=au hxb
     have hxx:=And.intro hxb hxs
     obtain⟨⟨kx,lx⟩,hx,hxe,hbx⟩:=cX hxb hxs hl
     simp only at hxe hbx
     rw[aV,hbx]
     subst hxe
     refine .fr .auto (cc (f:=fun x:Nat×Lib=>bJ x.1 x.2) hx) ?_
     refine .o2 (C:=bJ kx lx) .auto rfl ?_
     rintro bs br -
     refine .c call41 rfl (fi (b:=kx) (bs:=bs) (br:=br) (l:=lx) (Nat.le_trans hlo.vl (by decide))) fun uq _=>?_
     refine .to (A:=aO (fun x:Nat×Lib=>bJ x.1 x.2) xl) .auto (cC (f:=fun x:Nat×Lib=>bJ x.1 x.2) hx) ?_
     refine .to (A:=ba kb bl k) .auto kk ?_
     refine J 9 ?_
     refine .p (.ix n rfl rfl rfl (by omega)) ?_
     refine .p (.lr rfl hw) ?_
     refine JD 3 (fun h139=>?_) fun h139=>?_
     ·refine J 5 ?_
      refine .p (.ix n rfl rfl rfl (by omega)) ?_
      refine .p (.lr rfl hw) ?_
      refine J 1 ?_
      refine .p (.fa (Y.add rfl rfl (by omega)) (show((F2 k want n:Nat):Int)+((lx.procs.length:Int)-w)=((F2 k want (n+1):Nat):Int) by omega)) ?_
      refine J 9 ?_
      refine .ax (n+1) .auto rfl ?_ ?_ ?_ ?_
      ·omega
      ·show n+1≤_;omega
      ·exact⟨rfl,rfl,trivial⟩
      ·exact fun w s=>aw.kept .auto w s
     ·refine J 4 ?_
      refine .p (.ix n rfl rfl rfl (by omega)) ?_
      refine .p (.lr rfl hw) ?_
      refine J 2 ?_
      refine .p (.fa (Y.add rfl rfl (by omega)) (show((F2 k want n:Nat):Int)+(w-(lx.procs.length:Int))=((F2 k want (n+1):Nat):Int) by omega)) ?_
      refine J 9 ?_
      refine .ax (n+1) .auto rfl ?_ ?_ ?_ ?_
      ·omega
      ·show n+1≤_;omega
      ·exact⟨rfl,rfl,trivial⟩
      ·exact fun w s=>aw.kept .auto w s
    ·obtain rfl:n=want.length:=by omega
     obtain⟨mv,hmv⟩:∃ mv,F2 k want want.length=mv:=⟨_,rfl⟩
     have hfm:=vq hI.inv (prio:=prio) (turn:=turn) (by rw[ht];exact hwn)
     have hsm:=Bc hI.inv prio turn (by rw[ht];exact hwn)
     rw[ht] at hfm hsm
     change k.fair prio turn=decide (F2 k want want.length=0) at hfm
     change (k.share prio turn).2=F2 k want want.length at hsm
     rw[hmv] at hfm hsm ⊢
     obtain⟨bz,hbz⟩:∃ bz,decide (mv=0)=bz:=⟨_,rfl⟩
     have hbz2:decide ((mv:Int)=0)=bz:=by rw[← hbz];by_cases e:mv=0 <;> simp[e]
     rw[hbz] at hfm
     refine J 8 ?_
     refine .c call36 rfl (gH (b:=kb) (bl:=bl) (k:=k) hI.ok) fun u157 _=>?_
     refine J 8 ?_
     refine .c call42 rfl (qu (A:=seps [sl aq 1 u100 want,sl aq 1 u94 want]) (Rd.eX (Rd.sl .here)) (Rd.eX (Rd.sl (.there .here))) (by omega)) fun _ _=>?_
     refine .dL .auto ?_
     rw[decide_eq_true (rfl:want=want)]
     refine J 5 ?_
     refine .cg call39 rfl (iu (b:=kb) (bl:=bl) (A:=A) (v:=w9) (prio:=prio) (turn:=turn) (k:=k) hpr hpl hI.ok) fun _ _=>?_
     rw[hfm]
     refine J 1 ?_
     refine .g (.NS (Y.eql rfl rfl) hbz2) ?_
     refine .g (.NS (n:=false) (Y.Db (p:=bz) (q:=bz) underlying4 rfl rfl) (by simp)) ?_
     refine J 5 ?_
     refine .cg call38 rfl (gI (b:=kb) (bl:=bl) (A:=A) (v:=w9) (prio:=prio) (turn:=turn) (k:=k) hpr hpl hI.inv (by omega)) fun _ _=>?_
     rw[hsm]
     obtain⟨k2,hk2⟩:∃ k2,k2=(k.share prio turn).1:=⟨_,rfl⟩
     rw[← hk2]
     have sh:=shared hI.inv hf hwn hk2
     have hv2:=(dH hI.inv prio turn).1
     have hkp:=(dH hI.inv prio turn).2
     rw[← hk2] at hv2 hkp
     have hful:=xG (lR hI.ok) hf
     have hll:=sh.2.2.1
     have hop:=hkp.ol
     have hol:=hI.ag.ol
     refine JD 5 (fun h178=>?_) fun h178=>?_
     ·exact absurd rfl h178
     ·refine J 14 ?_
      refine .aZ (X:=Nat) [10,21,22,23,179,180,181,182,183,184,185,186,187,188,189,190,191,192,193,194,195,196,197,198] (fun n=>want.length-n) (fun n=>n≤want.length) (fun n=>[(22,some (.int .i64 (n:Int))),(21,some (.int .i64 ((bR (want.take n):Nat):Int)))]) (fun n=>[sl aq 1 u94 want,sl aq 1 u157 k.demand,ba kb bl k2,A,F]) 0 ?_ ?_ ?_ ?_
      ·exact Nat.zero_le _
      ·exact⟨rfl,rfl,trivial⟩
      ·exact fun w s=>aw.kept .auto w s
      rintro n hn
      refine JD 9 (fun h182=>?_) fun h182=>?_
      ·refine J 6 ?_
       obtain⟨w,hw⟩:=ai (show n<want.length by omega)
       obtain⟨l,hl⟩:=ai (show n<k2.libs.length by omega)
       have hlo:=hv2.ok.gy l (List.mem_of_getElem? hl)
       have hpc:=iv hv2 hl
       have hw64:=hw6 w (List.mem_of_getElem? hw)
       have hol64:=hv2.ag.ol
       have hcl:k2.owner.count (n:Int)≤k2.owner.length:=List.count_le_length
       have hcw:=sh.2.2.2.2.1 n w hw
       have hst:=sf hw
       have hs1:=sj want n
       refine J 2 ?_
       refine .c call40 rfl (dO (b:=kb) (bl:=bl) (k:=k2) (n:=(n:Int))) fun _ _=>?_
       refine .o3 (C:=ba kb bl k2) .auto rfl ?_
       rintro vo vl xl ⟨hxb,hxs⟩
       have hxl:=au hxs
       have hbl:=au hxb
       have hxx:=And.intro hxb hxs
       obtain⟨⟨kx,lx⟩,hx,hxe,hbx⟩:=cX hxb hxs hl
       simp only at hxe hbx
       rw[aV,hbx]
       subst hxe
       refine .fr .auto (cc (f:=fun x:Nat×Lib=>bJ x.1 x.2) hx) ?_
       refine .o2 (C:=bJ kx lx) .auto rfl ?_
       rintro bs br -
       refine .c call41 rfl (fi (b:=kx) (bs:=bs) (br:=br) (l:=lx) (Nat.le_trans hlo.vl (by decide))) fun uq _=>?_
       refine .to (A:=aO (fun x:Nat×Lib=>bJ x.1 x.2) xl) .auto (cC (f:=fun x:Nat×Lib=>bJ x.1 x.2) hx) ?_
       refine .to (A:=ba kb bl k2) .auto kk ?_
       refine J 8 ?_
       refine .p (.fa (Y.add rfl rfl (by omega)) (show((bR (want.take n):Nat):Int)+(lx.procs.length:Int)=((bR (want.take (n+1)):Nat):Int) by omega)) ?_
       refine J 8 ?_
       refine .p (.ix n rfl rfl rfl (by omega)) ?_
       refine .p (.lr rfl hw) ?_
       refine JD 3 (fun h198=>?_) fun h198=>?_
       ·exact absurd (show(lx.procs.length:Int)=w by omega) h198
       ·refine J 8 ?_
        refine .ax (n+1) .auto rfl ?_ ?_ ?_ ?_
        ·omega
        ·show n+1≤_;omega
        ·exact⟨rfl,rfl,trivial⟩
        ·exact fun w s=>aw.kept .auto w s
      ·obtain rfl:n=want.length:=by omega
       rw[List.take_length]
       refine J 12 ?_
       refine .aZ (X:=Nat) [10,24,199,200,201,202,203,204,205,206,207,208,209,210,211,212,213,214,215,216,217,218,219] (fun n=>want.length-n) (fun n=>n≤want.length) (fun n=>[(24,some (.int .i64 (n:Int)))]) (fun n=>[sl aq 1 u94 want,sl aq 1 u157 k.demand,ba kb bl k2,A,F]) 0 ?_ ?_ ?_ ?_
       ·exact Nat.zero_le _
       ·exact⟨rfl,trivial⟩
       ·exact fun w s=>aw.kept .auto w s
       rintro n hn
       refine JD 9 (fun h202=>?_) fun h202=>?_
       ·refine J 5 ?_
        refine .draw [sl aq 1 u94 want,sl aq 1 u157 k.demand] [1,1,1,1,1,1,1,1,1,1,0,1,2,1,1] rfl (by kernel_rfl) ?_
        obtain⟨w,hw⟩:=ai (show n<want.length by omega)
        obtain⟨z,hz⟩:=ai (show n<k.demand.length by omega)
        refine J 2 ?_
        refine .p (.ix n rfl rfl rfl (by omega)) ?_
        refine .p (.lr rfl hw) ?_
        refine J 2 ?_
        refine .p (.ix n rfl rfl rfl (by omega)) ?_
        refine .p (.lr rfl hz) ?_
        refine J 2 ?_
        refine .mE (t:=214) rfl (fun h214=>?_) (fun h214=>?_)
        ·refine J 2 ?_
         refine .Pe rfl rfl rfl Kept.auto (af.eD rfl call35 rfl (eC (b:=kb) (bl:=bl) (k:=k2)) .auto) (by rintro _ _ ⟨⟨⟩, -,rfl,rfl⟩;exact Kept.auto) ?_
         rintro _ _ ⟨⟨⟩, -,rfl,rfl⟩
         refine JD 4 (fun h219=>?_) fun h219=>?_
         ·rcases hful with e | e
          ·omega
          ·have:=e n z w hz hw
           omega
         ·refine J 8 ?_
          refine .ax (n+1) .auto rfl ?_ ?_ ?_ ?_
          ·omega
          ·show n+1≤_;omega
          ·exact⟨rfl,trivial⟩
          ·exact fun w s=>aw.kept .auto w s
        ·refine J 2 ?_
         refine .LJ rfl rfl rfl rfl Kept.auto ?_
         refine J 4 ?_
         refine .ep rfl ?_
         refine J 8 ?_
         refine .ax (n+1) .auto rfl ?_ ?_ ?_ ?_
         ·omega
         ·show n+1≤_;omega
         ·exact⟨rfl,trivial⟩
         ·exact fun w s=>aw.kept .auto w s
       ·refine J 7 ?_
        refine .c call30 rfl ns fun _ _=>?_
        refine J 4 ?_
        refine .cg call39 rfl (iu (b:=kb) (bl:=bl) (A:=A) (v:=w9) (prio:=prio) (turn:=turn) (k:=k2) hpr hpl hv2.ok) fun _ _=>?_
        rw[sh.2.2.2.2.2]
        refine J 3 ?_
        refine .cg call36 rfl (gH (b:=kb) (bl:=bl) (k:=k2) hv2.ok) fun u229 _=>?_
        rw[Ba hkp]
        refine J 1 ?_
        refine .cg call42 rfl (qu (A:=seps [sl aq 1 u229 k.demand,sl aq 1 u157 k.demand]) (Rd.eX (Rd.sl .here)) (Rd.eX (Rd.sl (.there .here))) (by omega)) fun _ _=>?_
        refine .dL .auto ?_
        rw[decide_eq_true (rfl:k.demand=k.demand)]
        refine J 3 ?_
        refine .cg call43 rfl (rv (b:=kb) (bl:=bl) (k:=k2) hv2.ag.ol) fun u235 _=>?_
        have hfr:=FN hv2.ok sh.2.2.1 sh.2.2.2.2.1
        refine J 2 ?_
        refine .cg call35 rfl (eC (b:=kb) (bl:=bl) (k:=k2)) fun _ _=>?_
        refine J 8 ?_
        refine .aS rfl rfl fun w s=>⟨(),?_,trivial,ak .auto s⟩
        rw[decide_eq_true (by omega)]
end Go.SLYtpbjdoplfgeliaaGreat
