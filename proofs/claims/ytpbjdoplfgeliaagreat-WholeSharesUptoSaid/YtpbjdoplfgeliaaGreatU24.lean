/- Walks. Conditions: none. -/
import Derived.Test.YtpbjdoplfgeliaaGreatU15
import Derived.Test.YtpbjdoplfgeliaaGreatU23
import Derived.Test.YtpbjdoplfgeliaaGreatU07
import Derived.Test.YtpbjdoplfgeliaaGreatProg
import Derived.Test.YtpbjdoplfgeliaaGreatU22
import Derived.KernelRfl
set_option maxRecDepth 20000
set_option maxHeartbeats 4000000
namespace Go.SLYtpbjdoplfgeliaaGreat
open Go Go.RowKit
theorem La(s:Sy)(x:oo):(s.do x).2.prio=s.prio:=by
 unfold Sy.do
 split
 ·rfl
 ·split
  ·rfl
  ·split
   ·rfl
   ·split
    ·rfl
    ·split
     ·rfl
     ·split <;> rfl
theorem sq(s:Sy):∀ xs:List oo,(s.ec xs).prio=s.prio
 | []=>rfl
 | x::xs=>(sq (s.do x).2 xs).trans (La s x)
theorem C5(s:Sy)(t:Int):((s.do ⟨5,t,0⟩).2.do ⟨6,0,0⟩).2.k=(s.k.share s.prio t).1:=by
 rw[NW (x:=⟨5,t,0⟩) (show ¬(5:Int)=1 by decide) (show ¬(5:Int)=2 by decide) (show ¬(5:Int)=3 by decide) (show ¬(5:Int)=4 by decide) rfl,NX (x:=⟨6,0,0⟩) (by decide) (by decide) (by decide) (by decide) (by decide) rfl]
end Go.SLYtpbjdoplfgeliaaGreat
namespace Go.SLYtpbjdoplfgeliaaGreat
open Go Go.RowKit Go.Proofs Go.Proofs.Tryz
attribute [local irreducible] ar aR bm bA bH Y
theorem C6{W:World}{A:aa}{v:Value}{ps:List bc}(hr:Rd W [A] eT 8 v ps)(hp:∀ p∈ps,eY W [A] p)(hb:ps.length≤1000000000∧ ∀ p∈ps,p.fs.length≤1000000000∧p.bK.length≤1000000000∧p.bf.length≤1000000000)(hw:∀ p∈ps.map bc.p, ∀ f∈p.funcs, ∀ i∈f,fK i.n){np:Int}{u:Value}{xs:List oo}(hst:Rd W [A] nW 3 u xs)(hsl:xs.length≤1000000000)(hnp:0≤np∧np≤255){turn:Int}:Fn Tryz.prog W 7 [.int .u8 np,v,u,.int .i64 turn] [A] Unit (fun _=>.bool true) (fun _=>True) (fun _=>[A]):=by
 refine Fn.intro (N:=121) func7 rfl ntmps7 rfl fun F=>?_
 haveI hRI:∀ (H:List aa) [bE H A],aC W H v eT 8 ps:=fun H h=>⟨hr.at h.has⟩
 show ar _ _ _ _ _ _ [A,F]
 obtain⟨mk,mkd⟩:∃ mk,mk=np.toNat % (20):=⟨_,rfl⟩
 have mkl:mk<20:=by rw[mkd];exact Nat.mod_lt _ (by decide)
 have mkt:np.tmod (20)=(mk:Int):=by
  obtain⟨m,rfl⟩:∃ m:Nat,np=(m:Int):=⟨np.toNat,by omega⟩
  rw[mkd,Int.toNat_natCast];exact(Int.ofNat_tmod m (20)).symm
 refine J 8 ?_
 refine .p (.fa (Y.rem rfl rfl (by omega)) mkt) ?_
 refine .p (.jZ underlying5 underlying3 rfl (by omega)) ?_
 refine .p (.add rfl rfl (by omega)) ?_
 refine J 2 ?_
 refine .c call19 rfl (xN (procs:=(mk:Int)+1) hr hp hb hw hst hsl) fun o ho=>?_
 refine J 5 ?_
 by_cases hc:dF ((mk:Int)+1) (ps.map bc.p)=0
 ·obtain⟨sb,rfl⟩:=Option.isSome_iff_exists.1 (ho.trans (decide_eq_true hc))
  have h200:(xs.take 200).length≤200:=List.length_take_le ..
  have hP0:=vD.new hc hw
  have hni:=gU hc
  have hkl0:(Sy.new ((mk:Int)+1) (ps.map bc.p)).k.libs.length=ps.length:=((dH (gU hc).1 _ _).2.ll.trans hni.2.1).trans (List.length_map ..)
  have hP:=hP0.ec (xs:=xs.take 200) (by omega) _ (Nat.le_refl _)
  have hkl:=(sm hP0 (xs:=xs.take 200) (by omega) _ (Nat.le_refl _)).trans hkl0
  have hpr:=sq (Sy.new ((mk:Int)+1) (ps.map bc.p)) (xs.take 200)
  have hpr0:(Sy.new ((mk:Int)+1) (ps.map bc.p)).prio=(ps.map (·.prio)):=by show(ps.map bc.p).map (·.prio)=_;rw[List.map_map];rfl
  rw[List.take_length] at hP hkl
  rw[hpr0] at hpr
  obtain⟨s,hs⟩:∃ s,((Sy.new ((mk:Int)+1) (ps.map bc.p)).ec (xs.take 200))=s:=⟨_,rfl⟩
  rw[hs] at hP hkl hpr ⊢
  refine .fr (A:=optH (fun b=>D4 b s) (some sb)) (Bs:=[D4 sb s]) .auto iJ ?_
  refine .o2 (C:=D4 sb s) .auto rfl ?_
  rintro kb bl -
  have hI:=hP.b
  have hlog:=hI.log
  have hz:=ji (oZ hc)
  have hne:ps.length≠0∧ps.length≤8:=by have h:=hz.1;have h2:=hz.2.1;rw[List.length_map] at h h2;omega
  refine J 5 ?_
  refine .ep rfl ?_
  refine J 6 ?_
  refine .p (.fY (fun v1 v2=>[v1,v2,.int .i64 0]) rfl rfl (by kernel_rfl)) ?_
  refine .c call11 rfl (mf (b:=sb) (kb:=kb) (bl:=bl) (s:=s) (x:=⟨5,turn,0⟩) (hI.rn (by omega)) hI.k.inv (by omega) (by have:=hI.log;omega) (Nat.le_trans hI.prio (by decide))) fun _ _=>?_
  have hP1:=hP.do (by omega) ⟨5,turn,0⟩
  have hI1:=hP1.b
  have hlog1:=hI1.log
  refine J 5 ?_
  refine .p (.gX (fun v1=>[v1,.int .i64 0,.int .i64 0]) rfl (by kernel_rfl)) ?_
  refine .c call11 rfl (mf (b:=sb) (kb:=kb) (bl:=bl) (s:=(s.do ⟨5,turn,0⟩).2) (x:=⟨6,0,0⟩) (hI1.rn (by omega)) hI1.k.inv (by omega) (by have:=hI1.log;omega) (Nat.le_trans hI1.prio (by decide))) fun _ _=>?_
  have hP2:=hP1.do (by omega) ⟨6,0,0⟩
  have hts:=C5 s turn
  obtain⟨s2,hs2⟩:∃ s2,((s.do ⟨5,turn,0⟩).2.do ⟨6,0,0⟩).2=s2:=⟨_,rfl⟩
  rw[hs2] at hP2 hts ⊢
  have hKO:=hP2.b.k.inv.ok
  have hdl:s.k.demand.length=ps.length:=by unfold Krn.demand;rw[List.length_map];exact hkl
  obtain⟨want,hf⟩:=FM (procs:=(s.k.owner.length:Int)) (demand:=s.k.demand) (prio:=(ps.map (·.prio))) (turn:=turn) (by rw[hdl,List.length_map]) (by omega) (by have:=hI.k.inv.ag.ol;omega) (by have h:=KV (oZ hc);rw[List.map_map] at h;exact h)
  have hwl:=(lQ (lR hI.k.inv.ok) hf).1
  have hwn:want≠[]:=by rintro rfl;simp only[List.length_nil] at hwl;omega
  rw[hpr] at hts
  have sh:=shared hI.k.inv hf hwn hts
  have hll:=sh.2.2.1
  have hdl2:s2.k.demand.length=s2.k.libs.length:=by unfold Krn.demand;exact List.length_map ..
  have hsm:=(lQ (lR hI.k.inv.ok) hf).2.2
  have hful:=xG (lR hKO) sh.1
  refine J 4 ?_
  refine .aj rfl (af.gj 3 rfl rfl (by kernel_rfl)) ?_
  rintro _ _ ⟨b35,rfl,rfl⟩
  refine J 10 ?_
  refine .aZ (X:=Nat×Value) [10,11,36,37,38,39,40,41,42,43,44,45,46,47,48,49] (fun z=>ps.length-z.1) (fun z=>z.1≤ps.length) (fun z=>[(11,some (.int .i64 (z.1:Int))),(10,some z.2)]) (fun z=>[sl aq 1 z.2 ((ps.take z.1).map (·.prio)),gK sb kb bl s2,A,F]) (0,.slice (some ⟨b35,0,none⟩) 0 0) ?_ ?_ ?_ ?_
  ·exact Nat.zero_le _
  ·exact⟨rfl,rfl,trivial⟩
  ·exact fun w s=>aw.kept .auto w s
  rintro⟨n,w10⟩ hn
  simp only at hn
  refine JD 9 (fun h39=>?_) fun h39=>?_
  ·refine J 8 ?_
   obtain⟨x,hx⟩:=ai (show n<ps.length by omega)
   refine .p (.ix n rfl rfl rfl (by omega)) ?_
   refine J 1 ?_
   refine .p (.ld rfl (Cell.rd (enc:=eT) (k:=8) (c:=7) Rd.s hx rfl)) ?_
   refine .aj rfl (af.gj 3 rfl rfl (by kernel_rfl)) ?_
   rintro _ _ ⟨b48,rfl,rfl⟩
   refine .aj rfl (af.fV (enc:=aq) (k:=1) x.prio rfl underlying50 underlying50 typeInfo3 rfl rfl rfl (by decide) rfl rfl rfl .auto rfl .auto (by rw[List.length_map,List.length_take];omega) rfl) ?_
   rintro _ _ ⟨v49,rfl,rfl⟩
   refine J 9 ?_
   refine .ax (n+1,v49) .auto rfl ?_ ?_ ?_ ?_
   ·show ps.length-(n+1)<ps.length-n;omega
   ·show n+1≤_;omega
   ·exact⟨rfl,rfl,trivial⟩
   ·show ∀ w,Sat _ w _→Sat _ w (seps [sl aq 1 v49 ((ps.take (n+1)).map (·.prio)),gK sb kb bl s2,A,F])
    rw[xI hx]
    exact fun w s=>aw.kept .auto w s
  ·obtain rfl:n=ps.length:=by omega
   rw[List.take_length]
   refine J 8 ?_
   refine .c call18 rfl (dC (b:=sb) (kb:=kb) (bl:=bl) (s:=s2)) fun _ _=>?_
   refine .o2 (C:=gK sb kb bl s2) .auto rfl ?_
   rintro pv lv -
   refine .c call35 rfl (eC (b:=kb) (bl:=bl) (k:=s2.k)) fun _ _=>?_
   refine J 1 ?_
   refine .c call18 rfl (dC (b:=sb) (kb:=kb) (bl:=bl) (s:=s2)) fun _ _=>?_
   refine .o2 (C:=gK sb kb bl s2) .auto rfl ?_
   rintro pv lv -
   refine .c call36 rfl (gH (b:=kb) (bl:=bl) (k:=s2.k) hKO) fun u56 _=>?_
   refine J 2 ?_
   refine .c call34 rfl (A9 (A:=seps [sl aq 1 u56 s2.k.demand,sl aq 1 w10 (ps.map (·.prio))]) (procs:=(s2.k.owner.length:Int)) (demand:=s2.k.demand) (prio:=(ps.map (·.prio))) (turn:=turn) (Rd.eX (Rd.sl .here)) (Rd.eX (Rd.sl (.there .here))) ⟨by rw[List.length_map];omega,by omega,lR hKO⟩) fun u59 _=>?_
   refine .dL .auto ?_
   rw[sh.1]
   simp only[Option.getD_some,Option.isSome_some]
   refine J 1 ?_
   refine .p (.extract (v:=u59) rfl rfl) ?_
   refine .p (.extract (v:=.bool true) rfl rfl) ?_
   refine J 16 ?_
   refine .aZ (X:=Nat) [8,14,15,16,62,63,64,65,66,67,68,69,70,71,72,73,74,75,76,77,78,79,80,81,82,83,84,85,86] (fun n=>ps.length-n) (fun n=>n≤ps.length) (fun n=>[(15,some (.int .i64 (n:Int))),(14,some (.int .i64 ((bR (want.take n):Nat):Int)))]) (fun n=>[sl aq 1 u59 want,sl aq 1 w10 (ps.map (·.prio)),gK sb kb bl s2,A,F]) 0 ?_ ?_ ?_ ?_
   ·exact Nat.zero_le _
   ·exact⟨rfl,rfl,trivial⟩
   ·exact fun w s=>aw.kept .auto w s
   rintro n hn
   refine JD 9 (fun h65=>?_) fun h65=>?_
   ·refine J 6 ?_
    obtain⟨w,hw⟩:=ai (show n<want.length by omega)
    obtain⟨l,hl⟩:=ai (show n<s2.k.libs.length by omega)
    have hlo:=hKO.gy l (List.mem_of_getElem? hl)
    have hpc:=iv hP2.b.k.inv hl
    have hcw:=sh.2.2.2.2.1 n w hw
    have hw64:=sh.2.2.2.1 w (List.mem_of_getElem? hw)
    have hst:=sf hw
    have hs1:=sj want n
    refine J 1 ?_
    refine .c call18 rfl (dC (b:=sb) (kb:=kb) (bl:=bl) (s:=s2)) fun _ _=>?_
    refine .o2 (C:=gK sb kb bl s2) .auto rfl ?_
    rintro pv lv -
    refine J 1 ?_
    refine .c call40 rfl (dO (b:=kb) (bl:=bl) (k:=s2.k) (n:=(n:Int))) fun _ _=>?_
    refine .o3 (C:=ba kb bl s2.k) .auto rfl ?_
    rintro vo vl xl ⟨hxb,hxs⟩
    have hxl:=au hxs
    have hbl:=au hxb
    have hxx:=And.intro hxb hxs
    obtain⟨⟨kx,lx⟩,hx,hxe,hbx⟩:=cX hxb hxs hl
    simp only at hxe hbx
    rw[aV,hbx]
    subst hxe
    refine .fr .auto (cc (f:=fun x:Nat×Lib=>bJ x.1 x.2) hx) ?_
    refine .o2 (C:=bJ kx lx) .auto rfl ?_
    rintro bs br -
    refine .c call41 rfl (fi (b:=kx) (bs:=bs) (br:=br) (l:=lx) (Nat.le_trans hlo.vl (by decide))) fun uq _=>?_
    refine .to (A:=aO (fun x:Nat×Lib=>bJ x.1 x.2) xl) .auto (cC (f:=fun x:Nat×Lib=>bJ x.1 x.2) hx) ?_
    refine .to (A:=ba kb bl s2.k) .auto kk ?_
    refine J 8 ?_
    refine .p (.fa (Y.add rfl rfl (by omega)) (show((bR (want.take n):Nat):Int)+(lx.procs.length:Int)=((bR (want.take (n+1)):Nat):Int) by omega)) ?_
    refine J 11 ?_
    refine .g (.ix n rfl rfl rfl (by omega)) ?_
    refine .g (.lr rfl hw) ?_
    refine JD 4 (fun h86=>?_) fun h86=>?_
    ·exact absurd (show(lx.procs.length:Int)=w by omega) h86
    ·refine J 8 ?_
     refine .ax (n+1) .auto rfl ?_ ?_ ?_ ?_
     ·omega
     ·show n+1≤_;omega
     ·exact⟨rfl,rfl,trivial⟩
     ·exact fun w s=>aw.kept .auto w s
   ·obtain rfl:n=ps.length:=by omega
    rw[List.take_of_length_le (by omega)]
    refine J 12 ?_
    refine .aZ (X:=Nat) [8,17,87,88,89,90,91,92,93,94,95,96,97,98,99,100,101,102,103,104,105,106,107,108,109,110,111,112] (fun n=>ps.length-n) (fun n=>n≤ps.length) (fun n=>[(17,some (.int .i64 (n:Int)))]) (fun n=>[sl aq 1 w10 (ps.map (·.prio)),gK sb kb bl s2,A,F]) 0 ?_ ?_ ?_ ?_
    ·exact Nat.zero_le _
    ·exact⟨rfl,trivial⟩
    ·exact fun w s=>aw.kept .auto w s
    rintro n hn
    refine JD 9 (fun h90=>?_) fun h90=>?_
    ·refine J 6 ?_
     obtain⟨w,hw⟩:=ai (show n<want.length by omega)
     obtain⟨l,hl⟩:=ai (show n<s2.k.libs.length by omega)
     have hlo:=hKO.gy l (List.mem_of_getElem? hl)
     have hpc:=iv hP2.b.k.inv hl
     have hcw:=sh.2.2.2.2.1 n w hw
     have hw64:=sh.2.2.2.1 w (List.mem_of_getElem? hw)
     obtain⟨z,hz⟩:=ai (show n<s2.k.demand.length by omega)
     refine J 1 ?_
     refine .c call18 rfl (dC (b:=sb) (kb:=kb) (bl:=bl) (s:=s2)) fun _ _=>?_
     refine .o2 (C:=gK sb kb bl s2) .auto rfl ?_
     rintro pv lv -
     refine J 1 ?_
     refine .c call40 rfl (dO (b:=kb) (bl:=bl) (k:=s2.k) (n:=(n:Int))) fun _ _=>?_
     refine .o3 (C:=ba kb bl s2.k) .auto rfl ?_
     rintro vo vl xl ⟨hxb,hxs⟩
     have hxl:=au hxs
     have hbl:=au hxb
     have hxx:=And.intro hxb hxs
     obtain⟨⟨kx,lx⟩,hx,hxe,hbx⟩:=cX hxb hxs hl
     simp only at hxe hbx
     rw[aV,hbx]
     subst hxe
     refine .fr .auto (cc (f:=fun x:Nat×Lib=>bJ x.1 x.2) hx) ?_
     refine .o2 (C:=bJ kx lx) .auto rfl ?_
     rintro bs br -
     refine .c call41 rfl (fi (b:=kx) (bs:=bs) (br:=br) (l:=lx) (Nat.le_trans hlo.vl (by decide))) fun uq _=>?_
     refine .to (A:=aO (fun x:Nat×Lib=>bJ x.1 x.2) xl) .auto (cC (f:=fun x:Nat×Lib=>bJ x.1 x.2) hx) ?_
     refine .to (A:=ba kb bl s2.k) .auto kk ?_
     refine J 2 ?_
     refine .c call18 rfl (dC (b:=sb) (kb:=kb) (bl:=bl) (s:=s2)) fun _ _=>?_
     refine .o2 (C:=gK sb kb bl s2) .auto rfl ?_
     rintro pv lv -
     refine .c call36 rfl (gH (b:=kb) (bl:=bl) (k:=s2.k) hKO) fun u101 _=>?_
     refine J 1 ?_
     refine .p (.ix n rfl rfl rfl (by omega)) ?_
     refine .p (.lr rfl hz) ?_
     refine J 2 ?_
     refine .mE (t:=106) rfl (fun h105=>?_) (fun h105=>?_)
     ·refine J 2 ?_
      refine .cg call18 rfl (dC (b:=sb) (kb:=kb) (bl:=bl) (s:=s2)) fun _ _=>?_
      refine .o2 (C:=gK sb kb bl s2) .auto rfl ?_
      rintro pv lv -
      refine .cg call35 rfl (eC (b:=kb) (bl:=bl) (k:=s2.k)) fun _ _=>?_
      refine JD 4 (fun h112=>?_) fun h112=>?_
      ·rcases hful with e | e
       ·omega
       ·have:=e n z w hz hw
        omega
      ·refine J 8 ?_
       refine .ax (n+1) .auto rfl ?_ ?_ ?_ ?_
       ·omega
       ·show n+1≤_;omega
       ·exact⟨rfl,trivial⟩
       ·exact fun w s=>aw.kept .auto w s
     ·refine J 8 ?_
      refine .ep rfl ?_
      refine J 8 ?_
      refine .ax (n+1) .auto rfl ?_ ?_ ?_ ?_
      ·omega
      ·show n+1≤_;omega
      ·exact⟨rfl,trivial⟩
      ·exact fun w s=>aw.kept .auto w s
    ·refine J 7 ?_
     refine .c call16 rfl nU fun _ _=>?_
     refine J 2 ?_
     refine .cg call18 rfl (dC (b:=sb) (kb:=kb) (bl:=bl) (s:=s2)) fun _ _=>?_
     refine .o2 (C:=gK sb kb bl s2) .auto rfl ?_
     rintro pv lv -
     refine J 2 ?_
     refine .cg call39 rfl (iu (b:=kb) (bl:=bl) (k:=s2.k) (A:=sl aq 1 w10 (ps.map (·.prio))) (v:=w10) (prio:=(ps.map (·.prio))) (turn:=turn) (Rd.sl .here) (by rw[List.length_map];omega) hKO) fun _ _=>?_
     rw[sh.2.2.2.2.2]
     exact JR 5 ()
 ·obtain rfl:o=none:=by
   have h0:o.isSome=false:=ho.trans (decide_eq_false hc)
   cases o with
   | none=>rfl
   | some z=>cases h0
  refine J 5 ?_
  refine .gu rfl ?_
  refine J 2 ?_
  refine .c call16 rfl nU fun _ _=>?_
  exact JR 5 ()
end Go.SLYtpbjdoplfgeliaaGreat
