/- Walks of functions, and what they compute. Conditions: none, this text proves no statement. -/
import Derived.Test.YtpbjdoplfgeliaaGreatG14
import Derived.Test.YtpbjdoplfgeliaaGreatG07
import Derived.Test.YtpbjdoplfgeliaaGreatProg
import Derived.KernelRfl
set_option maxRecDepth 20000
set_option maxHeartbeats 4000000
namespace Go.SLYtpbjdoplfgeliaaGreat
open Go Go.RowKit
def qR(t:Spc)(acts:List eN):Spc:=acts.foldl (fun s a=>kn s 0 a) t
theorem IZ(t:Spc):∀ acts:List eN,eP [t] acts=[qR t acts]
 | []=>rfl
 | b::acts=>by
  have h0:=nk (l:=[t]) (k:=0) rfl b
  have hl:=yu [t] b
  have e:(oDo [t] b).2=[kn t 0 b]:=by
   match hx:(oDo [t] b).2 with
   | []=>rw[hx] at h0;cases h0
   | [z]=>rw[hx] at h0;cases h0;rfl
   | z::y::r=>rw[hx] at hl;simp at hl
  show eP (oDo [t] b).2 acts=_
  rw[e,IZ];rfl
theorem nr{t:Spc}{acts:List eN}{k:Nat}{a:eN}(h:acts[k]?=some a):qR t (acts.take (k+1))=kn (qR t (acts.take k)) 0 a:=by
 unfold qR;rw[aU h,List.foldl_append];rfl
theorem DG{t:Spc}(h:fS 1 t):∀ (acts:List eN) (m:Nat),m≤acts.length→1+acts.length≤1990→fS (1+m) (qR t (acts.take m))
 | acts,0,_,_=>h
 | acts,m+1,hm,hl=>by
  obtain⟨a,ha⟩:=ak (show m<acts.length by omega)
  rw[nr ha]
  exact JQ (DG h acts m (by omega) hl) (by omega) 0 a
theorem AX{acts:List eN}{n:Int}{a:eN}(h:a∈cn acts n):a.space=0∧ ∃ b∈acts,a.kind=b.kind:=by
 unfold cn at h
 obtain⟨b,hb,ha⟩:=List.mem_flatMap.1 h
 by_cases h3:b.kind=3
 ·rw[qJ h3,List.mem_singleton] at ha;subst ha;exact⟨rfl,b,hb,h3.symm⟩
 ·by_cases hs:b.space=n
  ·rw[uK h3 hs,List.mem_singleton] at ha;subst ha;exact⟨rfl,b,hb,rfl⟩
  ·rw[uL h3 hs] at ha;cases ha
theorem yP.kinds{l0:List Spc}{s:Sy}(h:yP l0 s){a:eN}(ha:a∈s.log):a.kind=1∨a.kind=2∨a.kind=3:=by
 obtain⟨n,hn⟩:=List.getElem?_of_mem ha
 have h0:=h.ok n a hn
 unfold oDo at h0
 by_cases h3:a.kind=3
 ·exact .inr (.inr h3)
 ·rw[if_neg h3] at h0
  split at h0
  ·cases h0
  ·by_cases h1:a.kind=1
   ·exact .inl h1
   ·rw[if_neg h1] at h0
    by_cases h2:a.kind=2
    ·exact .inr (.inl h2)
    ·rw[if_neg h2] at h0;cases h0
theorem FA{l0:List Spc}{s:Sy}(h:yP l0 s){n:Int}{i:Nat}{a:eN}(ha:(cn s.log n)[i]?=some a):a.space=0∧(a.kind=1∨a.kind=2∨a.kind=3):=by
 obtain⟨h1,b,hb,hk⟩:=AX (List.mem_of_getElem? ha)
 refine⟨h1,?_⟩
 rw[hk]
 exact h.kinds hb
theorem Mw{s:Spc}{a:eN}(h0:a.space=0)(h:a.kind=1):kn s 0 a=(s.run a.ab a.choice).2.2:=by simp[kn,h0,h]
theorem Mx{s:Spc}{a:eN}(h0:a.space=0)(h:a.kind=2):kn s 0 a=(s.done a.choice).2.2:=by simp[kn,h0,h]
theorem My{s:Spc}{a:eN}(h:a.kind=3):kn s 0 a=s.tick.2:=by simp[kn,h]
end Go.SLYtpbjdoplfgeliaaGreat
namespace Go.SLYtpbjdoplfgeliaaGreat
open Go Go.RowKit Go.Proofs Go.Proofs.Tryz
attribute [local irreducible] aq aR bf bq bB Y
theorem FB{W:World}{A:aa}{v:Value}{ps:List aX}(hr:Rd W [A] ej 8 v ps)(hp:∀ p∈ps,fi W [A] p)(hb:ps.length≤1000000000∧ ∀ p∈ps,p.fs.length≤1000000000∧p.bJ.length≤1000000000∧p.bb.length≤1000000000)(hw:∀ p∈ps.map aX.p, ∀ f∈p.funcs, ∀ i∈f,fC i.n){np:Int}{u:Value}{xs:List oB}(hst:Rd W [A] lW 3 u xs)(hsl:xs.length≤1000000000)(hnp:0≤np∧np≤255){cu:Int}(hcu:0≤cu∧cu≤255):Fn Tryz.prog W 5 [.int .u8 np,v,u,.int .u8 cu] [A] Unit (fun _=>.bool true) (fun _=>True) (fun _=>[A]):=by
 refine Fn.intro (N:=121) func5 rfl ntmps5 rfl fun F=>?_
 haveI hRI:∀ (H:List aa) [bx H A],aA W H v ej 8 ps:=fun H h=>⟨hr.at h.has⟩
 show aq _ _ _ _ _ _ [A,F]
 obtain⟨mk,mkd⟩:∃ mk,mk=np.toNat % (20):=⟨_,rfl⟩
 have mkl:mk<20:=by rw[mkd];exact Nat.mod_lt _ (by decide)
 have mkt:np.tmod (20)=(mk:Int):=by
  obtain⟨m,rfl⟩:∃ m:Nat,np=(m:Int):=⟨np.toNat,by omega⟩
  rw[mkd,Int.toNat_natCast];exact(Int.ofNat_tmod m (20)).symm
 refine J 8 ?_
 refine .p (.fY (Y.rem rfl rfl (by omega)) mkt) ?_
 refine .p (.jj underlying5 underlying3 rfl (by omega)) ?_
 refine .p (.add rfl rfl (by omega)) ?_
 refine J 2 ?_
 refine .c call19 rfl (xt (procs:=(mk:Int)+1) hr hp hb hw hst hsl) fun o ho=>?_
 refine J 5 ?_
 by_cases hc:dL ((mk:Int)+1) (ps.map aX.p)=0
 ·obtain⟨sb,rfl⟩:=Option.isSome_iff_exists.1 (ho.trans (decide_eq_true hc))
  have h200:(xs.take 200).length≤200:=List.length_take_le ..
  have hP0:=xp.new hc hw
  have hP:=hP0.ey (xs:=xs.take 200) (by omega) _ (Nat.le_refl _)
  have hR:=(yP.new hc).ey hP0 (xs:=xs.take 200) (by omega) _ (Nat.le_refl _)
  rw[List.take_length] at hP hR
  obtain⟨s,hs⟩:∃ s,((Sy.new ((mk:Int)+1) (ps.map aX.p)).ey (xs.take 200))=s:=⟨_,rfl⟩
  rw[hs] at hP hR ⊢
  refine .fr (A:=optH (fun b=>Du b s) (some sb)) (Bs:=[Du sb s]) .auto gN ?_
  refine .o2 (C:=Du sb s) .auto rfl ?_
  rintro kb bl -
  have hI:=hP.b
  have hlog:=hI.log
  have hz:=lh (vf hc)
  have hne:ps.length≠0:=by have h:=hz.1;rw[List.length_map] at h;omega
  refine JD 10 (fun h30=>?_) fun h30=>?_
  ·exact absurd h30 (by omega)
  ·obtain⟨k,kd⟩:∃ k,k=cu.toNat % (ps.length):=⟨_,rfl⟩
   have kl:k<ps.length:=by rw[kd];exact Nat.mod_lt _ (by omega)
   have kt:cu.tmod ((ps.length:Int))=(k:Int):=by
    obtain⟨m,rfl⟩:∃ m:Nat,cu=(m:Int):=⟨cu.toNat,by omega⟩
    rw[kd,Int.toNat_natCast];exact(Int.ofNat_tmod m (ps.length)).symm
   have hal:=vh hc hR (k:=k) (by rw[List.length_map];omega)
   have hrl:=Dw (hI.rn (by omega)) (k:Int)
   refine J 5 ?_
   refine .p (.jj underlying5 underlying3 rfl (by omega)) ?_
   refine J 2 ?_
   refine .p (.fY (Y.rem rfl rfl (by omega)) kt) ?_
   refine J 8 ?_
   refine .c call13 rfl (yL (b:=sb) (kb:=kb) (bl:=bl) (s:=s) (by omega)) fun u41 _=>?_
   refine .c call12 rfl (oA (A:=seps [A,sl cR 4 u41 s.log]) (acts:=s.log) (n:=(k:Int)) (Rd.eO (hr.at .here)) (fun p hpp=>((hp p hpp).at .here).eO) hb hw (Rd.eO (Rd.sl (.there .here))) (by omega)) fun u42 _=>?_
   refine .dO .auto ?_
   rw[hal.1,hal.2.1]
   refine J 11 ?_
   obtain⟨p0,hpk⟩:=ak kl
   have hpm:=List.mem_of_getElem? hpk
   have hck:cy p0.p=0:=hz.2.2 _ (List.mem_map.2 ⟨p0,hpm,rfl⟩)
   have hpl:=hb.2 p0 hpm
   have hal3:=hal.2.2
   rw[show(ps.map aX.p)[k]'(by rw[List.length_map];exact kl)=p0.p from by have e:=List.getElem?_eq_some_iff.1 hpk;obtain⟨e1,e2⟩:=e;rw[List.getElem_map,e2],IZ] at hal3
   have hfin:=hal3 _ rfl
   have hok0:fS 1 (Spc.new p0.p):=fS.new ⟨hck,hw p0.p (List.mem_map.2 ⟨p0,hpm,rfl⟩)⟩
   have hlal:=ik s.log (k:Int)
   refine .p (.ix k rfl rfl rfl kl) ?_
   refine .p (.la rfl (Cells.rd Rd.s hpk)) ?_
   refine .c call20 rfl (uq (hp p0 hpm) hpl) fun o2 ho2=>?_
   refine JD 18 (fun h58=>?_) fun h58=>?_
   ·exact absurd hck h58
   ·obtain⟨cb,rfl⟩:=Option.isSome_iff_exists.1 (ho2.trans (decide_eq_true hck))
    refine .fr (A:=optH (fun b=>bV b (Spc.new p0.p)) (some cb)) (Bs:=[bV cb (Spc.new p0.p)]) .auto gN ?_
    refine J 5 ?_
    refine .c call13 rfl (yL (b:=sb) (kb:=kb) (bl:=bl) (s:=s) (by omega)) fun u60 _=>?_
    refine J 1 ?_
    refine .c call21 rfl (qQ (A:=sl cR 4 u60 s.log) (acts:=s.log) (n:=(k:Int)) (Rd.sl .here) (by omega)) fun u62 _=>?_
    refine J 10 ?_
    refine .bm (X:=Nat) [16,63,64,65,66,67,68,69,70,71,72,73,74,75,76,77,78,79,80,81,82,83,84,85,86,87,88,89,90,91,92,93,94,95,96,97,98] (fun i=>(cn s.log (k:Int)).length-i) (fun i=>i≤(cn s.log (k:Int)).length) (fun i=>[(16,some (.int .i64 (i:Int)))]) (fun i=>[bV cb (qR (Spc.new p0.p) ((cn s.log (k:Int)).take i)),sl cR 4 u62 (cn s.log (k:Int)),sl cW 6 u42 (s.au (k:Int)),gn sb kb bl s,A,F]) 0 ?_ ?_ ?_ ?_
    ·exact Nat.zero_le _
    ·exact⟨rfl,trivial⟩
    ·exact fun w s=>aw.kept .auto w s
    rintro i hi
    refine JD 9 (fun h66=>?_) fun h66=>?_
    ·refine J 8 ?_
     obtain⟨x,hx⟩:=ak (show i<(cn s.log (k:Int)).length by omega)
     have hkd:=FA hR hx
     have hsp:=(DG hok0 (cn s.log (k:Int)) i hi (by omega)).aM (by omega)
     refine .p (.ix i rfl rfl rfl (by omega)) ?_
     refine J 1 ?_
     refine .p (.ld rfl (Cell.rd (enc:=cR) (k:=4) (c:=0) Rd.s hx rfl)) ?_
     refine JD 9 (fun h77=>?_) fun h77=>?_
     ·refine .draw [] [1,1,1,1,1,1,1,1,1,1,1,3] rfl (by kernel_rfl) ?_
      refine J 3 ?_
      refine .p (.ix i rfl rfl rfl (by omega)) ?_
      refine J 1 ?_
      refine .p (.ld rfl (Cell.rd (enc:=cR) (k:=4) (c:=2) Rd.s hx rfl)) ?_
      refine J 2 ?_
      refine .p (.ix i rfl rfl rfl (by omega)) ?_
      refine J 1 ?_
      refine .p (.ld rfl (Cell.rd (enc:=cR) (k:=4) (c:=3) Rd.s hx rfl)) ?_
      refine .c call22 rfl (uF (b:=cb) (s:=(qR (Spc.new p0.p) ((cn s.log (k:Int)).take i))) (n:=x.ab) (choice:=x.choice) hsp) fun u89 _=>?_
      refine J 9 ?_
      refine .aH (i+1) .auto rfl ?_ ?_ ?_ ?_
      ·omega
      ·show i+1≤_;omega
      ·exact⟨rfl,trivial⟩
      ·show ∀ w,Sat _ w _→Sat _ w (seps [bV cb (qR (Spc.new p0.p) ((cn s.log (k:Int)).take (i+1))),sl cR 4 u62 (cn s.log (k:Int)),sl cW 6 u42 (s.au (k:Int)),gn sb kb bl s,A,F])
       rw[nr hx,Mw hkd.1 h77]
       exact fun w s=>aw.kept .auto w s
     ·refine JD 6 (fun h91=>?_) fun h91=>?_
      ·refine J 4 ?_
       refine .p (.ix i rfl rfl rfl (by omega)) ?_
       refine J 1 ?_
       refine .p (.ld rfl (Cell.rd (enc:=cR) (k:=4) (c:=3) Rd.s hx rfl)) ?_
       refine .c call23 rfl (qF (b:=cb) (s:=(qR (Spc.new p0.p) ((cn s.log (k:Int)).take i))) (k:=x.choice) hsp) fun u98 _=>?_
       refine J 9 ?_
       refine .aH (i+1) .auto rfl ?_ ?_ ?_ ?_
       ·omega
       ·show i+1≤_;omega
       ·exact⟨rfl,trivial⟩
       ·show ∀ w,Sat _ w _→Sat _ w (seps [bV cb (qR (Spc.new p0.p) ((cn s.log (k:Int)).take (i+1))),sl cR 4 u62 (cn s.log (k:Int)),sl cW 6 u42 (s.au (k:Int)),gn sb kb bl s,A,F])
        rw[nr hx,Mx hkd.1 h91]
        exact fun w s=>aw.kept .auto w s
      ·refine J 2 ?_
       refine .c call24 rfl (qG (b:=cb) (s:=(qR (Spc.new p0.p) ((cn s.log (k:Int)).take i))) hsp) fun u75 _=>?_
       refine J 9 ?_
       refine .aH (i+1) .auto rfl ?_ ?_ ?_ ?_
       ·omega
       ·show i+1≤_;omega
       ·exact⟨rfl,trivial⟩
       ·show ∀ w,Sat _ w _→Sat _ w (seps [bV cb (qR (Spc.new p0.p) ((cn s.log (k:Int)).take (i+1))),sl cR 4 u62 (cn s.log (k:Int)),sl cW 6 u42 (s.au (k:Int)),gn sb kb bl s,A,F])
        rw[nr hx,My ((hkd.2.resolve_left h77).resolve_left h91)]
        exact fun w s=>aw.kept .auto w s
    ·obtain rfl:i=(cn s.log (k:Int)).length:=by omega
     rw[List.take_length]
     obtain⟨z,hzs⟩:∃ z,z=qR (Spc.new p0.p) (cn s.log (k:Int)):=⟨_,rfl⟩
     rw[← hzs] at hfin ⊢
     refine J 7 ?_
     refine .c call16 rfl xu fun _ _=>?_
     refine J 4 ?_
     refine .cg call15 rfl (mQ (b:=sb) (kb:=kb) (bl:=bl) (s:=s) (n:=(k:Int)) (hI.rn (by omega))) fun u104 _=>?_
     refine .cg call14 rfl (uG (A:=seps [sl cW 6 u42 (s.au (k:Int)),sl cW 6 u104 (s.au (k:Int))]) (Rd.eO (Rd.sl .here)) (Rd.eO (Rd.sl (.there .here))) hrl.1) fun _ _=>?_
     refine .dO .auto ?_
     rw[decide_eq_true (rfl:(s.au (k:Int))=(s.au (k:Int)))]
     refine J 3 ?_
     refine .cg call25 rfl (lE (b:=cb) (s:=z) (by rw[hfin.1];exact hrl.1)) fun u109 _=>?_
     rw[hfin.1]
     refine J 1 ?_
     refine .cg call14 rfl (uG (A:=seps [sl cW 6 u109 (s.au (k:Int)),sl cW 6 u42 (s.au (k:Int))]) (Rd.eO (Rd.sl .here)) (Rd.eO (Rd.sl (.there .here))) hrl.1) fun _ _=>?_
     rw[decide_eq_true (rfl:(s.au (k:Int))=(s.au (k:Int)))]
     refine J 3 ?_
     refine .cg call27 rfl (rz (b:=cb) (s:=z) (by rw[hfin.2];exact hrl.2)) fun u115 _=>?_
     rw[hfin.2]
     refine J 2 ?_
     refine .cg call28 rfl (Cp (b:=sb) (kb:=kb) (bl:=bl) (s:=s) (n:=(k:Int)) (hI.rn (by omega))) fun u118 _=>?_
     refine .cg call26 rfl (Fc (A:=seps [sl de 1 u115 (s.mem (k:Int)),sl de 1 u118 (s.mem (k:Int))]) (Rd.eO (Rd.sl .here)) (Rd.eO (Rd.sl (.there .here))) hrl.2) fun _ _=>?_
     rw[decide_eq_true (rfl:(s.mem (k:Int))=(s.mem (k:Int)))]
     exact JR 5 ()
 ·obtain rfl:o=none:=by
   have h0:o.isSome=false:=ho.trans (decide_eq_false hc)
   cases o with
   | none=>rfl
   | some z=>cases h0
  refine J 10 ?_
  refine .gw rfl ?_
  refine J 2 ?_
  refine .c call16 rfl xu fun _ _=>?_
  exact JR 5 ()
end Go.SLYtpbjdoplfgeliaaGreat
