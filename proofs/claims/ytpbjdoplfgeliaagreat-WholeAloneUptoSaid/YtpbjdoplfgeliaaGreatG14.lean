/- Walks of functions, and what they compute. Conditions: none, this text proves no statement. -/
import Derived.Test.YtpbjdoplfgeliaaGreatG13
import Derived.Test.YtpbjdoplfgeliaaGreatG07
import Derived.Test.YtpbjdoplfgeliaaGreatProg
import Derived.Test.YtpbjdoplfgeliaaGreatG12
import Derived.KernelRfl
import Derived.Test.YtpbjdoplfgeliaaGreatG04
set_option maxRecDepth 20000
set_option maxHeartbeats 4000000
namespace Go.SLYtpbjdoplfgeliaaGreat
open Go Go.RowKit
theorem AU{k:Nat}:∀ (acts:List eN) {l:List Spc} {t:Spc},l[k]?=some t→ ∃ u,(eP l acts)[k]?=some u∧(eP [t] (cn acts (k:Int)))[0]?=some u
 | [],_,t,h=>⟨t,h,rfl⟩
 | a::acts,l,t,h=>by
  have h1:=nk h a
  have e:eP l (a::acts)=eP (oDo l a).2 acts:=rfl
  have e2:∀ x,eP x (cn (a::acts) (k:Int))=eP (eP x (uh (k:Int) a)) (cn acts (k:Int)):=fun x=>by
   unfold cn
   rw[List.flatMap_cons,vd]
  have e3:eP [t] (uh (k:Int) a)=[kn t k a]:=by
   have g:∀ b:eN,eP [t] [b]=[kn t 0 b]:=fun b=>by
    have h0:=nk (l:=[t]) (k:=0) rfl b
    have hl:=yu [t] b
    show(oDo [t] b).2=_
    match hx:(oDo [t] b).2 with
    | []=>rw[hx] at h0;cases h0
    | [z]=>rw[hx] at h0;cases h0;rfl
    | z::y::r=>rw[hx] at hl;simp at hl
   by_cases h3:a.kind=3
   ·rw[qJ h3,g];unfold kn;rw[if_pos h3,if_pos rfl]
   ·by_cases hs:a.space=(k:Int)
    ·rw[uK h3 hs,g]
     simp[kn,h3,hs]
    ·rw[uL h3 hs]
     unfold kn
     rw[if_neg h3,if_pos hs];rfl
  rw[e,e2,e3]
  exact AU acts h1
theorem vh{procs:Int}{ps:List fc}{s:Sy}(hc:dL procs ps=0)(h:yP (ps.map Spc.new) s){k:Nat}(hk:k<ps.length):lg ps (k:Int)=0∧aloneR ps (k:Int) s.log=s.au (k:Int)∧ ∀ u,(eP [Spc.new (ps[k])] (cn s.log (k:Int)))[0]?=some u→u.au=s.au (k:Int)∧u.mem=s.mem (k:Int):=by
 have hz:=lh (vf hc)
 have hp:ps[k]?=some ps[k]:=List.getElem?_eq_getElem hk
 have hg:aB ps (k:Int)=some ps[k]:=by rw[aY,hp]
 have hck:=hz.2.2 _ (List.getElem_mem hk)
 obtain⟨u,h1,h2⟩:=AU s.log (l:=ps.map Spc.new) (k:=k) (t:=Spc.new ps[k]) (by rw[List.getElem?_map,hp];rfl)
 rw[h.run] at h1
 have hsp:=Fw (s:=s) (k:Int)
 rw[pJ h1,JU h1] at hsp
 obtain⟨a1,a2⟩:=qK hg hck s.log
 refine⟨a1,?_,fun v hv=>?_⟩
 ·rw[a2]
  exact(pJ (k:=0) h2).trans hsp.1
 ·rw[h2] at hv
  cases hv
  exact hsp
end Go.SLYtpbjdoplfgeliaaGreat
namespace Go.SLYtpbjdoplfgeliaaGreat
open Go Go.RowKit Go.Proofs Go.Proofs.Tryz
attribute [local irreducible] aq aR bf bq bB Y
theorem AV{W:World}{A:aa}{v:Value}{xs:List oB}(hr:Rd W [A] lW 3 v xs)(hl:xs.length≤1000000000):Fn Tryz.prog W 10 [v] [A] Value (fun u=>u) (fun u=>Rd W [A] lW 3 u (xs.take 250)) (fun _=>[A]):=by
 refine Fn.intro (N:=9) func10 rfl ntmps10 rfl fun F=>?_
 haveI hRI:∀ (H:List aa) [bx H A],aA W H v lW 3 xs:=fun H h=>⟨hr.at h.has⟩
 show aq _ _ _ _ _ _ [A,F]
 refine JD 13 (fun h5=>?_) fun h5=>?_
 ·refine J 3 ?_
  refine .p (.sliceTo 250 underlying23 sizeOf32 rfl rfl Rd.s rfl (by omega)) ?_
  refine J 5 ?_
  refine .aP rfl rfl fun w s=>⟨_,?_,Rd.KS (n:=250) (by omega) hr,aj .auto s⟩
  rfl
 ·refine J 9 ?_
  refine .aP rfl rfl fun w s=>⟨_,?_,by rw[List.take_of_length_le (by omega)];exact hr,aj .auto s⟩
  rfl
theorem AW{W:World}{A:aa}{v:Value}{ps:List aX}(hr:Rd W [A] ej 8 v ps)(hp:∀ p∈ps,fi W [A] p)(hb:ps.length≤1000000000∧ ∀ p∈ps,p.fs.length≤1000000000∧p.bJ.length≤1000000000∧p.bb.length≤1000000000)(hw:∀ p∈ps.map aX.p, ∀ f∈p.funcs, ∀ i∈f,fC i.n){np:Int}{u:Value}{xs:List oB}(hst:Rd W [A] lW 3 u xs)(hsl:xs.length≤1000000000)(hnp:0≤np∧np≤255){cu:Int}(hcu:0≤cu∧cu≤255):Fn Tryz.prog W 3 [.int .u8 np,v,u,.int .u8 cu] [A] Unit (fun _=>.bool true) (fun _=>True) (fun _=>[A]):=by
 refine Fn.intro (N:=71) func3 rfl ntmps3 rfl fun F=>?_
 haveI hRI:∀ (H:List aa) [bx H A],aA W H v ej 8 ps:=fun H h=>⟨hr.at h.has⟩
 haveI hRJ:∀ (H:List aa) [bx H A],aA W H u lW 3 xs:=fun H h=>⟨hst.at h.has⟩
 show aq _ _ _ _ _ _ [A,F]
 obtain⟨mk,mkd⟩:∃ mk,mk=np.toNat % (33):=⟨_,rfl⟩
 have mkl:mk<33:=by rw[mkd];exact Nat.mod_lt _ (by decide)
 have mkt:np.tmod (33)=(mk:Int):=by
  obtain⟨m,rfl⟩:∃ m:Nat,np=(m:Int):=⟨np.toNat,by omega⟩
  rw[mkd,Int.toNat_natCast];exact(Int.ofNat_tmod m (33)).symm
 refine J 8 ?_
 refine .p (.fY (Y.rem rfl rfl (by omega)) mkt) ?_
 refine .p (.jj underlying5 underlying3 rfl (by omega)) ?_
 refine .p (.add rfl rfl (by omega)) ?_
 refine J 1 ?_
 refine .c call8 rfl (AK (procs:=(mk:Int)+1) hr hp hb) fun o ho=>?_
 refine J 13 ?_
 apply aR.ga 4 30 26 [26,27,28,29,30] rfl
 ·intro h26
  exact JS 5
 ·intro h26
  exact JS 5
 refine JD 2 (fun h30=>?_) fun h30=>?_
 ·simp only[Bool.or_eq_true,decide_eq_true_eq] at h30
  refine J 2 ?_
  refine .c call9 rfl rE fun _ _=>?_
  exact JR 5 ()
 ·simp only[Bool.or_eq_false_iff,decide_eq_false_iff_not] at h30
  have hne:ps.length≠0:=by omega
  have hc:dL ((mk:Int)+1) (ps.map aX.p)=0:=by omega
  obtain⟨sb,rfl⟩:=Option.isSome_iff_exists.1 (ho.trans (decide_eq_true hc))
  refine .fr (A:=optH (fun b=>Du b (Sy.new ((mk:Int)+1) (ps.map aX.p))) (some sb)) (Bs:=[Du sb (Sy.new ((mk:Int)+1) (ps.map aX.p))]) .auto gN ?_
  refine .o2 (C:=Du sb (Sy.new ((mk:Int)+1) (ps.map aX.p))) .auto rfl ?_
  rintro kb bl -
  have hP0:=xp.new hc hw
  have hI0:=hP0.b
  have hni:=k0 hc
  have hkl0:(Sy.new ((mk:Int)+1) (ps.map aX.p)).k.libs.length=ps.length:=((gv (k0 hc).1 _ _).2.ll.trans hni.2.1).trans (List.length_map ..)
  have h250:(xs.take 250).length≤250:=List.length_take_le ..
  have hR0:=yP.new hc
  refine J 5 ?_
  refine .c call10 rfl (AV hst hsl) fun u33 hsm=>?_
  haveI hRK:∀ (H:List aa) [bx H A],aA W H u33 lW 3 (xs.take 250):=fun H h=>⟨hsm.at h.has⟩
  refine J 10 ?_
  refine .bm (X:=Nat×Sy) [11,34,35,36,37,38,39,40,41,42,43,44,45] (fun z=>(xs.take 250).length-z.1) (fun z=>z.1≤(xs.take 250).length∧xp z.1 z.2∧yP ((ps.map aX.p).map Spc.new) z.2) (fun z=>[(11,some (.int .i64 (z.1:Int)))]) (fun z=>[gn sb kb bl z.2,A,F]) (0,(Sy.new ((mk:Int)+1) (ps.map aX.p))) ?_ ?_ ?_ ?_
  ·exact⟨Nat.zero_le _,hP0,hR0⟩
  ·exact⟨rfl,trivial⟩
  ·exact fun w s=>aw.kept .auto w s
  rintro⟨i,s⟩ ⟨hi,hP,hR⟩
  simp only at hi hP hR
  have hI:=hP.b
  have hlog:=hI.log
  refine JD 9 (fun h37=>?_) fun h37=>?_
  ·refine J 8 ?_
   obtain⟨x,hx⟩:=ak (show i<(xs.take 250).length by omega)
   refine .p (.ix i rfl rfl rfl (by omega)) ?_
   refine .p (.la rfl (Cells.rd Rd.s hx)) ?_
   refine .c call11 rfl (oz (b:=sb) (kb:=kb) (bl:=bl) (s:=s) (x:=x) (hI.rn (by omega)) hI.k.inv (by omega) (by have:=hI.log;omega) (Nat.le_trans hI.prio (by decide))) fun _ _=>?_
   refine J 8 ?_
   refine .aH (i+1,(s.do x).2) .auto rfl ?_ ?_ ?_ ?_
   ·show(xs.take 250).length-(i+1)<(xs.take 250).length-i;omega
   ·exact⟨by show i+1≤_;omega,hP.do (by omega) x,hR.do hP (by omega) x⟩
   ·exact⟨rfl,trivial⟩
   ·exact fun w s=>aw.kept .auto w s
  ·obtain⟨k,kd⟩:∃ k,k=cu.toNat % (ps.length):=⟨_,rfl⟩
   have kl:k<ps.length:=by rw[kd];exact Nat.mod_lt _ (by omega)
   have kt:cu.tmod ((ps.length:Int))=(k:Int):=by
    obtain⟨m,rfl⟩:∃ m:Nat,cu=(m:Int):=⟨cu.toNat,by omega⟩
    rw[kd,Int.toNat_natCast];exact(Int.ofNat_tmod m (ps.length)).symm
   have hal:=vh hc hR (k:=k) (by rw[List.length_map];omega)
   have hrl:=(Dw (hI.rn (by omega)) (k:Int)).1
   refine J 8 ?_
   refine .p (.jj underlying5 underlying3 rfl (by omega)) ?_
   refine J 2 ?_
   refine .p (.fY (Y.rem rfl rfl (by omega)) kt) ?_
   refine J 8 ?_
   refine .c call13 rfl (yL (b:=sb) (kb:=kb) (bl:=bl) (s:=s) (by omega)) fun u55 _=>?_
   refine .c call12 rfl (oA (A:=seps [A,sl cR 4 u55 s.log]) (acts:=s.log) (n:=(k:Int)) (Rd.eO (hr.at .here)) (fun p hpp=>((hp p hpp).at .here).eO) hb hw (Rd.eO (Rd.sl (.there .here))) (by omega)) fun u56 _=>?_
   refine .dO .auto ?_
   rw[hal.1,hal.2.1]
   refine J 9 ?_
   refine .c call9 rfl rE fun _ _=>?_
   refine J 8 ?_
   refine .cg call15 rfl (mQ (b:=sb) (kb:=kb) (bl:=bl) (s:=s) (n:=(k:Int)) (hI.rn (by omega))) fun u68 _=>?_
   refine .cg call14 rfl (uG (A:=seps [sl cW 6 u56 (s.au (k:Int)),sl cW 6 u68 (s.au (k:Int))]) (Rd.eO (Rd.sl .here)) (Rd.eO (Rd.sl (.there .here))) hrl) fun _ _=>?_
   rw[decide_eq_true (rfl:s.au (k:Int)=s.au (k:Int))]
   exact JR 5 ()
end Go.SLYtpbjdoplfgeliaaGreat
namespace Go.SLYtpbjdoplfgeliaaGreat
open Go Go.RowKit
structure DF(n m:Nat)(s:Sy):Prop where
 k:SI n m s.k
 log:s.log.length≤n
 prio:s.prio.length≤8
theorem yQ.j{i:Nat}{s:Sy}(h:yQ i s):DF (i+1) (2100+2048 * i) s:=⟨h.k,Nat.le_succ_of_le h.log,h.prio⟩
theorem DF.le{n m n' m':Nat}{s:Sy}(h:DF n m s)(hn:n≤n')(hm:m≤m'):DF n' m' s:=⟨h.k.le hn hm,Nat.le_trans h.log hn,h.prio⟩
theorem DF.step{n m:Nat}{s:Sy}(h:DF n m s)(hn:n≤1980)(p c:Int):DF (n+1) (m+40) (s.do ⟨1,p,c⟩).2:=by
 rw[do_1 rfl]
 refine⟨h.k.step hn p c,?_,h.prio⟩
 show(s.log++jQ (s.k.step p c).1 c).length≤_
 have:=rr (s.k.step p c).1 c
 have:=h.log
 rw[List.length_append];omega
theorem Ct{n m:Nat}{s:Sy}(h:DF n m s)(p c:Int):(s.do ⟨1,p,c⟩).2.k.owner=s.k.owner:=by
 rw[do_1 rfl]
 show(s.k.step p c).2.owner=_
 by_cases e:dy s.k p=0
 ·obtain⟨i,j,l,rfl,ho,hl, -⟩:=dA h.k.ok e
  rw[iF ho hl]
 ·rw[gC e]
def Sy.turns(s:Sy):Nat→Sy
 | 0=>s
 | p+1=>((s.turns p).do ⟨1,(p:Int),0⟩).2
def Sy.round(s:Sy):Sy:=s.turns s.k.owner.length
def Sy.rounds(s:Sy):Nat→Sy
 | 0=>s
 | n+1=>(s.rounds n).round
theorem DF.turns{n m:Nat}{s:Sy}(h:DF n m s):∀ p,n+p≤1980→DF (n+p) (m+40 * p) (s.turns p)∧(s.turns p).k.owner=s.k.owner
 | 0,_=>⟨h,rfl⟩
 | p+1,hp=>by
  have ih:=h.turns p (by omega)
  refine⟨(ih.1.step (by omega) _ _).le (by omega) (by omega),?_⟩
  exact(Ct ih.1 _ _).trans ih.2
theorem DF.rounds{n m:Nat}{s:Sy}(h:DF n m s):∀ r,n+r * s.k.owner.length≤1980→DF (n+r * s.k.owner.length) (m+40 * (r * s.k.owner.length)) (s.rounds r)∧(s.rounds r).k.owner=s.k.owner
 | 0,_=>⟨h.le (by omega) (by omega),rfl⟩
 | r+1,hr=>by
  have e:(r+1) * s.k.owner.length=r * s.k.owner.length+s.k.owner.length:=by rw[Nat.add_mul,Nat.one_mul]
  rw[e] at hr ⊢
  have ih:=h.rounds r (by omega)
  have hl:(s.rounds r).k.owner.length=s.k.owner.length:=by rw[ih.2]
  have ht:=ih.1.turns (s.rounds r).k.owner.length (by omega)
  refine⟨ht.1.le (by omega) (by omega),ht.2.trans ih.2⟩
def IS(l:List eN)(space:Int)(behind:Nat):Bool:=(l.drop (min behind l.length)).any fun a=>decide (a.kind=1) && decide (a.space=space)
def Sy.Mu(s:Sy)(space:Int):Bool:=decide (0<(s.round.log.length:Int)-(s.log.length:Int)) && IS s.round.log space s.log.length
def Sy.found(s:Sy)(space:Int):Nat→Nat→Int×Bool
 | 0,k=>((k:Int),false)
 | f+1,k=>if (s.rounds k).Mu space=true then ((k:Int)+1,true) else s.found space f (k+1)
/-! law 23's own fact -/
def Pm:Sy:=Sy.new 1 [M9]
theorem IT{m:Nat}{s:Sy}(hi:Inv m s.k)(x:oB):(s.do x).2.k.owner.length=s.k.owner.length:=by
 unfold Sy.do
 split
 ·show(s.k.step x.a x.b).2.owner.length=_
  by_cases e:dy s.k x.a=0
  ·obtain⟨i,j,l,hn,ho,hl, -⟩:=dA hi.ok e
   rw[hn,iF ho hl]
  ·rw[gC e]
 ·split
  ·rfl
  ·split
   ·show(s.k.done x.a x.b).2.owner.length=_
    unfold Krn.done
    split <;> rfl
   ·split
    ·show(s.k.preempt x.a).2.owner.length=_
     by_cases e:dy s.k x.a=0
     ·obtain⟨i,j,l,hn,ho,hl, -⟩:=dA hi.ok e
      rw[hn,pM ho hl]
     ·rw[mF e]
    ·split
     ·rfl
     ·split
      ·exact(gv hi _ _).2.ol
      ·rfl
def Pn(x y z:Nat):aa:=seps [arr z 0 (ej (LW x y)),arr y 0 [.slice (some ⟨x,0,none⟩) 1 1],arr x 0 (dM ⟨1,1,0,0,5⟩)]
end Go.SLYtpbjdoplfgeliaaGreat
namespace Go.SLYtpbjdoplfgeliaaGreat
open Go Go.RowKit
def Sy.ey(s:Sy)(xs:List oB):Sy:=xs.foldl (fun s x=>(s.do x).2) s
theorem mT{s:Sy}{xs:List oB}{k:Nat}{x:oB}(h:xs[k]?=some x):s.ey (xs.take (k+1))=((s.ey (xs.take k)).do x).2:=by
 unfold Sy.ey;rw[aU h,List.foldl_append];rfl
theorem xp.ey{s:Sy}(h:xp 0 s){xs:List oB}(hx:xs.length≤400):∀ k,k≤xs.length→xp k (s.ey (xs.take k))
 | 0,_=>h
 | k+1,hk=>by
  obtain⟨x,hxk⟩:=ak (show k<xs.length by omega)
  rw[mT hxk]
  exact(h.ey hx k (by omega)).do (by omega) x
theorem yP.ey{l0:List Spc}{s:Sy}(h:xp 0 s)(hr:yP l0 s){xs:List oB}(hx:xs.length≤400):∀ k,k≤xs.length→yP l0 (s.ey (xs.take k))
 | 0,_=>hr
 | k+1,hk=>by
  obtain⟨x,hxk⟩:=ak (show k<xs.length by omega)
  rw[mT hxk]
  exact(hr.ey h hx k (by omega)).do (h.ey hx k (by omega)) (by omega) x
/-! does nothing go on? -/
def MC(l:Lib)(t:Int):Bool:=(l.aM.at t).isSome && (decide (((l.aM.at t).getD G5).cQ=5) || decide (((l.aM.at t).getD G5).cQ=8))
def qI(l:Lib):Nat→Bool
 | 0=>true
 | t+1=>qI l t && !MC l (t:Int)
def quiet(l:Lib):Bool:=decide (l.aM.ready.length=0) && qI l 16
def FE(s:Sy)(n:Nat):Bool:=(s.k.libs.take n).all quiet
theorem Ns{l:Lib}{t m:Nat}(h:qI l t=false)(hm:t≤m):qI l m=false:=by
 induction m with
 | zero=>rw[show t=0 by omega] at h;exact h
 | succ m ih =>
  by_cases e:t=m+1
  ·rw[e] at h;exact h
  ·rw[qI,ih (by omega)];rfl
theorem Cu{s:Sy}{n:Nat}{l:Lib}(h:s.k.libs[n]?=some l):FE s (n+1)=(FE s n && quiet l):=by
 unfold FE;rw[aU h,List.all_append];simp
theorem IU{s:Sy}{n m:Nat}(h:FE s n=false)(hm:n≤m):FE s m=false:=by
 unfold FE at *
 rw[List.all_eq_false] at *
 obtain⟨x,hx,hq⟩:=h
 have:s.k.libs.take n=(s.k.libs.take m).take n:=by rw[List.take_take,Nat.min_eq_left hm]
 rw[this] at hx
 exact⟨x,List.mem_of_mem_take hx,hq⟩
theorem Kz{l:Lib}{t:Nat}(h:qI l t=true)(hs:MC l (t:Int)=false):qI l (t+1)=true:=by rw[qI,h,hs];rfl
theorem IV{l:Lib}{t:Nat}(h:qI l t=true)(hs:MC l (t:Int)=true)(ht:t<16):quiet l=false:=by
 unfold quiet
 rw[Ns (t:=t+1) (by rw[qI,h,hs];rfl) (by omega),Bool.and_false]
theorem Fx{l:Lib}(h:l.aM.ready.length=0)(hq:qI l 16=true):quiet l=true:=by
 unfold quiet;rw[decide_eq_true h,hq];rfl
/-! a round -/
def Sy.tP(s:Sy)(c:Int):Nat→Sy
 | 0=>s
 | p+1=>((s.tP c p).do ⟨1,(p:Int),c⟩).2
def Sy.tJ(s:Sy)(k:Int)(P:Nat):Nat→Sy
 | 0=>s
 | j+1=>(s.tJ k P j).tP (k+(j:Int)) P
def Sy.tN(s:Sy)(k:Int):Nat→Sy
 | 0=>s
 | n+1=>((s.tN k n).do ⟨3,(n:Int),k⟩).2
def Sy.tS(s:Sy)(k:Int):Sy:=((s.do ⟨5,k,0⟩).2.do ⟨6,0,0⟩).2
def Sy.O5(s:Sy)(k:Int)(P n:Nat):Sy:=((((s.tS k).tJ k P 40).tN k n).do ⟨2,0,0⟩).2
structure AZ(i P n:Nat)(s:Sy):Prop where
 b:yQ i s
 o:s.k.owner.length=P
 l:s.k.libs.length=n
theorem AZ.do{i P n:Nat}{s:Sy}(h:AZ i P n s)(hi:i≤400)(x:oB):AZ (i+1) P n (s.do x).2:=⟨h.b.do hi x,(IT h.b.k.inv x).trans h.o,(Dx h.b.k.inv x).trans h.l⟩
theorem AZ.tP{i P n:Nat}{s:Sy}(h:AZ i P n s)(c:Int):∀ p,i+p≤400→AZ (i+p) P n (s.tP c p)
 | 0,_=>h
 | p+1,hp=>(h.tP c p (by omega)).do (by omega) _
theorem AZ.tJ{i P n:Nat}{s:Sy}(h:AZ i P n s)(k:Int):∀ j,i+P * j≤400→AZ (i+P * j) P n (s.tJ k P j)
 | 0,_=>h
 | j+1,hj=>by
  rw[Nat.mul_succ] at hj ⊢
  exact Nat.add_assoc .. ▸ (h.tJ k j (by omega)).tP _ P (by omega)
theorem AZ.tN{i P n:Nat}{s:Sy}(h:AZ i P n s)(k:Int):∀ m,i+m≤400→AZ (i+m) P n (s.tN k m)
 | 0,_=>h
 | m+1,hm=>(h.tN k m (by omega)).do (by omega) _
/-! the fixed system -/
def MD:List Ins:=[⟨1,1,0,0,7⟩,⟨38,1,0,0,0⟩]
def KV:fc:=⟨[MD],0,0,0,[],[],0,0⟩
def lO(x y:Nat):aX:=⟨rZ y 1,[(.slice (some ⟨x,0,none⟩) 2 2,MD)],0,0,0,.slice none 0 0,[],.slice none 0 0,[],0,0⟩
def Mv(x y z:Nat):aa:=seps [arr z 0 (ej (lO x y)),arr y 0 [.slice (some ⟨x,0,none⟩) 2 2],arr x 0 (rows dM MD)]
theorem Fy{W:World}{x y z:Nat}:Rd W [Mv x y z] ej 8 (rZ z 1) [lO x y]:=Rd.eO (Rd.lit .here rfl (fun _ _=>rfl) rfl)
theorem IW{W:World}{x y z:Nat}:∀ p∈ [lO x y],fi W [Mv x y z] p:=fun p hp=>by
 have e:p=lO x y:=by simpa using hp
 subst e
 refine⟨Rd.eO (Rd.lit (.there .here) rfl (fun _ _=>rfl) rfl),fun q hq=>?_,Rd.nil,Rd.nil⟩
 rw[show(lO x y).fs=[(.slice (some ⟨x,0,none⟩) 2 2,MD)] from rfl,List.mem_singleton] at hq
 subst hq
 exact Rd.eO (Rd.lit (.there (.there .here)) rfl (fun _ _=>rfl) rfl)
theorem KA{x y:Nat}:[lO x y].length≤1000000000∧ ∀ p∈ [lO x y],p.fs.length≤1000000000∧p.bJ.length≤1000000000∧p.bb.length≤1000000000:=⟨by show 1≤_;decide,fun p hp=>by
 have e:p=lO x y:=by simpa using hp
 subst e
 exact⟨by show 1≤_;decide,by show 0≤_;decide,by show 0≤_;decide⟩⟩
theorem Nt:dL 2 [KV]=0:=by decide +kernel
theorem KW:∀ p∈ [KV], ∀ f∈p.funcs, ∀ i∈f,fC i.n:=fun p hp f hf i hi=>by
 have e:p=KV:=by simpa using hp
 subst e
 have:f=MD:=by simpa [KV] using hf
 subst this
 have:i=⟨1,1,0,0,7⟩∨i=⟨38,1,0,0,0⟩:=by simpa [MD] using hi
 rcases this with rfl | rfl <;> unfold fC <;> decide
def vi:Sy:=Sy.new 2 [KV]
def z24:Sy:=vi.O5 0 2 1
theorem KB:AZ 0 2 1 vi:=⟨yQ.new Nt KW,by decide +kernel,by decide +kernel⟩
theorem Oo:yQ 84 vi:=⟨KB.b.k.le (by decide) (by decide),Nat.le_trans KB.b.log (by decide),KB.b.prio⟩
theorem Nu:AZ 84 2 1 z24:=(((((KB.do (by decide) ⟨5,0,0⟩).do (by decide) ⟨6,0,0⟩).tJ 0 40 (by decide)).tN 0 1 (by decide)).do (by decide) ⟨2,0,0⟩)
theorem O6:FE vi 1=false:=by decide +kernel
theorem Oq:FE z24 1=true:=by decide +kernel
theorem Nv:(z24.au 0).length=2:=by decide +kernel
theorem Ot:∃ r:Rec,(z24.au 0)[0]?=some r∧r.x=7:=by
 have h:((z24.au 0)[0]?).map (·.x)=some 7:=by decide +kernel
 cases e:(z24.au 0)[0]? with
 | none=>rw[e] at h;cases h
 | some r=>rw[e] at h;exact⟨r,rfl,Option.some.inj h⟩
end Go.SLYtpbjdoplfgeliaaGreat
namespace Go.SLYtpbjdoplfgeliaaGreat
open Go Go.RowKit Go.Proofs Go.Proofs.Tryz
attribute [local irreducible] aq aR bf bq bB Y
theorem IX{W:World}{o a b c n:Int}:Fn Tryz.prog W 55 [.int .i64 o,.int .i64 a,.int .i64 b,.int .i64 c,.int .u64 n] [] Unit (fun _=>.agg (dM ⟨o,a,b,c,n⟩).toArray) (fun _=>True) (fun _=>[]):=by
 refine Fn.intro (N:=17) func55 rfl ntmps55 rfl fun F=>?_
 show aq _ _ _ _ _ _ [F]
 refine J 2 ?_
 refine .ai rfl (af.alloc rfl zeroValue94 rfl) ?_
 rintro _ _ ⟨b10,rfl,rfl⟩
 refine J 9 ?_
 refine .p (.MJ (fun v1 v2 v3 v4 v5=>[v1,v2,v3,v4,v5]) rfl rfl rfl rfl rfl (by kernel_rfl)) ?_
 refine J 4 ?_
 refine .dG rfl rfl isAgg94 (by exact sizeOf94) Cells.a fun w s=>⟨(),?_,trivial,aj .auto s⟩
 rfl
theorem KC{W:World}{a n:Int}:Fn Tryz.prog W 54 [.int .i64 a,.int .u64 n] [] Unit (fun _=>.agg (dM ⟨1,a,0,0,n⟩).toArray) (fun _=>True) (fun _=>[]):=by
 refine Fn.intro (N:=8) func54 rfl ntmps54 rfl fun F=>?_
 show aq _ _ _ _ _ _ [F]
 refine J 2 ?_
 refine .ai rfl (af.alloc rfl zeroValue94 rfl) ?_
 rintro _ _ ⟨b4,rfl,rfl⟩
 refine J 6 ?_
 refine .c call55 rfl IX fun _ _=>?_
 refine .ai rfl (af.gW (vs:=dM ⟨1,a,0,0,n⟩) (by exact sizeOf94) rfl rfl rfl (by rfl)) ?_
 rintro _ _ ⟨rfl,rfl⟩
 refine J 3 ?_
 refine .dG rfl rfl isAgg94 (by exact sizeOf94) Cells.a fun w s=>⟨(),?_,trivial,aj .auto s⟩
 rfl
theorem KD{W:World}{A:aa}{v:Value}{xs:List oB}(hr:Rd W [A] lW 3 v xs)(hl:xs.length≤1000000000):Fn Tryz.prog W 62 [v] [A] Value (fun u=>u) (fun u=>Rd W [A] lW 3 u (xs.take 200)) (fun _=>[A]):=by
 refine Fn.intro (N:=9) func62 rfl ntmps62 rfl fun F=>?_
 haveI hRI:∀ (H:List aa) [bx H A],aA W H v lW 3 xs:=fun H h=>⟨hr.at h.has⟩
 show aq _ _ _ _ _ _ [A,F]
 refine JD 13 (fun h5=>?_) fun h5=>?_
 ·refine J 3 ?_
  refine .p (.sliceTo 200 underlying23 sizeOf32 rfl rfl Rd.s rfl (by omega)) ?_
  refine J 5 ?_
  refine .aP rfl rfl fun w s=>⟨_,?_,Rd.KS (n:=200) (by omega) hr,aj .auto s⟩
  rfl
 ·refine J 9 ?_
  refine .aP rfl rfl fun w s=>⟨_,?_,by rw[List.take_of_length_le (by omega)];exact hr,aj .auto s⟩
  rfl
theorem IY{W:World}{b kb:Nat}{bl:List Nat}{s:Sy}{i N:Nat}(hI:yQ i s)(hi:i≤400)(hN:N≤s.k.libs.length):Fn Tryz.prog W 100 [ptr b,.int .i64 (N:Int)] [gn b kb bl s] Unit (fun _=>.bool (FE s N)) (fun _=>True) (fun _=>[gn b kb bl s]):=by
 refine Fn.intro (N:=47) func100 rfl ntmps100 rfl fun F=>?_
 show aq _ _ _ _ _ _ [gn b kb bl s,F]
 have hll:=hI.k.ll
 refine J 12 ?_
 refine .bm (X:=Nat) [4,5,6,7,8,9,10,11,12,13,14,15,16,17,18,19,20,21,22,23,24,25,26,27,28,29,30,31,32,33,34,35,36,37,38,39,40,41,42,43,44,45,46] (fun n=>N-n) (fun n=>n≤N∧FE s n=true) (fun n=>[(5,some (.int .i64 (n:Int)))]) (fun n=>[gn b kb bl s,F]) 0 ?_ ?_ ?_ ?_
 ·exact⟨Nat.zero_le _,rfl⟩
 ·exact⟨rfl,trivial⟩
 ·exact fun w s=>aw.kept .auto w s
 rintro n ⟨hn,ho⟩
 refine JD 8 (fun h11=>?_) fun h11=>?_
 ·obtain⟨l,hl⟩:=ak (show n<s.k.libs.length by omega)
  have hlm:=List.mem_of_getElem? hl
  have hlo:=hI.k.ok.gY l hlm
  have hsp:=(hI.k.gY l hlm).sp.aM (show i+2≤1990 by omega)
  refine J 8 ?_
  refine .c call18 rfl (im (b:=b) (kb:=kb) (bl:=bl) (s:=s)) fun _ _=>?_
  refine .o2 (C:=gn b kb bl s) .auto rfl ?_
  rintro pv lv -
  refine J 1 ?_
  refine .c call40 rfl (gk (b:=kb) (bl:=bl) (k:=s.k) (n:=(n:Int))) fun _ _=>?_
  refine .o3 (C:=bR kb bl s.k) .auto rfl ?_
  rintro vo vl xl ⟨hxb,hxs⟩
  have hxl:=aC hxs
  have hbl:=aC hxb
  have hxx:=And.intro hxb hxs
  obtain⟨⟨kx,lx⟩,hx,hxe,hbx⟩:=eL hxb hxs hl
  simp only at hxe hbx
  rw[aY,hbx]
  subst hxe
  refine .fr .auto (cZ (f:=fun x:Nat×Lib=>cX x.1 x.2) hx) ?_
  refine .o2 (C:=cX kx lx) .auto rfl ?_
  rintro bs br -
  refine .c call53 rfl (il (b:=kx) (bs:=bs) (br:=br) (l:=lx)) fun _ _=>?_
  refine .o2 (C:=bF kx bs br lx) .auto rfl ?_
  rintro vv vw -
  refine .o1 (C:=bV bs lx.aM) .auto rfl ?_
  rintro pt -
  refine .c call58 rfl (oo (s:=lx.aM) hlo.th) fun u19 _=>?_
  refine .to (A:=aF (fun x:Nat×Lib=>cX x.1 x.2) xl) .auto (eK (f:=fun x:Nat×Lib=>cX x.1 x.2) hx) ?_
  refine .to (A:=bR kb bl s.k) .auto C9 ?_
  refine JD 4 (fun h21=>?_) fun h21=>?_
  ·have hov:FE s N=false:=IU (n:=n+1) (by rw[Cu hl,(show quiet lx=false from by unfold quiet;rw[decide_eq_false (by omega),Bool.false_and]),Bool.and_false]) (by omega)
   refine J 12 ?_
   rw[hov]
   exact JR 0 ()
  ·refine J 8 ?_
   refine .bm (X:=Nat) [4,6,7,8,22,23,24,25,26,27,28,29,30,31,32,33,34,35,36,37,38,39,40,41,42,43,44,45,46] (fun t=>16-t) (fun t=>t≤16∧qI lx t=true) (fun t=>[(6,some (.int .i64 (t:Int)))]) (fun t=>[gn b kb bl s,F]) 0 ?_ ?_ ?_ ?_
   ·exact⟨Nat.zero_le _,rfl⟩
   ·exact⟨rfl,trivial⟩
   ·exact fun w s=>aw.kept .auto w s
   rintro t ⟨ht,hq⟩
   refine JD 7 (fun h23=>?_) fun h23=>?_
   ·clear hx hxl hbl hxx hxb hxs hbx
    refine J 7 ?_
    refine .c call18 rfl (im (b:=b) (kb:=kb) (bl:=bl) (s:=s)) fun _ _=>?_
    refine .o2 (C:=gn b kb bl s) .auto rfl ?_
    rintro pv lv -
    refine J 1 ?_
    refine .c call40 rfl (gk (b:=kb) (bl:=bl) (k:=s.k) (n:=(n:Int))) fun _ _=>?_
    refine .o3 (C:=bR kb bl s.k) .auto rfl ?_
    rintro vo vl xl ⟨hxb,hxs⟩
    have hxl:=aC hxs
    have hbl:=aC hxb
    have hxx:=And.intro hxb hxs
    obtain⟨⟨ky,ly⟩,hx,hxe,hbx⟩:=eL hxb hxs hl
    simp only at hxe hbx
    rw[aY,hbx]
    subst hxe
    refine .fr .auto (cZ (f:=fun x:Nat×Lib=>cX x.1 x.2) hx) ?_
    refine .o2 (C:=cX ky ly) .auto rfl ?_
    rintro bs br -
    refine .c call53 rfl (il (b:=ky) (bs:=bs) (br:=br) (l:=ly)) fun _ _=>?_
    refine .o2 (C:=bF ky bs br ly) .auto rfl ?_
    rintro vv vw -
    refine .o1 (C:=bV bs ly.aM) .auto rfl ?_
    rintro pt -
    refine J 1 ?_
    refine .c call147 rfl (Fb (s:=ly.aM) (n:=(t:Int)) hsp) fun _ _=>?_
    refine .to (A:=aF (fun x:Nat×Lib=>cX x.1 x.2) xl) .auto (eK (f:=fun x:Nat×Lib=>cX x.1 x.2) hx) ?_
    refine .to (A:=bR kb bl s.k) .auto C9 ?_
    refine J 1 ?_
    refine .p (.extract (v:=.agg (JA ((ly.aM.at (t:Int)).getD G5)).toArray) rfl rfl) ?_
    refine .p (.extract (v:=.bool (ly.aM.at (t:Int)).isSome) rfl rfl) ?_
    refine .ai rfl (af.alloc rfl zeroValue243 rfl) ?_
    rintro _ _ ⟨b7,rfl,rfl⟩
    refine .ai rfl (af.gW (vs:=JA ((ly.aM.at (t:Int)).getD G5)) (by exact sizeOf243) rfl rfl rfl (by rfl)) ?_
    rintro _ _ ⟨rfl,rfl⟩
    refine J 7 ?_
    apply aR.gL 9 46 37 [37,38,39,40,41,42,43,44,45,46] rfl
    ·intro h37
     refine J 4 ?_
     apply aR.ga 4 45 41 [41,42,43,44,45] rfl
     ·intro h41
      refine J 5 ?_
      refine .vR .auto rfl (by first | exact fun _ h=>h | exact aw.kept .auto)
     ·intro h41
      refine J 5 ?_
      refine .vR .auto rfl (by first | exact fun _ h=>h | exact aw.kept .auto)
     refine J 2 ?_
     refine .vR .auto rfl (by first | exact fun _ h=>h | exact aw.kept .auto)
    ·intro h37
     refine J 10 ?_
     refine .vR .auto rfl (by first | exact fun _ h=>h | exact aw.kept .auto)
    refine JD 2 (fun h46=>?_) fun h46=>?_
    ·simp only[Bool.and_eq_true,Bool.or_eq_true,decide_eq_true_eq] at h46
     have hov:FE s N=false:=IU (n:=n+1) (by rw[Cu hl,(show quiet ly=false from IV hq (by unfold MC;simpa using h46) (by omega)),Bool.and_false]) (by omega)
     refine J 15 ?_
     rw[hov]
     exact JR 0 ()
    ·simp only[Bool.and_eq_false_iff,Bool.or_eq_false_iff,decide_eq_false_iff_not] at h46
     have hsl:MC ly (t:Int)=false:=by
      unfold MC
      by_cases hok:(ly.aM.at (t:Int)).isSome=true
      ·simp only[hok] at h46
       rw[hok]
       simpa using h46
      ·rw[show(ly.aM.at (t:Int)).isSome=false from by simpa using hok];rfl
     refine J 8 ?_
     refine .aH (t+1) .auto rfl ?_ ?_ ?_ ?_
     ·show 16-(t+1)<16-t;omega
     ·exact⟨by show t+1≤16;omega,Kz hq (hsl)⟩
     ·exact⟨rfl,trivial⟩
     ·exact fun w s=>aw.kept .auto w s
   ·refine J 11 ?_
    refine .aH (n+1) .auto rfl ?_ ?_ ?_ ?_
    ·omega
    ·exact⟨by show n+1≤N;omega,by rw[Cu hl,ho,Fx (show lx.aM.ready.length=0 by omega) ((show t=16 by omega) ▸ hq)];rfl⟩
    ·exact⟨rfl,trivial⟩
    ·exact fun w s=>aw.kept .auto w s
 ·obtain rfl:n=N:=by omega
  refine J 11 ?_
  rw[ho]
  exact JR 0 ()
theorem Fz{W:World}{b kb:Nat}{bl:List Nat}:Fn Tryz.prog W 56 [ptr b,.int .i64 1,.int .i64 5] [gn b kb bl vi] Unit (fun _=>.bool true) (fun _=>True) (fun _=>[gn b kb bl z24]):=by
 refine Fn.intro (N:=60) func56 rfl ntmps56 rfl fun F=>?_
 show aq _ _ _ _ _ _ [gn b kb bl vi,F]
 have hq0:=KB
 have hqT:AZ 2 2 1 (vi.tS 0):=(KB.do (by decide) ⟨5,0,0⟩).do (by decide) ⟨6,0,0⟩
 refine J 12 ?_
 refine .bm (X:=Nat) [6,7,8,9,10,11,12,13,14,15,16,17,18,19,20,21,22,23,24,25,26,27,28,29,30,31,32,33,34,35,36,37,38,39,40,41,42,43,44,45,46,47,48,49,50,51,52,53,54,55,56] (fun k=>2-k) (fun k=>k≤1) (fun k=>[(7,some (.int .i64 (k:Int)))]) (fun k=>[gn b kb bl (if k=0 then vi else z24),F]) 0 ?_ ?_ ?_ ?_
 ·exact Nat.zero_le _
 ·exact⟨rfl,trivial⟩
 ·exact fun w s=>aw.kept .auto w s
 rintro k hk
 refine JD 8 (fun h13=>?_) fun h13=>?_
 ·have hqk:AZ 84 2 1 (if k=0 then vi else z24):=if e:k=0 then by rw[if_pos e];exact⟨Oo,KB.o,KB.l⟩ else by rw[if_neg e];exact Nu
  refine J 9 ?_
  refine .c call100 rfl (IY (b:=b) (kb:=kb) (bl:=bl) (s:=(if k=0 then vi else z24)) (i:=84) (N:=1) hqk.b (by decide) (by rw[hqk.l];decide)) fun _ _=>?_
  refine JD 2 (fun h18=>?_) fun h18=>?_
  ·have hk1:¬k=0:=fun e=>by rw[if_pos e,O6] at h18;cases h18
   refine J 12 ?_
   rw[if_neg hk1]
   exact JR 0 ()
  ·obtain rfl:k=0:=by
    by_cases e:k=0
    ·exact e
    ·rw[if_neg e,Oq] at h18;cases h18
   refine J 6 ?_
   refine .p (.fH (fun v1 v2=>[v1,v2,.int .i64 0]) rfl rfl (by kernel_rfl)) ?_
   refine .c call11 rfl (oz (b:=b) (kb:=kb) (bl:=bl) (s:=vi) (x:=⟨5,0,0⟩) (hq0.b.rn (by omega)) hq0.b.k.inv (by omega) (by have:=hq0.b.log;omega) (Nat.le_trans hq0.b.prio (by decide))) fun _ _=>?_
   have hq1:=KB.do (by decide) ⟨5,0,0⟩
   refine J 5 ?_
   refine .p (.gJ (fun v1=>[v1,.int .i64 0,.int .i64 0]) rfl (by kernel_rfl)) ?_
   refine .c call11 rfl (oz (b:=b) (kb:=kb) (bl:=bl) (s:=(vi.do ⟨5,0,0⟩).2) (x:=⟨6,0,0⟩) (hq1.b.rn (by omega)) hq1.b.k.inv (by omega) (by have:=hq1.b.log;omega) (Nat.le_trans hq1.b.prio (by decide))) fun _ _=>?_
   refine J 9 ?_
   refine .bm (X:=Nat) [8,9,26,27,28,29,30,31,32,33,34,35,36,37,38,39,40,41,42,43] (fun j=>40-j) (fun j=>j≤40) (fun j=>[(8,some (.int .i64 (j:Int)))]) (fun j=>[gn b kb bl ((vi.tS 0).tJ 0 2 j),F]) 0 ?_ ?_ ?_ ?_
   ·exact Nat.zero_le _
   ·exact⟨rfl,trivial⟩
   ·exact fun w s=>aw.kept .auto w s
   rintro j hj
   refine JD 7 (fun h27=>?_) fun h27=>?_
   ·refine J 10 ?_
    refine .bm (X:=Nat) [9,30,31,32,33,34,35,36,37,38,39,40,41,42,43] (fun p=>2-p) (fun p=>p≤2) (fun p=>[(9,some (.int .i64 (p:Int)))]) (fun p=>[gn b kb bl (((vi.tS 0).tJ 0 2 j).tP (0+(j:Int)) p),F]) 0 ?_ ?_ ?_ ?_
    ·exact Nat.zero_le _
    ·exact⟨rfl,trivial⟩
    ·exact fun w s=>aw.kept .auto w s
    rintro p hp
    have hqj:=hqT.tJ 0 j (by omega)
    have hqp:=hqj.tP (0+(j:Int)) p (by omega)
    refine J 5 ?_
    refine .c call18 rfl (im (b:=b) (kb:=kb) (bl:=bl) (s:=(((vi.tS 0).tJ 0 2 j).tP (0+(j:Int)) p))) fun _ _=>?_
    refine .o2 (C:=gn b kb bl (((vi.tS 0).tJ 0 2 j).tP (0+(j:Int)) p)) .auto rfl ?_
    rintro pv lv -
    refine .c call35 rfl (lF (b:=kb) (bl:=bl) (k:=(((vi.tS 0).tJ 0 2 j).tP (0+(j:Int)) p).k)) fun _ _=>?_
    rw[hqp.o]
    refine JD 3 (fun h34=>?_) fun h34=>?_
    ·refine J 9 ?_
     refine .p (.add rfl rfl (by omega)) ?_
     refine .p (.vk (fun v1 v2 v3=>[v1,v2,v3]) rfl rfl rfl (by kernel_rfl)) ?_
     refine .c call11 rfl (oz (b:=b) (kb:=kb) (bl:=bl) (s:=(((vi.tS 0).tJ 0 2 j).tP (0+(j:Int)) p)) (x:=⟨1,(p:Int),0+(j:Int)⟩) (hqp.b.rn (by omega)) hqp.b.k.inv (by omega) (by have:=hqp.b.log;omega) (Nat.le_trans hqp.b.prio (by decide))) fun _ _=>?_
     refine J 8 ?_
     refine .aH (p+1) .auto rfl ?_ ?_ ?_ ?_
     ·omega
     ·show p+1≤_;omega
     ·exact⟨rfl,trivial⟩
     ·exact fun w s=>aw.kept .auto w s
    ·obtain rfl:p=2:=by omega
     refine J 11 ?_
     refine .aH (j+1) .auto rfl ?_ ?_ ?_ ?_
     ·omega
     ·show j+1≤_;omega
     ·exact⟨rfl,trivial⟩
     ·exact fun w s=>aw.kept .auto w s
   ·obtain rfl:j=40:=by omega
    have hqJ:=hqT.tJ 0 40 (by decide)
    refine J 12 ?_
    refine .bm (X:=Nat) [10,44,45,46,47,48,49,50,51,52,53] (fun n=>1-n) (fun n=>n≤1) (fun n=>[(10,some (.int .i64 (n:Int)))]) (fun n=>[gn b kb bl (((vi.tS 0).tJ 0 2 40).tN 0 n),F]) 0 ?_ ?_ ?_ ?_
    ·exact Nat.zero_le _
    ·exact⟨rfl,trivial⟩
    ·exact fun w s=>aw.kept .auto w s
    rintro n hn
    refine JD 8 (fun h46=>?_) fun h46=>?_
    ·have hqn:=hqJ.tN 0 n (by omega)
     refine J 8 ?_
     refine .p (.vk (fun v1 v2 v3=>[v1,v2,v3]) rfl rfl rfl (by kernel_rfl)) ?_
     refine .c call11 rfl (oz (b:=b) (kb:=kb) (bl:=bl) (s:=(((vi.tS 0).tJ 0 2 40).tN 0 n)) (x:=⟨3,(n:Int),0⟩) (hqn.b.rn (by omega)) hqn.b.k.inv (by omega) (by have:=hqn.b.log;omega) (Nat.le_trans hqn.b.prio (by decide))) fun _ _=>?_
     refine J 8 ?_
     refine .aH (n+1) .auto rfl ?_ ?_ ?_ ?_
     ·omega
     ·show n+1≤_;omega
     ·exact⟨rfl,trivial⟩
     ·exact fun w s=>aw.kept .auto w s
    ·obtain rfl:n=1:=by omega
     have hqn:=hqJ.tN 0 1 (by decide)
     refine J 7 ?_
     refine .p (.gJ (fun v1=>[v1,.int .i64 0,.int .i64 0]) rfl (by kernel_rfl)) ?_
     refine .c call11 rfl (oz (b:=b) (kb:=kb) (bl:=bl) (s:=(((vi.tS 0).tJ 0 2 40).tN 0 1)) (x:=⟨2,0,0⟩) (hqn.b.rn (by omega)) hqn.b.k.inv (by omega) (by have:=hqn.b.log;omega) (Nat.le_trans hqn.b.prio (by decide))) fun _ _=>?_
     refine J 8 ?_
     refine .aH 1 .auto rfl ?_ ?_ ?_ ?_
     ·decide
     ·exact Nat.le_refl 1
     ·exact⟨rfl,trivial⟩
     ·exact fun w s=>aw.kept .auto w s
 ·exact absurd (show(k:Int)<5 by omega) h13
theorem xt{W:World}{A:aa}{v:Value}{ps:List aX}(hr:Rd W [A] ej 8 v ps)(hp:∀ p∈ps,fi W [A] p)(hb:ps.length≤1000000000∧ ∀ p∈ps,p.fs.length≤1000000000∧p.bJ.length≤1000000000∧p.bb.length≤1000000000)(hw:∀ p∈ps.map aX.p, ∀ f∈p.funcs, ∀ i∈f,fC i.n){u:Value}{xs:List oB}(hst:Rd W [A] lW 3 u xs)(hsl:xs.length≤1000000000){procs:Int}:Fn Tryz.prog W 19 [.int .i64 procs,v,u] [A] (Option Nat) (fun o=>dR o) (fun o=>o.isSome=decide (dL procs (ps.map aX.p)=0)) (fun o=>[optH (fun b=>Du b ((Sy.new procs (ps.map aX.p)).ey (xs.take 200))) o,A]):=by
 refine Fn.intro (N:=37) func19 rfl ntmps19 rfl fun F=>?_
 haveI hRI:∀ (H:List aa) [bx H A],aA W H v ej 8 ps:=fun H h=>⟨hr.at h.has⟩
 haveI hRJ:∀ (H:List aa) [bx H A],aA W H u lW 3 xs:=fun H h=>⟨hst.at h.has⟩
 show aq _ _ _ _ _ _ [A,F]
 refine J 9 ?_
 refine .c call8 rfl (AK (procs:=procs) hr hp hb) fun o ho=>?_
 refine J 13 ?_
 refine .sB (t:=18) rfl (fun h18=>?_) (fun h18=>?_)
 ·refine J 5 ?_
  refine .gw rfl ?_
  refine J 7 ?_
  obtain rfl:o=none:=by simpa [h18] using ho
  refine .aP rfl rfl fun w s=>⟨none,?_,(decide_eq_false h18).symm,aj .auto s⟩
  rfl
 ·have hc:dL procs (ps.map aX.p)=0:=Decidable.not_not.mp h18
  obtain⟨sb,rfl⟩:=Option.isSome_iff_exists.1 (ho.trans (decide_eq_true hc))
  refine .fr (A:=optH (fun b=>Du b (Sy.new procs (ps.map aX.p))) (some sb)) (Bs:=[Du sb (Sy.new procs (ps.map aX.p))]) .auto gN ?_
  refine .o2 (C:=Du sb (Sy.new procs (ps.map aX.p))) .auto rfl ?_
  rintro kb bl -
  have hP0:=xp.new hc hw
  have h200:(xs.take 200).length≤200:=List.length_take_le ..
  refine J 5 ?_
  refine .eQ rfl ?_
  refine J 5 ?_
  refine .c call62 rfl (KD hst hsl) fun u33 hsm=>?_
  haveI hRK:∀ (H:List aa) [bx H A],aA W H u33 lW 3 (xs.take 200):=fun H h=>⟨hsm.at h.has⟩
  refine J 10 ?_
  refine .bm (X:=Nat) [9,24,25,26,27,28,29,30,31,32,33,34,35] (fun i=>(xs.take 200).length-i) (fun i=>i≤(xs.take 200).length) (fun i=>[(9,some (.int .i64 (i:Int)))]) (fun i=>[gn sb kb bl ((Sy.new procs (ps.map aX.p)).ey ((xs.take 200).take i)),A,F]) 0 ?_ ?_ ?_ ?_
  ·exact Nat.zero_le _
  ·exact⟨rfl,trivial⟩
  ·exact fun w s=>aw.kept .auto w s
  rintro i hi
  refine JD 9 (fun h27=>?_) fun h27=>?_
  ·have hP:=hP0.ey (by omega) i hi
   have hI:=hP.b
   have hlog:=hI.log
   refine J 8 ?_
   obtain⟨x,hx⟩:=ak (show i<(xs.take 200).length by omega)
   refine .p (.ix i rfl rfl rfl (by omega)) ?_
   refine .p (.la rfl (Cells.rd Rd.s hx)) ?_
   refine .c call11 rfl (oz (b:=sb) (kb:=kb) (bl:=bl) (s:=((Sy.new procs (ps.map aX.p)).ey ((xs.take 200).take i))) (x:=x) (hI.rn (by omega)) hI.k.inv (by omega) (by have:=hI.log;omega) (Nat.le_trans hI.prio (by decide))) fun _ _=>?_
   refine J 8 ?_
   refine .aH (i+1) .auto rfl ?_ ?_ ?_ ?_
   ·omega
   ·show i+1≤_;omega
   ·exact⟨rfl,trivial⟩
   ·show ∀ w,Sat _ w _→Sat _ w (seps [gn sb kb bl ((Sy.new procs (ps.map aX.p)).ey ((xs.take 200).take (i+1))),A,F])
    rw[mT hx]
    exact fun w s=>aw.kept .auto w s
  ·obtain rfl:i=(xs.take 200).length:=by omega
   rw[List.take_length]
   refine J 12 ?_
   refine .aP rfl rfl fun w s=>⟨some sb,?_,(decide_eq_true hc).symm,aj .auto s⟩
   rfl
theorem xu{W:World}  : Fn Tryz.prog W 16 [] [] Unit (fun _=>.bool true) (fun _=>True) (fun _=>[]):=by
 refine Fn.intro (N:=29) func16 rfl ntmps16 rfl fun F=>?_
 show aq _ _ _ _ _ _ [F]
 have hrl:((z24.au 0).length:Int)=2:=by rw[Nv];rfl
 obtain⟨r0,hr0,hx0⟩:=Ot
 refine J 7 ?_
 refine .c call54 rfl (KC (a:=1) (n:=7)) fun _ _=>?_
 refine .c call55 rfl (IX (o:=38) (a:=1) (b:=0) (c:=0) (n:=0)) fun _ _=>?_
 refine .ai rfl (af.gF 94 rfl rfl (by kernel_rfl)) ?_
 rintro _ _ ⟨b5,rfl,rfl⟩
 refine .ai rfl (af.gF 95 rfl rfl (by kernel_rfl)) ?_
 rintro _ _ ⟨b6,rfl,rfl⟩
 refine .p (.gJ (fun _=>ej (lO b5 b6)) rfl (by kernel_rfl)) ?_
 refine .ai rfl (af.gF 52 rfl rfl (by kernel_rfl)) ?_
 rintro _ _ ⟨b8,rfl,rfl⟩
 refine .c call19 rfl (xt (A:=Mv b5 b6 b8) (v:=rZ b8 1) (ps:=[lO b5 b6]) (u:=.slice none 0 0) (xs:=[]) (procs:=2) Fy IW KA KW Rd.nil (by decide)) fun o ho=>?_
 rw[show[lO b5 b6].map aX.p=[KV] from rfl,Nt] at ho
 rw[show[lO b5 b6].map aX.p=[KV] from rfl]
 obtain⟨sb,rfl⟩:=Option.isSome_iff_exists.1 ho
 refine .fr (A:=optH (fun b=>Du b ((Sy.new 2 [KV]).ey (List.take 200 []))) (some sb)) (Bs:=[Du sb vi]) .auto gN ?_
 refine .o2 (C:=Du sb vi) .auto rfl ?_
 rintro kb bl -
 refine J 10 ?_
 refine .cg call56 rfl (Fz (b:=sb) (kb:=kb) (bl:=bl)) fun _ _=>?_
 refine JD 4 (fun h16=>?_) fun h16=>?_
 ·cases h16
 ·refine J 5 ?_
  refine .c call15 rfl (mQ (b:=sb) (kb:=kb) (bl:=bl) (s:=z24) (n:=0) (Nu.b.rn (by decide))) fun u18 _=>?_
  refine J 6 ?_
  refine .p (.fY (Y.FN underlying33 rfl Rd.s) hrl) ?_
  refine J 3 ?_
  refine .g (.ix 0 rfl rfl rfl (by rw[Nv];decide)) ?_
  refine J 1 ?_
  refine .g (.fY (Y.load isAgg92 rfl (Cell.rd (enc:=cW) (k:=6) (v:=u18) (i:=0) (c:=2) Rd.s hr0 rfl)) hx0) ?_
  exact JR 6 ()
end Go.SLYtpbjdoplfgeliaaGreat
