/- Walks of functions, and what they compute. Conditions: none, this text proves no statement. -/
import Derived.Test.YtpbjdoplfgeliaaGreatG12
import Derived.Test.YtpbjdoplfgeliaaGreatG06
import Derived.Test.YtpbjdoplfgeliaaGreatG11
namespace Go.SLYtpbjdoplfgeliaaGreat
open Go Go.RowKit
def IN(l:Lib)(c:Int)(r:gg×Lib):Prop:=r.2.aM=if r.1.aK=true then (l.aM.run r.1.slot c).2.2 else l.aM
theorem IP(l:Lib)(p c:Int):IN l c ((l.step p c).1,(l.step p c).2.2):=by
 unfold Lib.step
 split
 ·simp only
  split
  ·unfold Lib.upcall
   split
   ·unfold Lib.recover
    simp only
    split
    ·show Lib.aM (if _ then _ else _)=_
     split <;> rfl
    ·rfl
   ·unfold Lib.enter;split <;> rfl
  ·split
   ·unfold Lib.handle
    split
    ·rfl
    ·show Lib.aM (Lib.iT (if _ then _ else _) _ _)=_
     split <;> rfl
   ·split
    ·unfold Lib.enter;split <;> rfl
    ·split
     ·unfold Lib.pick;split <;> rfl
     ·split
      ·unfold Lib.gR
       simp only
       split
       ·rfl
       ·unfold IN
        show Lib.aM (Lib.tell _ _)=_
        rw[(dC _ _).1.aM]
        split
        ·rfl
        ·split <;> rfl
      ·split
       ·unfold Lib.enter;split <;> rfl
       ·split
        ·unfold Lib.inside
         simp only
         split
         ·split <;> rfl
         ·rfl
        ·split
         ·split <;> rfl
         ·rfl
 ·rfl
theorem pX{k:Krn}{o:List Int}{j:Nat}(x:Lib):eZ ⟨o,k.libs.set j x⟩=(eZ k).set j x.aM:=by unfold eZ;rw[List.map_set]
theorem u3{k:Krn}{n:Int}:aB (eZ k) n=(aB k.libs n).map (·.aM):=mA
theorem xr{k:Krn}{j:Nat}{l:Lib}(h:k.libs[j]?=some l):(eZ k).set j l.aM=eZ k:=fy (by unfold eZ;rw[List.getElem?_map,h];rfl)
structure KU(s s':Sy)(r:List eN):Prop where
 log:s'.log=s.log++r
 one:r=[]∧eZ s'.k=eZ s.k∨ ∃ a,r=[a]∧oDo (eZ s.k) a=(0,eZ s'.k)
theorem xp.acts{i:Nat}{s:Sy}(h:xp i s)(hi:i≤400)(x:oB):∃ r,KU s (s.do x).2 r:=by
 have hO:fa (i+2) (eZ s.k):=fun t ht=>by
  obtain⟨l,hl,rfl⟩:=List.mem_map.1 ht
  exact(h.b.k.gY l hl).sp
 have none:∀ {s':Sy},s'.log=s.log→eZ s'.k=eZ s.k→ ∃ r,KU s s' r:=fun h1 h2=>⟨[],by rw[List.append_nil];exact h1,.inl ⟨rfl,h2⟩⟩
 unfold Sy.do
 split
 ·by_cases e:dy s.k x.a=0
  ·obtain⟨n,j,l,hn,ho,hl, -⟩:=dA h.b.k.ok e
   have hs:=IP l (n:Int) x.b
   unfold IN at hs
   have hm:=List.mem_of_getElem? hl
   cases hc:(s.k.step x.a x.b).1.2.1.aK with
   | false =>
    refine none ?_ ?_
    ·rw[uP hc]
    ·rw[uP hc]
     rw[hn,iF ho hl] at hc ⊢
     simp only at hc ⊢
     rw[pX]
     rw[hc] at hs
     rw[show(l.step (n:Int) x.b).2.2.aM=l.aM from hs]
     exact xr hl
   | true =>
    refine⟨[⟨1,(s.k.step x.a x.b).1.1,(s.k.step x.a x.b).1.2.1.slot,x.b⟩],?_,.inr ⟨_,rfl,?_⟩⟩
    ·rw[qM hc]
    ·rw[qM hc]
     rw[hn,iF ho hl] at hc ⊢
     simp only at hc ⊢
     rw[hc] at hs
     obtain⟨w,q,hw,hw16,hpl, -, -⟩:=Fv (h.p l hm) (h.k l hm) (h.b.k.ok.gY l hm).th hc
     have hlen:=qO (h.p l hm) (h.k l hm) (w:=(w:Int)) (by omega)
     rw[hpl] at hlen
     have hg:aB (eZ s.k) (j:Int)=some l.aM:=by rw[u3,aY,hl];rfl
     have h0:=(HG hO (by omega) (a:=⟨1,(j:Int),(l.step (n:Int) x.b).1.slot,x.b⟩) rfl).2 (by
      unfold oReady
      simp only
      rw[hg,hw]
      exact mem_ready.2 hlen.symm)
     refine Prod.ext h0 ?_
     rw[Di rfl hg,pX]
     show _=(eZ s.k).set j _
     rw[show(l.step (n:Int) x.b).2.2.aM=_ from hs]
     simp only[Int.toNat_natCast,if_true]
  ·refine none ?_ ?_
   ·show s.log++jQ _ _=_
    rw[gC e];exact List.append_nil _
   ·show eZ (s.k.step x.a x.b).2=_
    rw[gC e]
 ·split
  ·refine⟨[⟨3,0,0,0⟩],rfl,.inr ⟨_,rfl,?_⟩⟩
   unfold oDo
   rw[if_pos rfl]
   refine Prod.ext rfl ?_
   show List.map _ (eZ s.k)=eZ s.k.tick
   unfold eZ Krn.tick
   rw[List.map_map,List.map_map]
   refine List.map_congr_left fun l hl=>?_
   show l.aM.tick.2=l.cF.aM
   unfold Lib.cF
   rw[(dC _ _).1.aM]
  ·split
   ·by_cases e:(s.k.done x.a x.b).1=0
    ·refine⟨[⟨2,x.a,0,x.b⟩],?_,.inr ⟨_,rfl,?_⟩⟩
     ·show s.log++(if _ then _ else _)=_
      rw[if_pos e]
     ·cases g:aB s.k.libs x.a with
      | none=>rw[pN g] at e;cases e
      | some l =>
       obtain⟨h0, -,hl⟩:=bQ g
       obtain⟨j,hj⟩:∃ j:Nat,x.a=(j:Int):=⟨x.a.toNat,by omega⟩
       rw[hj,Int.toNat_natCast] at hl
       have hg:aB (eZ s.k) (j:Int)=some l.aM:=by rw[u3,aY,hl];rfl
       rw[hj] at e ⊢
       rw[mG hl] at e
       rw[Al rfl hg]
       refine Prod.ext e ?_
       show _=eZ (s.k.done (j:Int) x.b).2
       rw[mG hl,pX]
       unfold Lib.fE
       rw[(dC _ _).1.aM]
       simp only[Int.toNat_natCast]
    ·refine none ?_ ?_
     ·show s.log++(if _ then _ else _)=_
      rw[if_neg e,List.append_nil]
     ·show eZ (s.k.done x.a x.b).2=_
      rw[Fq e]
   ·split
    ·refine none rfl ?_
     show eZ (s.k.preempt x.a).2=_
     by_cases e:dy s.k x.a=0
     ·obtain⟨n,j,l,hn,ho,hl, -⟩:=dA h.b.k.ok e
      rw[hn,pM ho hl,pX,mB]
      exact xr hl
     ·rw[mF e]
    ·split
     ·exact none rfl rfl
     ·split
      ·exact none rfl (gv h.b.k.inv _ _).2.aM
      ·exact none rfl rfl
structure yP(l0:List Spc)(s:Sy):Prop where
 run:eP l0 s.log=eZ s.k
 ok:∀ n a,s.log[n]?=some a→(oDo (eP l0 (s.log.take n)) a).1=0
theorem IQ(l:List Spc)(acts:List eN)(a:eN):eP l (acts++[a])=(oDo (eP l acts) a).2:=by unfold eP;rw[List.foldl_append];rfl
theorem yP.do{l0:List Spc}{i:Nat}{s:Sy}(h:yP l0 s)(hp:xp i s)(hi:i≤400)(x:oB):yP l0 (s.do x).2:=by
 obtain⟨r,hl,h1⟩:=hp.acts hi x
 rcases h1 with ⟨rfl,e⟩ | ⟨a,rfl,e⟩
 ·rw[List.append_nil] at hl
  exact⟨by rw[hl,h.run,e],by rw[hl];exact h.ok⟩
 ·refine⟨by rw[hl,IQ,h.run,e],fun n b hb=>?_⟩
  rw[hl] at hb ⊢
  by_cases g:n<s.log.length
  ·rw[List.getElem?_append_left g] at hb
   rw[List.take_append_of_le_length (by omega)]
   exact h.ok n b hb
  ·have hn:n=s.log.length:=by
    have:=(List.getElem?_eq_some_iff.1 hb).1
    rw[List.length_append] at this
    simp only[List.length_cons,List.length_nil] at this
    omega
   subst hn
   rw[List.getElem?_append_right (Nat.le_refl _),Nat.sub_self] at hb
   cases hb
   rw[List.take_left,h.run,e]
theorem yP.new{procs:Int}{ps:List fc}(h:dL procs ps=0):yP (ps.map Spc.new) (Sy.new procs ps):=by
 refine⟨?_,fun n a hb=>by cases hb⟩
 show ps.map Spc.new=eZ _
 rw[show eZ (Sy.new procs ps).k=eZ (Krn.new procs ps) from(gv (k0 h).1 _ _).2.aM]
 unfold eZ Krn.new
 simp only[List.map_map]
 refine List.map_congr_left fun p _=>?_
 rfl
def replay:List Spc→List eN→Nat→Int×Int×List Spc
 | l,[],k=>((k:Int),0,l)
 | l,a::r,k=>if (oDo l a).1=0 then replay (oDo l a).2 r (k+1) else ((k:Int),(oDo l a).1,(oDo l a).2)
theorem u7{l:List Spc}:∀ (acts:List eN) (m:Nat),m≤acts.length→(∀ n a,acts[n]?=some a→(oDo (eP l (acts.take n)) a).1=0)→replay (eP l (acts.take (acts.length-m))) (acts.drop (acts.length-m)) (acts.length-m)=((acts.length:Int),0,eP l acts)
 | acts,0,_,_=>by rw[Nat.sub_zero,List.drop_length,List.take_length];rfl
 | acts,m+1,hm,hk=>by
  obtain⟨a,ha⟩:=ak (show acts.length - (m+1)<acts.length by omega)
  rw[drop_cons ha,replay,if_pos (hk _ a ha), ← qA ha]
  have:=u7 acts m (by omega) hk
  rw[show acts.length-m=acts.length-(m+1)+1 by omega] at this
  exact this
theorem AT{l:List Spc}{acts:List eN}(hk:∀ n a,acts[n]?=some a→(oDo (eP l (acts.take n)) a).1=0):replay l acts 0=((acts.length:Int),0,eP l acts):=by
 have:=u7 acts acts.length (Nat.le_refl _) hk
 rw[Nat.sub_self,List.take_zero,List.drop_zero] at this
 exact this
theorem yP.cut{l0:List Spc}{s:Sy}(h:yP l0 s){n:Nat}:replay l0 (s.log.take n) 0=(((s.log.take n).length:Int),0,eP l0 (s.log.take n)):=AT fun m a ha=>by
 have hm:=(List.getElem?_eq_some_iff.1 ha).1
 rw[List.length_take] at hm
 rw[List.getElem?_take_of_lt (by omega)] at ha
 rw[List.take_take,Nat.min_eq_left (by omega)]
 exact h.ok m a ha
theorem vd(l:List Spc)(a b:List eN):eP l (a++b)=eP (eP l a) b:=by unfold eP;rw[List.foldl_append]
end Go.SLYtpbjdoplfgeliaaGreat
namespace Go.SLYtpbjdoplfgeliaaGreat
open Go Go.RowKit
theorem vf{procs:Int}{ps:List fc}(h:dL procs ps=0):fN ps=0:=by
 unfold dL at h
 split at h
 ·cases h
 ·unfold fN
  rw[if_neg (by omega)];exact h
theorem Kx{n:Nat}{s:Spc}(h:fS n s)(hn:n≤1990)(k:Nat)(a:eN):s.au <+: (kn s k a).au:=by
 unfold kn
 split
 ·exact h.M7
 ·split
  ·exact List.prefix_rfl
  ·split
   ·exact h.NU hn _ _
   ·split
    ·exact h.M6 _
    ·exact List.prefix_rfl
theorem DE:∀ (acts:List eN) {l:List Spc} {k:Nat},fa k l→k+acts.length≤1990→ ∀ n:Int,gi l n <+: gi (eP l acts) n
 | [],_,_,_,_,_=>List.prefix_rfl
 | a::r,l,k,h,hk,n=>by
  simp only[List.length_cons] at hk
  refine List.IsPrefix.trans ?_ (DE r (h.act (by omega) a) (by omega) n)
  cases g:aB l n with
  | none=>rw[show gi l n=[] by unfold gi;rw[g]];exact List.nil_prefix
  | some s =>
   obtain⟨h0, -,hs⟩:=bQ g
   obtain⟨j,rfl⟩:∃ j:Nat,n=(j:Int):=⟨n.toNat,by omega⟩
   rw[Int.toNat_natCast] at hs
   rw[pJ hs,pJ (nk hs a)]
   exact Kx (h s (List.mem_of_getElem? hs)) (by omega) j a
theorem yP.px{l0:List Spc}{s:Sy}(h:yP l0 s)(ho:fa 1 l0)(hl:s.log.length≤1000)(n:Nat)(m:Int):gi (eP l0 (s.log.take n)) m <+: gi (eZ s.k) m:=by
 rw[← h.run]
 conv=>rhs;rw[← List.take_append_drop n s.log,vd]
 have hc:fa (1+(s.log.take n).length) (eP l0 (s.log.take n)):=by
  have:=sq ho (s.log.take n) (s.log.take n).length (Nat.le_refl _) (by rw[List.length_take];omega)
  rwa [List.take_length] at this
 exact DE _ hc (by rw[List.length_take,List.length_drop];omega) m
theorem Fw{s:Sy}(n:Int):gi (eZ s.k) n=s.au n∧JP (eZ s.k) n=s.mem n:=by
 unfold gi JP Sy.au Sy.mem
 rw[u3]
 cases aB s.k.libs n with
 | none=>exact⟨rfl,rfl⟩
 | some l=>exact⟨rfl,rfl⟩
def Ky(ps:List fc)(acts:List eN):Int×Int×List Spc:=if fN ps=0 then replay (ps.map Spc.new) acts 0 else (0,fN ps,[])
/-! law 20's own fact -/
def O4:List eN:=[⟨1,0,0,0⟩,⟨1,0,0,0⟩,⟨2,0,0,0⟩]
def Pj:Int×Int×List Spc:=Ky [OE] O4
end Go.SLYtpbjdoplfgeliaaGreat
