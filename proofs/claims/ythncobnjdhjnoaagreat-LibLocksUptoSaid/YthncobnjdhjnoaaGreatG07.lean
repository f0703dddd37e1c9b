/- Walks of functions, and what they compute. Conditions: none, this text proves no statement. -/
import Derived.Test.YthncobnjdhjnoaaGreatG03
import Derived.KernelRfl
import Derived.Test.YthncobnjdhjnoaaGreatG05
import Derived.Test.YthncobnjdhjnoaaGreatProg
import Derived.Test.YthncobnjdhjnoaaGreatG06
import Derived.Test.YthncobnjdhjnoaaGreatG04
set_option maxRecDepth 20000
set_option maxHeartbeats 4000000
namespace Go.SLYthncobnjdhjnoaaGreat
open Go Go.RowKit
def posFrom(n:Int):List Int→Nat→List Int
 | [],_=>[]
 | o::l,k=>if o=n then (k:Int)::posFrom n l (k+1) else posFrom n l (k+1)
def pos(n:Int)(o:List Int):List Int:=posFrom n o 0
theorem nZ:∀ (o:List Int) (k:Nat),freeFrom o k=posFrom (-1) o k
 | [],_=>rfl
 | x::o,k=>by rw[freeFrom,posFrom,nZ o (k+1)]
structure gg(k:Krn):Prop where
 len:∀ l∈k.libs,l.vs.length=k.owner.length
 ol:k.owner.length≤64
 iff:∀ (n:Nat) (l:Lib),k.libs[n]?=some l→ ∀ p:Nat,cH l.vs (p:Int)≠0↔k.owner[p]?=some (n:Int)
theorem ED(p:Nat):cH [] (p:Int)=0:=by simp[cH,aR.z]
theorem tM(v:aR)(vs:List aR):cH (v::vs) ((0:Nat):Int)=v.mode:=rfl
theorem tN(v:aR)(vs:List aR)(p:Nat):cH (v::vs) ((p+1:Nat):Int)=cH vs (p:Int):=by
 unfold cH;rw[Int.toNat_natCast,Int.toNat_natCast];rfl
theorem xG{n:Int}:∀ {o:List Int} {k:Nat},(∀ p:Nat,o[p]?≠some n)→posFrom n o k=[]
 | [],_,_=>rfl
 | x::o,k,h=>by
  rw[posFrom,if_neg (fun e=>h 0 (by rw[e];rfl))]
  exact xG fun p=>h (p+1)
theorem rL:∀ {vs:List aR} {k:Nat},(∀ p:Nat,cH vs (p:Int)=0)→procsFrom vs k=[]
 | [],_,_=>rfl
 | v::vs,k,h=>by
  rw[procsFrom,if_pos (by rw[← tM v vs];exact h 0)]
  exact rL fun p=>by rw[← tN v vs];exact h (p+1)
theorem tO{n:Int}:∀ {vs:List aR} {o:List Int} {k:Nat},(∀ p:Nat,cH vs (p:Int)≠0↔o[p]?=some n)→procsFrom vs k=posFrom n o k
 | [],o,k,h=>by
  rw[xG (fun p e=>(h p).2 e (ED p))];rfl
 | v::vs,[],k,h=>by
  rw[rL (fun p=>Decidable.of_not_not fun e=>by have:=(h p).1 e;simp at this)];rfl
 | v::vs,x::o,k,h=>by
  have ih:=tO (vs:=vs) (o:=o) (k:=k+1) fun p=>by rw[← tN v vs];exact h (p+1)
  have h0:=h 0
  rw[tM] at h0
  rw[procsFrom,posFrom,ih]
  by_cases e:v.mode=0
  ·rw[if_pos e,if_neg (fun e2=>h0.2 (by rw[e2];rfl) e)]
  ·have:x=n:=by simpa using h0.1 e
   rw[if_neg e,if_pos this]
theorem gg.procs{k:Krn}(h:gg k){n:Nat}{l:Lib}(hl:k.libs[n]?=some l):l.procs=pos (n:Int) k.owner:=tO (h.iff n l hl)
theorem gg.ck{k:Krn}(h:gg k){n:Nat}(hn:n<k.libs.length):ck k n=pos (n:Int) k.owner:=by
 obtain⟨l,hl⟩:=al hn
 unfold SLYthncobnjdhjnoaaGreat.ck;rw[bx hl,h.procs hl]
/-! what the libraries' steps do to the modes, to the events, to the space -/
theorem EE(l:List Ev):(aR.new l).mode=1:=rfl
theorem n8{vs:List aR}{i:Nat}(hi:i<vs.length)(v:aR)(p:Nat):cH (vs.set i v) (p:Int)=if p=i then v.mode else cH vs (p:Int):=by
 unfold cH
 rw[Int.toNat_natCast,List.getD_eq_getElem?_getD,List.getD_eq_getElem?_getD]
 by_cases e:p=i
 ·subst e;rw[if_pos rfl,List.getElem?_set_self hi];rfl
 ·rw[if_neg e,List.getElem?_set_ne (fun h=>e h.symm)]
structure xH(l l':Lib):Prop where
 bI:l'.bI=l.bI
 rows:l'.rows=l.rows
 len:l'.vs.length=l.vs.length
theorem ib(l:Lib)(ys:List Ev):xH l (l.tell ys)∧ ∀ p:Nat,cH (l.tell ys).vs (p:Int)=0↔cH l.vs (p:Int)=0:=by
 by_cases hy:ys=[]
 ·subst hy;rw[k5];exact⟨⟨rfl,rfl,rfl⟩,fun p=>Iff.rfl⟩
 ·cases hp:l.procs with
  | nil=>rw[jv hy hp];exact⟨⟨rfl,rfl,rfl⟩,fun p=>Iff.rfl⟩
  | cons q r =>
   obtain⟨i,v,rfl,hv,hm⟩:=ir hp
   rw[jw hy hp hv]
   refine⟨⟨rfl,rfl,List.length_set ..⟩,fun p=>?_⟩
   show cH (l.vs.set i (v.told ys)) (p:Int)=0↔_
   rw[n8 (List.getElem?_eq_some_iff.1 hv).1]
   by_cases e:p=i
   ·subst e;rw[if_pos rfl, ← j6 hv]
    exact⟨fun h=>(by rw[show(v.told ys).mode=1 from rfl] at h;omega),fun h=>absurd h hm⟩
   ·rw[if_neg e]
theorem qu{vs:List aR}{i:Nat}{v:aR}(h:vs[i]?=some v)(x:aR):((vs.set i x).map (fun v=>v.evs.length)).sum+v.evs.length=(vs.map (fun v=>v.evs.length)).sum+x.evs.length:=by
 induction vs generalizing i with
 | nil=>simp at h
 | cons y vs ih =>
  cases i with
  | zero=>simp at h;subst h;simp;omega
  | succ i =>
   have:=ih (i:=i) (by simpa using h)
   simp only[List.set_cons_succ,List.map_cons,List.sum_cons]
   omega
theorem xI(v:aR)(ys:List Ev):(v.told ys).evs.length≤v.evs.length+1+ys.length:=by
 have:=lR v
 show(v.strip++ys).length≤_
 rw[List.length_append];omega
theorem A7(l:Lib)(ys:List Ev):fA (l.tell ys)≤fA l+1+ys.length:=by
 by_cases hy:ys=[]
 ·subst hy;rw[k5];omega
 ·cases hp:l.procs with
  | nil=>rw[jv hy hp];unfold fA;simp only[List.length_append];omega
  | cons q r =>
   obtain⟨i,v,rfl,hv,hm⟩:=ir hp
   rw[jw hy hp hv]
   unfold fA
   have:=qu hv (v.told ys)
   have:=xI v ys
   simp only
   omega
theorem tP(l:Lib)(p:Int):fA (l.cF p).2≤fA l+2:=by
 by_cases h:l.has p=true
 ·obtain⟨i,v,rfl,hv⟩:=lS (qW h)
  rw[iu h hv]
  have h1:=A7 {l with vs:=l.vs.set i aR.z } v.strip
  have h2:=qu hv aR.z
  have h3:=lR v
  simp only[aR.z] at h1 h2 ⊢
  unfold fA at *
  simp only[List.length_nil,Nat.add_zero] at *
  omega
 ·rw[jx (by simpa using h)];exact Nat.le_add_right ..
theorem xJ(l:Lib)(p:Int):fA (l.cO p).2≤fA l+2:=by
 by_cases h1:ga l p=true
 ·cases h:l.has p with
  | true=>rw[ju (.inr h)];exact Nat.le_add_right ..
  | false =>
   obtain⟨i,v,rfl,hv,e⟩:=lT h1 h
   rw[e]
   have h2:=qu hv (aR.new (⟨1, -1,0⟩::l.waiting))
   unfold fA
   simp only[aR.new,List.length_cons,List.length_nil] at *
   omega
 ·rw[ju (.inl (by simpa using h1))];exact Nat.le_add_right ..
theorem gB(l:Lib)(p:Int):xH l (l.cO p).2:=by
 by_cases h1:ga l p=true
 ·cases h:l.has p with
  | true=>rw[ju (.inr h)];exact⟨rfl,rfl,rfl⟩
  | false=>obtain⟨i,v,rfl,hv,e⟩:=lT h1 h;rw[e];exact⟨rfl,rfl,List.length_set ..⟩
 ·rw[ju (.inl (by simpa using h1))];exact⟨rfl,rfl,rfl⟩
theorem fa(l:Lib)(p:Int):xH l (l.cF p).2:=by
 by_cases h:l.has p=true
 ·obtain⟨i,v,rfl,hv⟩:=lS (qW h)
  rw[iu h hv]
  obtain⟨⟨a,b,c⟩,_⟩:=ib {l with vs:=l.vs.set i aR.z } v.strip
  exact⟨a,b,c.trans (List.length_set ..)⟩
 ·rw[jx (by simpa using h)];exact⟨rfl,rfl,rfl⟩
theorem xK{l:Lib}{i:Nat}(hi:i<l.vs.length):l.has (i:Int)=decide (cH l.vs (i:Int)≠0):=by
 rw[j5,show ga l (i:Int)=true from by unfold ga;simp[hi],Bool.true_and]
theorem zw{l:Lib}{i:Nat}(hi:i<l.vs.length)(p:Nat):cH (l.cO (i:Int)).2.vs (p:Int)≠0↔cH l.vs (p:Int)≠0∨p=i:=by
 cases h:l.has (i:Int) with
 | true =>
  rw[ju (.inr h)]
  rw[xK hi,decide_eq_true_eq] at h
  exact⟨.inl,fun e=>e.elim id fun e=>by rw[e];exact h⟩
 | false =>
  obtain⟨j,v,e1,hv,e⟩:=lT (show ga l (i:Int)=true from by unfold ga;simp[hi]) h
  obtain rfl:i=j:=by omega
  rw[e]
  show cH (l.vs.set i _) (p:Int)≠0↔_
  rw[n8 hi]
  by_cases e:p=i
  ·rw[if_pos e];exact⟨fun _=>.inr e,fun _=>by rw[EE];omega⟩
  ·rw[if_neg e];exact⟨.inl,fun h=>h.resolve_right e⟩
theorem xL{l:Lib}{i:Nat}(hi:i<l.vs.length)(p:Nat):cH (l.cF (i:Int)).2.vs (p:Int)≠0↔cH l.vs (p:Int)≠0∧p≠i:=by
 cases h:l.has (i:Int) with
 | false =>
  rw[jx h]
  rw[xK hi,decide_eq_false_iff_not] at h
  exact⟨fun e=>⟨e,fun e2=>h (by rw[← e2];exact e)⟩,fun e=>e.1⟩
 | true =>
  obtain⟨v,hv⟩:=al hi
  rw[iu h hv]
  have:=(ib {l with vs:=l.vs.set i aR.z } v.strip).2 p
  refine(not_congr this).trans ?_
  show cH (l.vs.set i aR.z) (p:Int)≠0↔_
  rw[n8 hi]
  by_cases e:p=i
  ·rw[if_pos e];exact⟨fun h=>absurd rfl h,fun h=>absurd e h.2⟩
  ·rw[if_neg e];exact⟨fun h=>⟨h,e⟩,fun h=>h.1⟩
/-! what giving and taking do -/
structure Inv(m:Nat)(k:Krn):Prop where
 ok:qX m k
 ag:gg k
theorem qX.step{m:Nat}{k:Krn}(h:qX m k){i n:Nat}{o:Int}{l l':Lib}(hl:k.libs[n]?=some l)(ho:o = -1∨(0≤o∧o<(k.libs.length:Int)))(hs:xH l l')(he:fA l'≤fA l+2):qX (m+2) ⟨k.owner.set i o,k.libs.set n l'⟩:=by
 refine⟨fun v hv=>?_,?_,?_,fun x hx=>?_⟩
 ·show v = -1∨(0≤v∧v<((k.libs.set n l').length:Int))
  rw[List.length_set]
  rcases List.mem_or_eq_of_mem_set hv with e | e
  ·exact h.own v e
  ·subst e;exact ho
 ·show(k.owner.set i o).length≤64;rw[List.length_set];exact h.ol
 ·show(k.libs.set n l').length≤8;rw[List.length_set];exact h.ll
 ·rcases List.mem_or_eq_of_mem_set hx with e | e
  ·have:=h.oz x e;exact⟨Nat.le_trans this.ev (by omega),this.vl,this.th⟩
  ·subst e
   have:=h.oz l (List.mem_of_getElem? hl)
   exact⟨by have:=this.ev;omega,by rw[hs.len];exact this.vl,by rw[hs.bI];exact this.th⟩
theorem qX.up{m:Nat}{k:Krn}(h:qX m k){m':Nat}(hm:m≤m'):qX m' k:=⟨h.own,h.ol,h.ll,fun l hl=>let ⟨a,b,c⟩:=h.oz l hl;⟨Nat.le_trans a hm,b,c⟩⟩
theorem gg.cz{k:Krn}(h:gg k){i n:Nat}{l:Lib}(ho:k.owner[i]?=some (-1))(hl:k.libs[n]?=some l):gg ⟨k.owner.set i (n:Int),k.libs.set n (l.cO (i:Int)).2⟩:=by
 have hi:i<k.owner.length:=(List.getElem?_eq_some_iff.1 ho).1
 have hv:=h.len l (List.mem_of_getElem? hl)
 have hol:=h.ol
 refine⟨fun x hx=>?_,by show(k.owner.set i (n:Int)).length≤64;rw[List.length_set];exact h.ol,fun j x hx p=>?_⟩
 ·rcases List.mem_or_eq_of_mem_set hx with e | e
  ·rw[h.len x e];exact(List.length_set ..).symm
  ·subst e;rw[(gB l (i:Int)).len,hv];exact(List.length_set ..).symm
 ·have hx':(k.libs.set n (l.cO (i:Int)).2)[j]?=some x:=hx
  show _↔(k.owner.set i (n:Int))[p]?=some (j:Int)
  by_cases e:n=j
  ·subst e
   rw[List.getElem?_set_self (List.getElem?_eq_some_iff.1 hl).1] at hx'
   obtain rfl:=Option.some.inj hx'
   rw[zw (by omega) p]
   by_cases e2:p=i
   ·subst e2;rw[List.getElem?_set_self hi];exact⟨fun _=>rfl,fun _=>.inr rfl⟩
   ·rw[List.getElem?_set_ne (fun e=>e2 e.symm), ← h.iff n l hl p]
    exact⟨fun h=>h.resolve_right e2,.inl⟩
  ·rw[List.getElem?_set_ne e] at hx'
   rw[h.iff j x hx' p]
   by_cases e2:p=i
   ·subst e2;rw[List.getElem?_set_self hi,ho]
    constructor
    ·intro e3;have:=Option.some.inj e3;omega
    ·intro e3;have:=Option.some.inj e3;omega
   ·rw[List.getElem?_set_ne (fun e=>e2 e.symm)]
theorem gg.take{k:Krn}(h:gg k){i n:Nat}{l:Lib}(ho:k.owner[i]?=some (n:Int))(hl:k.libs[n]?=some l):gg ⟨k.owner.set i (-1),k.libs.set n (l.cF (i:Int)).2⟩:=by
 have hi:i<k.owner.length:=(List.getElem?_eq_some_iff.1 ho).1
 have hv:=h.len l (List.mem_of_getElem? hl)
 have hol:=h.ol
 refine⟨fun x hx=>?_,by show(k.owner.set i (-1)).length≤64;rw[List.length_set];exact h.ol,fun j x hx p=>?_⟩
 ·rcases List.mem_or_eq_of_mem_set hx with e | e
  ·rw[h.len x e];exact(List.length_set ..).symm
  ·subst e;rw[(fa l (i:Int)).len,hv];exact(List.length_set ..).symm
 ·have hx':(k.libs.set n (l.cF (i:Int)).2)[j]?=some x:=hx
  show _↔(k.owner.set i (-1))[p]?=some (j:Int)
  by_cases e:n=j
  ·subst e
   rw[List.getElem?_set_self (List.getElem?_eq_some_iff.1 hl).1] at hx'
   obtain rfl:=Option.some.inj hx'
   rw[xL (by omega) p]
   by_cases e2:p=i
   ·subst e2;rw[List.getElem?_set_self hi]
    exact⟨fun h=>absurd rfl h.2,fun h=>by have:=Option.some.inj h;omega⟩
   ·rw[List.getElem?_set_ne (fun e=>e2 e.symm), ← h.iff n l hl p]
    exact⟨fun h=>h.1,fun h=>⟨h,e2⟩⟩
  ·rw[List.getElem?_set_ne e] at hx'
   rw[h.iff j x hx' p]
   by_cases e2:p=i
   ·subst e2;rw[List.getElem?_set_self hi,ho]
    constructor
    ·intro e3;have:=Option.some.inj e3;omega
    ·intro e3;have:=Option.some.inj e3;omega
   ·rw[List.getElem?_set_ne (fun e=>e2 e.symm)]
theorem Inv.take{m:Nat}{k:Krn}(h:Inv m k)(p:Int):Inv (m+2) (k.take p).2:=by
 by_cases e:eI k p=0
 ·obtain⟨i,n,l,rfl,ho,hl,e⟩:=gE h.ok e
  rw[e]
  exact⟨h.ok.step hl (.inl rfl) (fa l _) (tP l _),h.ag.take ho hl⟩
 ·rw[iv e];exact⟨h.ok.up (by omega),h.ag⟩
theorem Inv.cz{m:Nat}{k:Krn}(h:Inv m k){i n:Nat}{l:Lib}(ho:k.owner[i]?=some (-1))(hl:k.libs[n]?=some l):Inv (m+2) (k.cz (i:Int) (n:Int)).2:=by
 rw[jy ho hl]
 have:=(List.getElem?_eq_some_iff.1 hl).1
 exact⟨h.ok.step hl (.inr ⟨by omega,by omega⟩) (gB l _) (xJ l _),h.ag.cz ho hl⟩
end Go.SLYthncobnjdhjnoaaGreat
namespace Go.SLYthncobnjdhjnoaaGreat
open Go Go.RowKit
theorem ly{n:Int}:∀ {o:List Int} {k:Nat}, ∀ p∈posFrom n o k,(k:Int)≤p
 | [],_,_,h=>by cases h
 | x::o,k,p,h=>by
  rw[posFrom] at h
  split at h
  ·rcases List.mem_cons.1 h with e | e
   ·omega
   ·have:=ly p e;omega
  ·have:=ly p h;omega
theorem gF(n:Int):∀ (o:List Int) (k:Nat),(posFrom n o k).length=o.count n
 | [],_=>rfl
 | x::o,k=>by
  rw[posFrom,List.count_cons]
  by_cases e:x=n
  ·rw[if_pos e,List.length_cons,gF n o,if_pos (by simpa using e)]
  ·rw[if_neg e,gF n o,if_neg (by simpa using e)];rfl
theorem n9:∀ (l:List Int) (x:Int),(∀ y∈l,x≤y)→l.foldl min x=x
 | [],_,_=>rfl
 | y::l,x,h=>by
  rw[List.foldl_cons,show min x y=x from by have:=h y (List.mem_cons_self ..);omega]
  exact n9 l x fun z hz=>h z (List.mem_cons_of_mem _ hz)
theorem A8(n:Int):∀ (o:List Int) (k:Nat),minOf (posFrom n o k)=(posFrom n o k).headD 0
 | [],_=>rfl
 | x::o,k=>by
  rw[posFrom]
  split
  ·exact n9 _ _ fun y hy=>by
    have:=ly y hy
    show(k:Int)≤y
    omega
  ·exact A8 n o (k+1)
theorem xM(n:Int):∀ {o:List Int} {k:Nat} {p:Int} {r:List Int},posFrom n o k=p::r→ ∃ i:Nat,p=((k+i:Nat):Int)∧o[i]?=some n
 | [],_,_,_,h=>by cases h
 | x::o,k,p,r,h=>by
  rw[posFrom] at h
  split at h
  ·rename_i e
   exact⟨0,(List.cons.inj h).1.symm,by rw[e];rfl⟩
  ·obtain⟨i,e,hi⟩:=xM n h
   exact⟨i+1,by rw[e];congr 1;omega,by simpa using hi⟩
theorem Cg{k:Krn}(h:0<k.owner.count (-1)):∃ (i:Nat) (r:List Int),k.free=(i:Int)::r∧k.owner[i]?=some (-1)∧minOf k.free=(i:Int):=by
 have hf:k.free=posFrom (-1) k.owner 0:=nZ _ _
 cases e:posFrom (-1) k.owner 0 with
 | nil=>have:=gF (-1) k.owner 0;rw[e] at this;simp at this;omega
 | cons p r =>
  obtain⟨i,rfl,hi⟩:=xM (-1) e
  rw[Nat.zero_add] at *
  exact⟨i,r,hf.trans e,hi,by rw[hf,A8,e];rfl⟩
/-! counting -/
def cntTo(o:List Int):Nat→Nat
 | 0=>0
 | L+1=>cntTo o L+o.count (L:Int)
theorem xN(x:Int)(o:List Int):∀ L,cntTo (x::o) L=cntTo o L+(if 0≤x∧x<(L:Int) then 1 else 0)
 | 0=>by rw[cntTo,cntTo,if_neg (by omega)]
 | L+1=>by
  rw[cntTo,cntTo,xN x o L,List.count_cons]
  by_cases e:x=(L:Int)
  ·subst e;rw[if_neg (by omega),if_pos (by simp),if_pos (by omega)];omega
  ·rw[if_neg (show ¬(x == (L:Int))=true by simpa using e)]
   by_cases e2:0≤x∧x<(L:Int)
   ·rw[if_pos e2,if_pos (by omega)];omega
   ·rw[if_neg e2,if_neg (by omega)];omega
theorem vy{L:Nat}:∀ {o:List Int},(∀ v∈o,v = -1∨(0≤v∧v<(L:Int)))→o.length=o.count (-1)+cntTo o L
 | [],_=>by induction L with
  | zero=>rfl
  | succ L ih=>rw[cntTo];simpa using ih (by simp)
 | x::o,h=>by
  have ih:=vy (L:=L) (o:=o) fun v hv=>h v (List.mem_cons_of_mem _ hv)
  rw[List.length_cons,List.count_cons,xN,ih]
  rcases h x (List.mem_cons_self ..) with e | e
  ·rw[if_pos (by simpa using e),if_neg (by omega)];omega
  ·rw[if_neg (by simp;omega),if_pos e];omega
def cI(l:List Int):Nat:=(l.map Int.toNat).sum
theorem pT(l:List Int)(x:Int):cI (l++[x])=cI l+x.toNat:=by unfold cI;rw[List.map_append,List.sum_append];simp
theorem EF{o want:List Int}(h:∀ (i:Nat) (w:Int),want[i]?=some w→o.count (i:Int)≤w.toNat):∀ L≤want.length,cntTo o L≤cI (want.take L)
 | 0,_=>Nat.zero_le _
 | L+1,hL=>by
  obtain⟨w,hw⟩:=al (show L<want.length by omega)
  rw[cntTo,bj hw,pT]
  have:=EF h L (by omega)
  have:=h L w hw
  omega
theorem EG{o want:List Int}(h:∀ (i:Nat) (w:Int),want[i]?=some w→o.count (i:Int)≤w.toNat){n:Nat}{w:Int}(hw:want[n]?=some w)(hl:o.count (n:Int)<w.toNat):∀ L≤want.length,n<L→cntTo o L<cI (want.take L)
 | 0,_,hn=>absurd hn (by omega)
 | L+1,hL,hn=>by
  obtain⟨x,hx⟩:=al (show L<want.length by omega)
  rw[cntTo,bj hx,pT]
  by_cases e:n=L
  ·subst e
   rw[hw] at hx
   obtain rfl:=Option.some.inj hx
   have:=EF h n (by omega)
   omega
  ·have:=EG h hw hl L (by omega) (by omega)
   have:=h L x hx
   omega
structure Room(want:List Int)(k:Krn):Prop where
 len:want.length=k.libs.length
 sum:cI want≤k.owner.length
 mj:∀ (i:Nat) (w:Int),want[i]?=some w→k.owner.count (i:Int)≤w.toNat
theorem Room.free{want:List Int}{k:Krn}{m:Nat}(h:Room want k)(hk:qX m k){n:Nat}{w:Int}(hw:want[n]?=some w)(hl:k.owner.count (n:Int)<w.toNat):0<k.owner.count (-1):=by
 have hn:=(List.getElem?_eq_some_iff.1 hw).1
 have h1:=EG h.mj hw hl want.length (Nat.le_refl _) hn
 rw[List.take_length,h.len] at h1
 have h2:=vy hk.own
 have:=h.sum
 omega
theorem count_set{o:List Int}{i:Nat}{a b:Int}(h:o[i]?=some a)(n:Int):(o.set i b).count n+(if a=n then 1 else 0)=o.count n+(if b=n then 1 else 0):=by
 induction o generalizing i with
 | nil=>simp at h
 | cons x o ih =>
  cases i with
  | zero =>
   simp at h;subst h
   rw[List.set_cons_zero,List.count_cons,List.count_cons]
   by_cases e1:x=n <;> by_cases e2:b=n <;> simp[e1,e2]
  | succ i =>
   have:=ih (i:=i) (by simpa using h)
   rw[List.set_cons_succ,List.count_cons,List.count_cons]
   omega
theorem Room.cz{want:List Int}{k:Krn}(h:Room want k){n i:Nat}{w:Int}{l:Lib}(hw:want[n]?=some w)(hl:k.owner.count (n:Int)<w.toNat)(ho:k.owner[i]?=some (-1))(hb:k.libs[n]?=some l):Room want (k.cz (i:Int) (n:Int)).2∧(k.cz (i:Int) (n:Int)).2.owner.count (n:Int)=k.owner.count (n:Int)+1:=by
 rw[jy ho hb]
 have h0:=count_set (b:=(n:Int)) ho (n:Int)
 rw[if_neg (by omega),if_pos rfl] at h0
 refine⟨⟨by rw[h.len];exact(List.length_set ..).symm,by show _≤(k.owner.set i (n:Int)).length;rw[List.length_set];exact h.sum,fun j x hx=>?_⟩,by simpa using h0⟩
 show(k.owner.set i (n:Int)).count (j:Int)≤x.toNat
 by_cases e:n=j
 ·subst e
  rw[hw] at hx
  obtain rfl:=Option.some.inj hx
  omega
 ·have h1:=count_set (b:=(n:Int)) ho (j:Int)
  rw[if_neg (by omega),if_neg (by omega)] at h1
  have:=h.mj j x hx
  omega
/-! what is taken -/
def trim(n:Int):Nat→List Int→List Int
 | _,[]=>[]
 | 0,x::o=>if x=n then -1::trim n 0 o else x::trim n 0 o
 | w+1,x::o=>if x=n then x::trim n w o else x::trim n (w+1) o
def setAll(k:Nat):List Int→List Int→List Int
 | [],o=>o
 | p::ps,o=>setAll k ps (o.set (p.toNat-k) (-1))
theorem gP{k:Nat}{x:Int}:∀ {ps o:List Int},(∀ p∈ps,((k+1:Nat):Int)≤p)→setAll k ps (x::o)=x::setAll (k+1) ps o
 | [],_,_=>rfl
 | p::ps,o,h=>by
  have hp:=h p (List.mem_cons_self ..)
  rw[setAll,setAll,show p.toNat-k=(p.toNat-(k+1))+1 from by omega,List.set_cons_succ]
  exact gP fun q hq=>h q (List.mem_cons_of_mem _ hq)
theorem gQ(n:Int):∀ (o:List Int) (k w:Nat),setAll k ((posFrom n o k).drop w) o=trim n w o
 | [],k,w=>by
  rw[posFrom,List.drop_nil];cases w <;> rfl
 | x::o,k,0=>by
  rw[posFrom,trim]
  by_cases e:x=n
  ·rw[if_pos e,if_pos e,List.drop_zero,setAll,show((k:Int)).toNat-k=0 from by omega,List.set_cons_zero,gP (fun p hp=>ly p hp)]
   have:=gQ n o (k+1) 0
   rw[List.drop_zero] at this
   rw[this]
  ·rw[if_neg e,if_neg e,List.drop_zero,gP (fun p hp=>ly p hp)]
   have:=gQ n o (k+1) 0
   rw[List.drop_zero] at this
   rw[this]
 | x::o,k,w+1=>by
  rw[posFrom,trim]
  by_cases e:x=n
  ·rw[if_pos e,if_pos e,List.drop_succ_cons,gP (fun p hp=>ly p (List.mem_of_mem_drop hp)),gQ n o (k+1) w]
  ·rw[if_neg e,if_neg e,gP (fun p hp=>ly p (List.mem_of_mem_drop hp)),gQ n o (k+1) (w+1)]
theorem kq(n j:Int)(hj:j≠ -1)(hn:n≠ -1):∀ (o:List Int) (w:Nat),(trim n w o).count j=if j=n then min w (o.count n) else o.count j
 | [],w=>by cases w <;> simp[trim]
 | x::o,0=>by
  rw[trim]
  have ih:=kq n j hj hn o 0
  by_cases e:x=n
  ·rw[if_pos e,List.count_cons_of_ne (fun e=>hj e.symm),ih]
   by_cases e2:j=n
   ·rw[if_pos e2,if_pos e2];omega
   ·rw[if_neg e2,if_neg e2,List.count_cons_of_ne (fun e3=>e2 (by rw[← e3,e]))]
  ·rw[if_neg e]
   by_cases e2:j=n
   ·rw[List.count_cons_of_ne (fun e3=>e (by rw[e3,e2])),ih,if_pos e2,if_pos e2];omega
   ·rw[if_neg e2,List.count_cons,List.count_cons,ih,if_neg e2]
 | x::o,w+1=>by
  rw[trim]
  by_cases e:x=n
  ·rw[if_pos e]
   have ih:=kq n j hj hn o w
   by_cases e2:j=n
   ·rw[if_pos e2] at ih ⊢
    subst e2 e
    rw[List.count_cons_self,List.count_cons_self,ih];omega
   ·rw[if_neg e2] at ih ⊢
    rw[List.count_cons,List.count_cons,ih]
  ·rw[if_neg e]
   have ih:=kq n j hj hn o (w+1)
   by_cases e2:j=n
   ·rw[if_pos e2] at ih ⊢
    rw[List.count_cons_of_ne (fun e3=>e (by rw[e3,e2])),ih,List.count_cons_of_ne e]
   ·rw[if_neg e2] at ih ⊢
    rw[List.count_cons,List.count_cons,ih]
theorem zx{m:Nat}{k:Krn}(h:qX m k){p:Int}(hp:0≤p):(k.take p).2.owner=k.owner.set p.toNat (-1):=by
 by_cases e:eI k p=0
 ·obtain⟨i,n,l,rfl,ho,hl,e⟩:=gE h e
  rw[e];rfl
 ·rw[iv e]
  show k.owner=_
  unfold eI aV at e
  rw[if_neg (by omega)] at e
  cases e2:k.owner[p.toNat]? with
  | none=>rw[List.set_eq_of_length_le (by simpa using e2)]
  | some o =>
   rw[e2] at e
   simp only at e
   by_cases e3:o = -1
   ·subst e3
    refine List.ext_getElem? fun i=>?_
    by_cases e4:p.toNat=i
    ·subst e4;rw[List.getElem?_set_self (List.getElem?_eq_some_iff.1 e2).1,e2]
    ·rw[List.getElem?_set_ne e4]
   ·rw[if_neg e3] at e;exact absurd rfl e
theorem mm:∀ (ps:List Int) {m:Nat} {k:Krn},Inv m k→(∀ p∈ps,0≤p)→Inv (m+2 * ps.length) (ec ps k)∧(ec ps k).owner=setAll 0 ps k.owner∧(ec ps k).libs.length=k.libs.length
 | [],m,k,h,_=>⟨h,rfl,rfl⟩
 | p::ps,m,k,h,hp=>by
  obtain⟨h1,h2,h3⟩:=mm ps (h.take p) fun q hq=>hp q (List.mem_cons_of_mem _ hq)
  refine⟨⟨h1.ok.up (by simp;omega),h1.ag⟩,?_,?_⟩
  ·show(ec ps (k.take p).2).owner=_
   rw[h2,zx h.ok (hp p (List.mem_cons_self ..))];rfl
  ·show(ec ps (k.take p).2).libs.length=_
   rw[h3]
   by_cases e:eI k p=0
   ·obtain⟨i,n,l,rfl,ho,hl,e⟩:=gE h.ok e
    rw[e];exact List.length_set ..
   ·rw[iv e]
theorem lY{m:Nat}{k:Krn}(h:qX m k)(p:Int):(k.take p).2.libs.length=k.libs.length∧(k.take p).2.owner.length=k.owner.length:=by
 by_cases e:eI k p=0
 ·obtain⟨i,n,l,rfl,ho,hl,e⟩:=gE h e
  rw[e];exact⟨List.length_set ..,List.length_set ..⟩
 ·rw[iv e];exact⟨rfl,rfl⟩
end Go.SLYthncobnjdhjnoaaGreat
namespace Go.SLYthncobnjdhjnoaaGreat
open Go Go.RowKit
def trims:List Int→Nat→List Int→List Int
 | [],_,o=>o
 | w::l,n,o=>trims l (n+1) (trim (n:Int) w.toNat o)
theorem zy{n:Int}{o:List Int}:∀ p∈pos n o,(0:Int)≤p:=fun p hp=>by have:=ly p hp;omega
theorem Gt{m:Nat}{k:Krn}(h:Inv m k){n:Nat}(hn:n<k.libs.length)(w:Nat):Inv (m+2 * ((ck k n).drop w).length) (ec ((ck k n).drop w) k)∧(ec ((ck k n).drop w) k).owner=trim (n:Int) w k.owner∧(ec ((ck k n).drop w) k).libs.length=k.libs.length:=by
 have e:=h.ag.ck hn
 rw[e]
 obtain⟨h1,h2,h3⟩:=mm ((pos (n:Int) k.owner).drop w) h fun p hp=>zy p (List.mem_of_mem_drop hp)
 exact⟨h1,by rw[h2];exact gQ _ _ _ _,h3⟩
theorem rM(n:Int):∀ (o:List Int) (w:Nat),(trim n w o).length=o.length
 | [],w=>by cases w <;> rfl
 | x::o,0=>by rw[trim];split <;> simp[rM n o]
 | x::o,w+1=>by rw[trim];split <;> simp[rM n o]
theorem lB:∀ (l:List Int) (n:Nat) {m:Nat} {k:Krn} (mv:Nat),Inv m k→n+l.length≤k.libs.length→(∃ m',Inv m' (takeFrom l n (k,mv)).1)∧(takeFrom l n (k,mv)).1.owner=trims l n k.owner∧(takeFrom l n (k,mv)).1.libs.length=k.libs.length
 | [],n,m,k,mv,h,_=>⟨⟨m,h⟩,rfl,rfl⟩
 | w::l,n,m,k,mv,h,hl=>by
  simp only[List.length_cons] at hl
  obtain⟨h1,h2,h3⟩:=Gt h (n:=n) (by omega) w.toNat
  obtain⟨g1,g2,g3⟩:=lB l (n+1) (mv+((ck k n).drop w.toNat).length) h1 (by omega)
  rw[takeFrom,trims]
  exact⟨g1,by rw[g2,h2],by rw[g3,h3]⟩
theorem tQ:∀ (l:List Int) (n:Nat) (o:List Int),(trims l n o).length=o.length
 | [],_,_=>rfl
 | w::l,n,o=>by rw[trims,tQ l,rM]
theorem trims_count:∀ (l:List Int) (n:Nat) (o:List Int) (j:Nat),(trims l n o).count (j:Int)=match (if j<n then none else l[j-n]?) with | none=>o.count (j:Int) | some w=>min w.toNat (o.count (j:Int))
 | [],n,o,j=>by rw[trims];split <;> simp_all
 | w::l,n,o,j=>by
  rw[trims,trims_count l (n+1),kq _ _ (by omega) (by omega)]
  by_cases h1:j<n
  ·rw[if_pos h1,if_pos (by omega),if_neg (by omega)]
  ·rw[if_neg h1]
   by_cases h2:j=n
   ·subst h2;rw[if_pos (by omega),if_pos rfl,Nat.sub_self];rfl
   ·rw[if_neg (by omega),if_neg (by omega),show j-n=(j-(n+1))+1 from by omega,List.getElem?_cons_succ]
theorem Ch{m:Nat}{k:Krn}(h:Inv m k){want:List Int}(hl:want.length=k.libs.length)(hs:cI want≤k.owner.length):Room want (takeFrom want 0 (k,0)).1:=by
 obtain⟨_,h2,h3⟩:=lB want 0 0 h (by omega)
 refine⟨by rw[h3,hl],by rw[h2,tQ];exact hs,fun i w hw=>?_⟩
 rw[h2,trims_count,if_neg (by omega),Nat.sub_zero,hw]
 exact Nat.min_le_left _ _
/-! what is dealt out is there -/
theorem rN:∀ {o:List Int} {i:Nat} {a:Int} (b:Int),o[i]?=some a→cI (o.set i b)+a.toNat=cI o+b.toNat
 | [],_,_,_,h=>by simp at h
 | x::o,0,a,b,h=>by simp at h;subst h;simp[cI];omega
 | x::o,i+1,a,b,h=>by
  have:=rN b (o:=o) (i:=i) (by simpa using h)
  rw[List.set_cons_succ]
  simp only[cI,List.map_cons,List.sum_cons] at *
  omega
theorem EH{d:Deal}(h:uM d)(p:Int)(n:Nat)(hn:n<d.demand.length):cI (d.step p n).1.out+(d.step p n).1.left.toNat=cI d.out+d.left.toNat:=by
 by_cases c:0<d.left∧d.kD n p=true
 ·rw[ny c]
  obtain⟨y,hy⟩:=al (show n<d.out.length by rw[h.ol];exact hn)
  have:=rN (d.out.getD n 0+1) hy
  have hy0:=h.om y (List.mem_of_getElem? hy)
  rw[bx hy] at *
  simp only
  omega
 ·rw[nz c]
theorem zz(p:Int)(f:Nat):∀ (m k:Nat) (d:Deal) (any:Bool),uM d→cI (Deal.go p f m k d any).1.out+(Deal.go p f m k d any).1.left.toNat=cI d.out+d.left.toNat
 | 0,_,_,_,_=>rfl
 | m+1,k,d,any,h=>by
  rw[Deal.go]
  by_cases h0:0<d.demand.length
  ·rw[zz p f m (k+1) _ _ (uN h p _),EH h p _ (Nat.mod_lt _ h0)]
  ·have hs:(d.step p ((f+k) % d.demand.length))=(d,false):=nz fun c=>by
    have hw:=c.2
    unfold Deal.kD at hw
    have e1:d.demand=[]:=List.eq_nil_of_length_eq_zero (by omega)
    have e2:d.out=[]:=List.eq_nil_of_length_eq_zero (by rw[h.ol];omega)
    rw[e1,e2] at hw
    simp at hw
   rw[hs]
   exact zz p f m (k+1) d _ h
theorem rP(p:Int)(f:Nat):∀ (a:Nat) (d:Deal),uM d→uM (Deal.rounds p f a d)∧(Deal.rounds p f a d).demand=d.demand∧cI (Deal.rounds p f a d).out+(Deal.rounds p f a d).left.toNat=cI d.out+d.left.toNat
 | 0,_,h=>⟨h,rfl,rfl⟩
 | a+1,d,h=>by
  obtain⟨_,_,_,r4,_,r6⟩:=round_facts d p f
  have rs:=zz p f d.demand.length 0 d false h
  rw[Deal.rounds]
  split
  ·obtain⟨h1,h2,h3⟩:=rP p f a _ (r6 h)
   exact⟨h1,h2.trans r4,h3.trans rs⟩
  ·exact⟨r6 h,r4,rs⟩
theorem tR(f:Nat):∀ (r:Nat) (d:Deal),uM d→uM (priosN f r d)∧(priosN f r d).demand=d.demand∧cI (priosN f r d).out+(priosN f r d).left.toNat=cI d.out+d.left.toNat
 | 0,_,h=>⟨h,rfl,rfl⟩
 | r+1,d,h=>by
  obtain⟨h1,h2,h3⟩:=rP (r:Int) f (d.left.toNat+1) d h
  obtain⟨g1,g2,g3⟩:=tR f r _ h1
  rw[priosN]
  exact⟨g1,g2.trans h2,g3.trans h3⟩
theorem vz(n:Nat):cI (List.replicate n 0)=0:=by
 induction n with
 | zero=>rfl
 | succ n ih=>rw[List.replicate_succ];unfold cI at *;simp only[List.map_cons,List.sum_cons];rw[ih];rfl
theorem zA{procs turn:Int}{demand prio out:List Int}(hd:∀ z∈demand,z≤1000000)(h:kE procs demand prio turn=some out):out.length=demand.length∧(∀ w∈out,0≤w)∧(cI out:Int)≤procs∧cI out≤64:=by
 by_cases c:demand.length=prio.length∧demand.length≤8∧within procs 64=true
 ·by_cases hp:prio.all (fun p=>within p 7)=true
  ·have hw:=c.2.2
   unfold within at hw
   simp only[Bool.and_eq_true,decide_eq_true_eq] at hw
   by_cases h0:demand.length=0
   ·rw[wV c hp h0] at h
    obtain rfl:=Option.some.inj h
    exact⟨h0.symm,fun w hw=>(by cases hw),by simp[cI];omega,by simp[cI]⟩
   ·rw[wW c hp h0] at h
    obtain rfl:=Option.some.inj h
    obtain⟨h1,h2,h3⟩:=tR (pick turn demand.length) 8 _ (DM (procs:=procs) c hd)
    have hz:cI (HG procs demand prio).out=0:=vz _
    have hl:(HG procs demand prio).left=procs:=rfl
    refine⟨by rw[h1.ol,h2];rfl,h1.om,?_,?_⟩ <;> · rw[hz,hl] at h3;omega
  ·obtain⟨p,hp2,hb⟩:∃ p∈prio,within p 7=false:=by
    refine Decidable.of_not_not fun e=>hp (List.all_eq_true.2 fun p hp=>?_)
    cases e2:within p 7 with
    | true=>rfl
    | false=>exact absurd ⟨p,hp,e2⟩ e
   obtain⟨i,hi⟩:=List.getElem?_of_mem hp2
   rw[wU hi hb] at h;cases h
 ·rw[AE (by
   by_cases c1:demand.length=prio.length
   ·by_cases c2:demand.length≤8
    ·exact .inr (Bool.eq_false_iff.2 fun e=>c ⟨c1,c2,e⟩)
    ·exact .inl (.inr (by omega))
   ·exact .inl (.inl (by omega)))] at h
  cases h
theorem EI{m:Nat}{k:Krn}(hk:qX m k):∀ z∈k.demand,z≤1000000:=fun z hz=>by
 unfold Krn.demand at hz
 obtain⟨l,hl,rfl⟩:=List.mem_map.1 hz
 have:=(hk.oz l hl).th
 have:=gy l.bI.aA 0
 show((readyFrom l.bI.aA 0).length:Int)≤_
 omega
theorem jd{m:Nat}{k:Krn}(hk:qX m k)(prio:List Int)(turn:Int):(k.targets prio turn).length≤k.libs.length∧(∀ w∈k.targets prio turn,0≤w∧w≤64)∧cI (k.targets prio turn)≤k.owner.length∧(k.targets prio turn≠[]→(k.targets prio turn).length=k.libs.length):=by
 unfold Krn.targets
 cases e:kE (k.owner.length:Int) k.demand prio turn with
 | none=>exact⟨Nat.zero_le _,fun w hw=>(by cases hw),Nat.zero_le _,fun h=>absurd rfl h⟩
 | some out =>
  obtain⟨h1,h2,h3,h4⟩:=zA (EI hk) e
  have hdl:k.demand.length=k.libs.length:=by unfold Krn.demand;exact List.length_map ..
  refine⟨by show out.length≤_;omega,fun w hw=>⟨h2 w hw,?_⟩,by show cI out≤_;omega,fun _=>by show out.length=_;omega⟩
  have h5:=wS (List.mem_map_of_mem (f:=Int.toNat) hw)
  have h6:w.toNat≤cI out:=h5
  omega
theorem EJ{A:aa}:∀ h,seps [A] h→A h:=fun h a=>by simpa only[seps,aH] using a
theorem EK{k:Krn}{prio:List Int}{turn:Int}(h:¬((k.targets prio turn).length:Int)=(k.libs.length:Int)):k.fair prio turn=false:=by
 unfold Krn.fair;rw[decide_eq_false (show ¬(k.targets prio turn).length=k.libs.length from fun e=>h (by rw[e]))];rfl
theorem EL{k:Krn}{prio:List Int}{turn:Int}{n:Nat}{l:Lib}{w:Int}(hl:k.libs[n]?=some l)(hw:(k.targets prio turn)[n]?=some w)(h:¬(l.procs.length:Int)=w):k.fair prio turn=false:=by
 unfold Krn.fair
 rw[decide_eq_false (p:=(k.libs.map fun l=>(l.procs.length:Int))=k.targets prio turn) fun e=>h ?_,Bool.and_false]
 have:(k.libs.map fun l=>(l.procs.length:Int))[n]?=some (l.procs.length:Int):=by rw[List.getElem?_map,hl];rfl
 rw[e,hw] at this
 exact(Option.some.inj this).symm
theorem Gu{k:Krn}{prio:List Int}{turn:Int}(h:(k.targets prio turn).length=k.libs.length)(h2:(k.libs.map fun l=>(l.procs.length:Int))=k.targets prio turn):k.fair prio turn=true:=by
 unfold Krn.fair;rw[decide_eq_true h,decide_eq_true h2];rfl
theorem EM{α:Type}(l:List α)(w:Nat):l.drop (min l.length w)=l.drop w:=by
 by_cases h:w≤l.length
 ·rw[show min l.length w=w from by omega]
 ·rw[show min l.length w=l.length from by omega,List.drop_length,List.drop_of_length_le (by omega)]
theorem Ci{want:List Int}{k:Krn}{n mv:Nat}{w:Int}{l:Lib}{ps:List Int}(hw:want[n]?=some w)(hl:k.libs[n]?=some l)(hp:ps=l.procs.drop w.toNat):takeFrom (want.drop n) n (k,mv)=takeFrom (want.drop (n+1)) (n+1) (ec ps k,mv+ps.length):=by
 rw[drop_cons hw,takeFrom,hp]
 unfold ck;rw[bx hl]
theorem Cj{want:List Int}{k:Krn}{m n mv:Nat}{w:Int}(hw:want[n]?=some w)(hi:Inv m k)(hn:n<k.libs.length):di (want.drop n) n (k,mv)=di (want.drop (n+1)) (n+1) (giveTo (w.toNat-k.owner.count (n:Int)) (n:Int) k,mv+(w.toNat-k.owner.count (n:Int))):=by
 rw[drop_cons hw,di,hi.ag.ck hn,show(pos (n:Int) k.owner).length=k.owner.count (n:Int) from gF _ _ _]
end Go.SLYthncobnjdhjnoaaGreat
namespace Go.SLYthncobnjdhjnoaaGreat
open Go Go.RowKit
def rQ(k:Krn):List Spc:=k.libs.map (·.bI)
theorem rR{α β:Type}{f:α→β}{xs:List α}{i:Nat}{x y:α}(h:xs[i]?=some x)(e:f y=f x):(xs.set i y).map f=xs.map f:=by
 rw[List.map_set]
 refine List.ext_getElem? fun j=>?_
 by_cases e2:i=j
 ·subst e2
  rw[List.getElem?_set_self (by rw[List.length_map];exact(List.getElem?_eq_some_iff.1 h).1),List.getElem?_map,h,e];rfl
 ·rw[List.getElem?_set_ne e2]
theorem Ck{m:Nat}{k:Krn}(h:qX m k)(p:Int):rQ (k.take p).2=rQ k:=by
 by_cases e:eI k p=0
 ·obtain⟨i,n,l,rfl,ho,hl,e⟩:=gE h e
  rw[e];exact rR hl (fa l _).bI
 ·rw[iv e]
theorem rS(k:Krn)(p n:Int):(k.cz p n).2=k∨ ∃ (i j:Nat) (l:Lib),p=(i:Int)∧n=(j:Int)∧k.owner[i]?=some (-1)∧k.libs[j]?=some l∧k.cz p n=(0,⟨k.owner.set i (j:Int),k.libs.set j (l.cO (i:Int)).2⟩):=by
 cases e1:aV k.owner p with
 | none=>left;unfold Krn.cz;rw[e1]
 | some o =>
  cases e2:aV k.libs n with
  | none=>left;unfold Krn.cz;rw[e1,e2]
  | some l =>
   by_cases e3:o = -1
   ·right
    subst e3
    have hp:0≤p:=by
     unfold aV at e1
     split at e1
     ·cases e1
     ·omega
    have hn:0≤n:=by
     unfold aV at e2
     split at e2
     ·cases e2
     ·omega
    obtain⟨i,rfl⟩:∃ i:Nat,p=(i:Int):=⟨p.toNat,by omega⟩
    obtain⟨j,rfl⟩:∃ j:Nat,n=(j:Int):=⟨n.toNat,by omega⟩
    rw[bK] at e1 e2
    exact⟨i,j,l,rfl,rfl,e1,e2,jy e1 e2⟩
   ·left;unfold Krn.cz;rw[e1,e2];simp only;rw[if_neg e3]
theorem EN{m:Nat}{k:Krn}(h:Inv m k)(p n:Int):Inv (m+2) (k.cz p n).2∧rQ (k.cz p n).2=rQ k∧(k.cz p n).2.owner.length=k.owner.length∧(k.cz p n).2.libs.length=k.libs.length:=by
 rcases rS k p n with e | ⟨i,j,l,rfl,rfl,ho,hl,e⟩
 ·rw[e];exact⟨⟨h.ok.up (by omega),h.ag⟩,rfl,rfl,rfl⟩
 ·refine⟨h.cz ho hl,?_⟩
  rw[e]
  exact⟨rR hl (gB l _).bI,List.length_set ..,List.length_set ..⟩
structure jH(k k':Krn):Prop where
 bI:rQ k'=rQ k
 ol:k'.owner.length=k.owner.length
 ll:k'.libs.length=k.libs.length
theorem jH.refl(k:Krn):jH k k:=⟨rfl,rfl,rfl⟩
theorem jH.trans{a b c:Krn}(h:jH a b)(g:jH b c):jH a c:=⟨g.1.trans h.1,g.2.trans h.2,g.3.trans h.3⟩
theorem oa:∀ (ps:List Int) {m:Nat} {k:Krn},Inv m k→Inv (m+2 * ps.length) (ec ps k)∧jH k (ec ps k)
 | [],m,k,h=>⟨h,.refl k⟩
 | p::ps,m,k,h=>by
  obtain⟨h1,h2⟩:=oa ps (h.take p)
  exact⟨⟨h1.ok.up (by simp;omega),h1.ag⟩,jH.trans ⟨Ck h.ok p,(lY h.ok p).2,(lY h.ok p).1⟩ h2⟩
theorem pU(n:Int):∀ (c:Nat) {m:Nat} {k:Krn},Inv m k→Inv (m+2 * c) (giveTo c n k)∧jH k (giveTo c n k)
 | 0,m,k,h=>⟨h,.refl k⟩
 | c+1,m,k,h=>by
  obtain⟨g1,g2,g3,g4⟩:=EN h (k.free.headD 0) n
  obtain⟨h1,h2⟩:=pU n c g1
  exact⟨⟨h1.ok.up (by omega),h1.ag⟩,jH.trans ⟨g2,g3,g4⟩ h2⟩
theorem ob{m:Nat}{k:Krn}(h:Inv m k){n:Nat}(hn:n<k.libs.length):(ck k n).length=k.owner.count (n:Int):=by
 rw[h.ag.ck hn];exact gF _ _ _
theorem mn:∀ (l:List Int) (n mv:Nat) {m:Nat} {k:Krn},Inv m k→n+l.length≤k.libs.length→Inv (m+128 * l.length) (takeFrom l n (k,mv)).1∧jH k (takeFrom l n (k,mv)).1
 | [],n,mv,m,k,h,_=>⟨h,.refl k⟩
 | w::l,n,mv,m,k,h,hl=>by
  simp only[List.length_cons] at hl
  obtain⟨h1,h2⟩:=oa ((ck k n).drop w.toNat) h
  have hp:=ob h (n:=n) (by omega)
  have hc:k.owner.count (n:Int)≤64:=Nat.le_trans List.count_le_length h.ok.ol
  obtain⟨g1,g2⟩:=mn l (n+1) (mv+((ck k n).drop w.toNat).length) h1 (by rw[h2.ll];omega)
  rw[takeFrom]
  exact⟨⟨g1.ok.up (by rw[List.length_drop];simp only[List.length_cons];omega),g1.ag⟩,h2.trans g2⟩
theorem mo:∀ (l:List Int) (n mv:Nat) {m:Nat} {k:Krn},Inv m k→(∀ w∈l,w≤64)→Inv (m+128 * l.length) (di l n (k,mv)).1∧jH k (di l n (k,mv)).1
 | [],n,mv,m,k,h,_=>⟨h,.refl k⟩
 | w::l,n,mv,m,k,h,hl=>by
  obtain⟨h1,h2⟩:=pU (n:Int) (w.toNat - (ck k n).length) h
  have hw:=hl w (List.mem_cons_self ..)
  obtain⟨g1,g2⟩:=mo l (n+1) (mv+(w.toNat - (ck k n).length)) h1 fun x hx=>hl x (List.mem_cons_of_mem _ hx)
  rw[di]
  exact⟨⟨g1.ok.up (by simp only[List.length_cons];omega),g1.ag⟩,h2.trans g2⟩
theorem A9{α β:Type}(z:α×β):z=(z.1,z.2):=rfl
theorem kr{m:Nat}{k:Krn}(h:Inv m k)(prio:List Int)(turn:Int):Inv (m+2048) (k.share prio turn).1∧jH k (k.share prio turn).1:=by
 have htf:=jd h.ok prio turn
 have hll:=h.ok.ll
 obtain⟨h1,h2⟩:=mn (k.targets prio turn) 0 0 h (by omega)
 unfold Krn.share
 rw[A9 (takeFrom (k.targets prio turn) 0 (k,0))]
 obtain⟨g1,g2⟩:=mo (k.targets prio turn) 0 (takeFrom (k.targets prio turn) 0 (k,0)).2 h1 fun w hw=>(htf.2.1 w hw).2
 exact⟨⟨g1.ok.up (by omega),g1.ag⟩,h2.trans g2⟩
theorem still{want:List Int}{m:Nat}{k:Krn}(hi:Inv m k)(hl:want.length≤k.libs.length)(hc:∀ (i:Nat) (w:Int),want[i]?=some w→k.owner.count (i:Int)=w.toNat):∀ (d n mv:Nat),d=want.length-n→takeFrom (want.drop n) n (k,mv)=(k,mv)∧di (want.drop n) n (k,mv)=(k,mv)
 | 0,n,mv,hd=>by rw[List.drop_of_length_le (by omega)];exact⟨rfl,rfl⟩
 | d+1,n,mv,hd=>by
  obtain⟨w,hw⟩:=al (show n<want.length by omega)
  have hp:=ob hi (n:=n) (by omega)
  rw[hc n w hw] at hp
  rw[drop_cons hw,takeFrom,di,show(ck k n).drop w.toNat=[] from List.drop_of_length_le (by omega),hp,Nat.sub_self]
  exact still hi hl hc d (n+1) mv (by omega)
/-! what New makes -/
theorem tS:∀ n:Nat,((List.replicate n aR.z).map (fun v=>v.evs.length)).sum=0
 | 0=>rfl
 | n+1=>by rw[List.replicate_succ,List.map_cons,List.sum_cons,tS n];rfl
theorem vA{procs:Int}{l:List gD}(h:fp procs l=0):Inv 16 (Krn.new procs l)∧(Krn.new procs l).libs.length=l.length∧(Krn.new procs l).owner.length=procs.toNat∧1≤procs∧procs≤64∧l.length≤8:=by
 have hb:1≤procs∧procs≤64∧1≤l.length∧l.length≤8:=by
  unfold fp at h
  by_cases c:procs<1∨64<procs∨(l.length:Int)<1∨8<(l.length:Int)
  ·rw[if_pos c] at h;cases h
  ·omega
 have hol:(Krn.new procs l).owner.length=procs.toNat:=List.length_replicate ..
 have hll:(Krn.new procs l).libs.length=l.length:=List.length_map ..
 have hlib:∀ x∈(Krn.new procs l).libs, ∃ p,x=Lib.new (Spc.new p) procs:=fun x hx=>by
  obtain⟨p,_,e⟩:=List.mem_map.1 hx
  exact⟨p,e.symm⟩
 have hv:∀ p,(Lib.new (Spc.new p) procs).vs=List.replicate procs.toNat aR.z:=fun p=>by
  show List.replicate (ay procs 64).toNat aR.z=_
  rw[show ay procs 64=procs from by unfold ay;omega]
 refine⟨⟨⟨fun v hv=>.inl (List.eq_of_mem_replicate hv),by omega,by omega,fun x hx=>?_⟩,⟨fun x hx=>?_,by omega,fun n x hx p=>?_⟩⟩,hll,hol,hb.1,hb.2.1,hb.2.2.2⟩
 ·obtain⟨p,rfl⟩:=hlib x hx
  refine⟨?_,by rw[hv,List.length_replicate];omega,nB p⟩
  unfold fA
  rw[hv,tS]
  have h1:=gy (Spc.new p).aA 0
  rw[nB] at h1
  show(aQ (Spc.new p).ready).length+0≤16
  unfold aQ;rw[List.length_map]
  exact h1
 ·obtain⟨p,rfl⟩:=hlib x hx
  rw[hv,List.length_replicate,hol]
 ·obtain⟨q,rfl⟩:=hlib x (List.mem_of_getElem? hx)
  rw[hv]
  constructor
  ·intro e
   refine absurd ?_ e
   unfold cH
   rw[Int.toNat_natCast,List.getD_eq_getElem?_getD]
   cases e2:(List.replicate procs.toNat aR.z)[p]? with
   | none=>rfl
   | some v=>rw[List.eq_of_mem_replicate (List.mem_of_getElem? e2)];rfl
  ·intro e
   have:=List.eq_of_mem_replicate (List.mem_of_getElem? (show(List.replicate procs.toNat (-1:Int))[p]?=some (n:Int) from e))
   omega
end Go.SLYthncobnjdhjnoaaGreat
namespace Go.SLYthncobnjdhjnoaaGreat
open Go Go.RowKit
theorem Gv{W:World}{H:List aa}{v:aW}(h:ez W H v):ez W [seps H] v:=⟨Rd.et h.fs,fun x hx=>Rd.et (h.ins x hx),Rd.et h.sems,Rd.et h.pipes⟩
def He:gD:=⟨[[⟨1,1,0,0,5⟩]],0,0,0,[],[],0,0⟩
def zB:Krn:=Krn.new 3 [He,He]
theorem Hf:fp 3 [He,He]=0:=by kernel_rfl
theorem Jj:zB.fair [0,0] 0=false:=by kernel_rfl
theorem Jk:(zB.share [0,0] 0).2=2:=by kernel_rfl
theorem Jl:(zB.share [0,0] 0).1.fair [0,0] 0=true:=by kernel_rfl
theorem Jm:(zB.share [0,0] 0).1.targets [0,0] 0=[1,1]:=by kernel_rfl
theorem Jn:(zB.share [0,0] 0).1.free=[2]:=by kernel_rfl
def je(a b:Nat):aW:=⟨.slice (some ⟨b,0,none⟩) 1 1,[(.slice (some ⟨a,0,none⟩) 1 1,[⟨1,1,0,0,5⟩])],0,0,0,.slice none 0 0,[],.slice none 0 0,[],0,0⟩
theorem Gw{W:World}{H:List aa}{a b:Nat}(ha:At H (arr a 0 (dO ⟨1,1,0,0,5⟩)))(hb:At H (arr b 0 [.slice (some ⟨a,0,none⟩) 1 1])):ez W H (je a b) where
 fs:=Rd.lit hb rfl (fun _ _=>rfl) rfl
 ins:=fun x hx=>by
  obtain rfl:x=(.slice (some ⟨a,0,none⟩) 1 1,[⟨1,1,0,0,5⟩]):=by simpa [je] using hx
  exact Rd.lit ha rfl (fun _ _=>rfl) rfl
 sems:=Rd.nil
 pipes:=Rd.nil
theorem Jo:((zB.share [0,0] 0).1.share [0] 0).2=0:=by kernel_rfl
def J8(a b c:Nat):aa:=seps [arr c 0 (fe (je a b)++fe (je a b)),arr b 0 [.slice (some ⟨a,0,none⟩) 1 1],arr a 0 (dO ⟨1,1,0,0,5⟩)]
theorem EO{W:World}{a b c:Nat}:Rd W [J8 a b c] fe 8 (.slice (some ⟨c,0,none⟩) 2 2) [je a b,je a b]:=Rd.et (Rd.lit .here rfl (fun _ _=>rfl) rfl)
theorem EP{W:World}{a b c:Nat}:∀ p∈ [je a b,je a b],ez W [J8 a b c] p:=fun p hp=>by
 obtain rfl:p=je a b:=by simpa using hp
 exact Gv (Gw (.there (.there .here)) (.there .here))
theorem ER{a b:Nat}:[je a b,je a b].length≤1000000000∧ ∀ p∈ [je a b,je a b],p.fs.length≤1000000000∧p.sems.length≤1000000000∧p.pipes.length≤1000000000:=⟨by simp,fun p hp=>by
 obtain rfl:p=je a b:=by simpa using hp
 exact⟨by simp[je],by simp[je],by simp[je]⟩⟩
end Go.SLYthncobnjdhjnoaaGreat
namespace Go.SLYthncobnjdhjnoaaGreat
open Go Go.RowKit
structure JG where
 kind:Int
 at_:Int
deriving DecidableEq
def KQ(p:JG):List Value:=[.int .i64 p.kind,.int .i64 p.at_]
def ep(l:Lib)(p:Int):aR:=if l.has p=true then l.vs.getD p.toNat aR.z else aR.z
def Ip(slot:Int)(e:Ev):Bool:=decide (e.af=slot) && (eP e || decide (e.mode>0))
def Hg(l:List Ev)(slot:Int):Nat:=(l.filter (Ip slot)).length
def whereFrom(t:Int):List (List Int)→Nat→Int×Bool
 | [],_=>(0,false)
 | r::l,n=>if t∈r then ((n:Int),true) else whereFrom t l (n+1)
def Iq(l:Lib)(slot p:Int):List JG :=
 (if ((ep l p).runs=true∧(ep l p).af=slot) then [⟨1,p⟩] else [])++List.replicate (Hg (ep l p).evs slot) ⟨3,p⟩
def placeOf(l:Lib)(slot:Int):List JG :=
 l.procs.flatMap (Iq l slot)++(if (whereFrom slot l.rows 0).2=true then [⟨2,(whereFrom slot l.rows 0).1⟩] else [])++List.replicate (Hg l.waiting slot) ⟨4, -1⟩
theorem Gx{l:Lib}{p:Int}(h:l.has p=false):ep l p=aR.z:=by unfold ep;rw[if_neg (by rw[h];simp)]
theorem ES{l:Lib}{i:Nat}{v:aR}(h:l.has (i:Int)=true)(hv:l.vs[i]?=some v):ep l (i:Int)=v:=by unfold ep;rw[if_pos h,Int.toNat_natCast,bx hv]
theorem Cl{t:Int}{rs:List (List Int)}{n:Nat}{r:List Int}(h:rs[n]?=some r)(ht:t∈r):whereFrom t (rs.drop n) n=((n:Int),true):=by rw[drop_cons h,whereFrom,if_pos ht]
theorem ET{t:Int}{rs:List (List Int)}{n:Nat}{r:List Int}(h:rs[n]?=some r)(ht:t ∉ r):whereFrom t (rs.drop n) n=whereFrom t (rs.drop (n+1)) (n+1):=by rw[drop_cons h,whereFrom,if_neg ht]
theorem Cm{t:Int}{rs:List (List Int)}{n:Nat}(h:rs.length≤n):whereFrom t (rs.drop n) n=(0,false):=by rw[List.drop_of_length_le h];rfl
/-! bounds, and where everything is -/
structure K5(k:Krn):Prop where
 ev:∀ l∈k.libs,(∀ v∈l.vs,v.evs.length≤1000000)∧l.waiting.length≤1000000∧l.rows.length≤64∧ ∀ r∈l.rows,r.length≤1000000
def II(l:Lib)(slot:Int):List JG:=if (whereFrom slot l.rows 0).2=true then [⟨2,(whereFrom slot l.rows 0).1⟩] else []
def rightIn(l:Lib):Nat→Bool
 | 0=>true
 | n+1=>rightIn l n && decide ((placeOf l (n:Int)).length=if l.bI.ready.contains (n:Int) then 1 else 0)
def Ba(k:Krn):Nat→Bool
 | 0=>true
 | n+1=>Ba k n && rightIn (k.libs.getD n Dm) 16
def Hh(k:Krn)(p:Nat):Nat→Bool
 | 0=>true
 | n+1=>Hh k p n && decide ((k.libs.getD n Dm).procs.contains (p:Int)=((k.eG (p:Int)).2 && decide ((n:Int)=(k.eG (p:Int)).1)))
def Hi(k:Krn):Nat→Bool
 | 0=>true
 | p+1=>Hi k p && Hh k p k.libs.length
def Ir(k:Krn):Bool:=Hi k k.owner.length
def Jp(k:Krn):Bool:=Ba k k.libs.length && Ir k
end Go.SLYthncobnjdhjnoaaGreat
namespace Go.SLYthncobnjdhjnoaaGreat
open Go Go.RowKit Go.Proofs Go.Proofs.Tryz
attribute [local irreducible] aq aJ ba bq bu Y
theorem oX{W:World}{n:Int}:Fn Tryz.prog W 15 [.pointer none,.int .i64 n] [] Unit (fun _=>.pointer none) (fun _=>True) (fun _=>[]):=by
 refine Fn.intro (N:=27) func15 rfl ntmps15 rfl fun F=>?_
 show aq _ _ _ _ _ _ [F]
 refine J 25 ?_
 refine .eM rfl ?_
 exact JR 7 ()
theorem ku{W:World}  : Fn Tryz.prog W 14 [.pointer none] [] Unit (fun _=>.int .i64 0) (fun _=>True) (fun _=>[]):=by
 refine Fn.intro (N:=10) func14 rfl ntmps14 rfl fun F=>?_
 show aq _ _ _ _ _ _ [F]
 refine J 12 ?_
 refine .eM rfl ?_
 exact JR 7 ()
theorem xO{W:World}{b bs br:Nat}{l:Lib}(hl:l.waiting.length≤1000000000):Fn Tryz.prog W 38 [ptr b] [aX b bs br l] Value (fun u=>u) (fun _=>True) (fun u=>[sl bW 3 u l.waiting,aX b bs br l]):=by
 refine Fn.intro (N:=11) func38 rfl ntmps38 rfl fun F=>?_
 show aq _ _ _ _ _ _ [aX b bs br l,F]
 refine J 12 ?_
 refine .eN rfl ?_
 refine J 4 ?_
 refine .o2 (C:=aX b bs br l) .auto rfl ?_
 rintro vv vw -
 refine J 4 ?_
 refine .c call79 rfl (oW (A:=sl bW 3 vw l.waiting) (Rd.sl .here) hl) fun u9 _=>?_
 refine .c call78 rfl Hd fun u10 _=>?_
 refine J 4 ?_
 refine .aP rfl rfl fun w s=>⟨_,?_,trivial,aj .auto s⟩
 rfl
theorem tT{W:World}{b:Nat}{l:List Int}(hl:l.length≤1000000000):Fn Tryz.prog W 97 [ptr b] [eK b l] Value (fun u=>u) (fun _=>True) (fun u=>[sl ar 1 u l,eK b l]):=by
 refine Fn.intro (N:=11) func97 rfl ntmps97 rfl fun F=>?_
 show aq _ _ _ _ _ _ [eK b l,F]
 refine J 12 ?_
 refine .eN rfl ?_
 refine J 4 ?_
 refine .o1 (C:=eK b l) .auto rfl ?_
 rintro v -
 refine J 4 ?_
 refine .c call125 rfl (Ik (A:=sl ar 1 v l) (Rd.sl .here) hl) fun u9 _=>?_
 refine .c call124 rfl Jf fun u10 _=>?_
 refine J 4 ?_
 refine .aP rfl rfl fun w s=>⟨_,?_,trivial,aj .auto s⟩
 rfl
theorem EU{W:World}{b bs br:Nat}{l:Lib}{p:Int}(hl:∀ v∈l.vs,v.evs.length≤1000000000):Fn Tryz.prog W 39 [ptr b,.int .i64 p] [aX b bs br l] Value (fun u=>.tuple #[.agg (dY (u,ep l p)).toArray,.bool (l.has p)]) (fun _=>True) (fun u=>[sl bW 3 u (ep l p).evs,aX b bs br l]):=by
 refine Fn.intro (N:=25) func39 rfl ntmps39 rfl fun F=>?_
 show aq _ _ _ _ _ _ [aX b bs br l,F]
 refine J 2 ?_
 refine .ai rfl (ab.alloc rfl zeroValue76 rfl) ?_
 rintro _ _ ⟨b4,rfl,rfl⟩
 refine J 8 ?_
 refine .c call44 rfl jG fun _ _=>?_
 refine JD 3 (fun h10=>?_) fun h10=>?_
 ·rw[Bool.not_eq_true'] at h10
  rw[Gx h10,h10]
  refine J 2 ?_
  refine .p (.l9 ([(.int .i64 0),(.int .i64 0),(.slice none 0 0)]) (by kernel_rfl)) ?_
  refine J 6 ?_
  refine .fk rfl rfl isAgg76 (by exact sizeOf76) Cells.a rfl fun w s=>⟨.slice none 0 0,?_,trivial,aj .auto s⟩
  rfl
 ·rw[Bool.not_eq_false'] at h10
  obtain⟨i,v,rfl,hv⟩:=lS (qW h10)
  rw[ES h10 hv,h10]
  refine .o2 (C:=aX b bs br l) .auto rfl ?_
  rintro vv vw -
  refine .o1 (C:=cb vv l.vs) .auto rfl ?_
  rintro xs hxs
  have hxl:=aE hxs
  obtain⟨x,hx,rfl⟩:=da hxs hv
  have hil:=(List.getElem?_eq_some_iff.1 hx).1
  refine J 9 ?_
  refine .p (.ix i rfl rfl rfl (by omega)) ?_
  refine .p (.la rfl (Cells.rd Rd.s hx)) ?_
  refine .fr .auto (cY (f:=fun x:Value×aR=>sl bW 3 x.1 x.2.evs) hx) ?_
  refine .cA (fun w s=>Rd.isSl (Rd.sl .here) w s) fun hu0=>?_
  have hone:=j7 (x:=x.2) hu0
  refine .ai rfl (ab.alloc rfl zeroValue76 rfl) ?_
  rintro _ _ ⟨b6,rfl,rfl⟩
  refine .ai rfl (ab.G3 (by exact sizeOf76) rfl rfl hone rfl) ?_
  rintro _ _ ⟨rfl,rfl⟩
  refine J 6 ?_
  refine .c call79 rfl (oW (A:=sl bW 3 x.1 x.2.evs) (xs:=x.2.evs) (Rd.sl .here) (hl x.2 (List.mem_of_getElem? hv))) fun u21 _=>?_
  refine .c call78 rfl Hd fun u22 _=>?_
  refine .cA (fun w s=>Rd.isSl (Rd.sl .auto) w s) fun hu22=>?_
  refine .to (A:=aO (fun x:Value×aR=>sl bW 3 x.1 x.2.evs) xs) .auto (dR (f:=fun x:Value×aR=>sl bW 3 x.1 x.2.evs) hx) ?_
  refine J 1 ?_
  refine .ai rfl (ab.ng sizeOf71 rfl rfl rfl) ?_
  rintro _ _ ⟨rfl,rfl⟩
  refine J 5 ?_
  refine .ai rfl (ab.G3 (by exact sizeOf76) rfl rfl (j7 hu22) rfl) ?_
  rintro _ _ ⟨rfl,rfl⟩
  refine J 4 ?_
  refine .fk rfl rfl isAgg76 (by exact sizeOf76) Cells.a rfl fun w s=>⟨_,?_,trivial,aj .auto s⟩
  rfl
theorem zC{W:World}{b:Nat}{rs:List (List Int)}{t:Int}(hl:rs.length≤64∧ ∀ r∈rs,r.length≤1000000000):Fn Tryz.prog W 130 [ptr b,.int .i64 t] [fy b rs] Unit (fun _=>.tuple #[.int .i64 (whereFrom t rs 0).1,.bool (whereFrom t rs 0).2]) (fun _=>True) (fun _=>[fy b rs]):=by
 refine Fn.intro (N:=35) func130 rfl ntmps130 rfl fun F=>?_
 show aq _ _ _ _ _ _ [fy b rs,F]
 refine .o2 (C:=fy b rs) .auto rfl ?_
 rintro v xs hxs
 have hxl:=aE hxs
 refine J 13 ?_
 refine .eN rfl ?_
 refine J 14 ?_
 refine .bf (X:=Nat) [4,5,6,7,9,17,18,19,20,21,22,23,24,25,26,27,28,29,30,31,32,33,34] (fun z=>rs.length-z) (fun z=>z≤rs.length∧whereFrom t rs 0=whereFrom t (rs.drop z) z) (fun z=>[(17,some (.int .i64 (z:Int)))]) (fun z=>[arr b 0 [v],sl cX 1 v xs,aO (fun x:Nat×List Int=>eK x.1 x.2) xs,F]) 0 ?_ ?_ ?_ ?_
 ·exact⟨Nat.zero_le _,by rw[List.drop_zero]⟩
 ·exact⟨rfl,trivial⟩
 ·exact fun w s=>au.kept .auto w s
 rintro n ⟨hn,hw⟩
 refine JD 6 (fun h18=>?_) fun h18=>?_
 ·refine J 6 ?_
  obtain⟨x,hx⟩:=al (show n<xs.length by omega)
  have hx2:=ff hxs hx
  have hxl2:=hl.2 x.2 (List.mem_of_getElem? hx2)
  refine J 9 ?_
  refine .fr .auto (cY (f:=fun x:Nat×List Int=>eK x.1 x.2) hx) ?_
  refine J 1 ?_
  refine .c call97 rfl (tT (l:=x.2) (hl.2 x.2 (List.mem_of_getElem? hx2))) fun u23 _=>?_
  refine .to (A:=aO (fun x:Nat×List Int=>eK x.1 x.2) xs) .auto (dR (f:=fun x:Nat×List Int=>eK x.1 x.2) hx) ?_
  refine J 5 ?_
  refine .bf (X:=Nat) [4,5,9,25,26,27,28,29,30,31,32,33] (fun z=>x.2.length-z) (fun z=>z≤x.2.length∧t ∉ x.2.take z) (fun z=>[(25,some (.int .i64 (z:Int)))]) (fun z=>[sl ar 1 u23 x.2,arr b 0 [v],sl cX 1 v xs,aO (fun x:Nat×List Int=>eK x.1 x.2) xs,F]) 0 ?_ ?_ ?_ ?_
  ·exact⟨Nat.zero_le _,by simp⟩
  ·exact⟨rfl,trivial⟩
  ·exact fun w s=>au.kept .auto w s
  rintro j ⟨hj,hjt⟩
  refine JD 6 (fun h26=>?_) fun h26=>?_
  ·refine J 6 ?_
   obtain⟨y,hy⟩:=al (show j<x.2.length by omega)
   refine J 1 ?_
   refine .p (.lr rfl hy) ?_
   refine JD 10 (fun h31=>?_) fun h31=>?_
   ·rw[hw,Cl hx2 (by rw[← h31];exact List.mem_of_getElem? hy)]
    exact JR 17 ()
   ·refine J 7 ?_
    refine .aF (j+1) .auto rfl ?_ ?_ ?_ ?_
    ·omega
    ·exact⟨by omega,by rw[bj hy,List.mem_append];rintro(h | h);exact hjt h;exact h31 (List.mem_singleton.1 h).symm⟩
    ·exact⟨rfl,trivial⟩
    ·exact fun w s=>au.kept .auto w s
  ·obtain rfl:j=x.2.length:=by omega
   rw[List.take_length] at hjt
   refine J 10 ?_
   refine .aF (n+1) .auto rfl ?_ ?_ ?_ ?_
   ·omega
   ·exact⟨by omega,by rw[hw,ET hx2 hjt]⟩
   ·exact⟨rfl,trivial⟩
   ·exact fun w s=>au.kept .auto w s
 ·obtain rfl:n=rs.length:=by omega
  rw[hw,Cm (Nat.le_refl _)]
  exact JR 12 ()
end Go.SLYthncobnjdhjnoaaGreat
namespace Go.SLYthncobnjdhjnoaaGreat
open Go Go.RowKit Go.Proofs Go.Proofs.Tryz
attribute [local irreducible] aq aJ ba bq bu Y
theorem Gy{W:World}{v:Value}{xs:List eu}{i:Nat}(hi:i<xs.length)(_hl:xs.length≤1000000000):Fn Tryz.prog W 203 [v,.int .i64 (i:Int),.int .i64 ((i+1:Nat):Int)] [sl cW 2 v xs] Value (fun u=>u) (fun _=>True) (fun u=>[sl cW 2 u (xs.eraseIdx i)]):=by
 refine Fn.intro (N:=33) func203 rfl ntmps203 rfl fun F=>?_
 show aq _ _ _ _ _ _ [sl cW 2 v xs,F]
 have h0:xs≠[]:=by intro e;rw[e] at hi;simp at hi
 refine .cA (fun w s=>s.fact .auto (nD h0)) fun e=>?_
 obtain⟨b,cap,rfl,hc⟩:=e
 refine .s (.r (.p (.a rfl) (.n (.t (.s (.r (.p (.m rfl) (.p (.m rfl) (.p (.m rfl) (.p (.m rfl) (.p (.len rfl) ?_)))))))))))
 refine .p (.slice3 i (i+1) xs.length underlying160 sizeOf274 rfl rfl rfl rfl rfl rfl rfl (by omega) (by omega) hc) ?_
 refine .n (.t (.s (.s (.r (.p (.m rfl) (.p (.m rfl) (.p (.eql rfl rfl) (.n (.t (.dK rfl (fun h16=>?_) (fun h16=>?_)))))))))))
 ·exact absurd h16 (by omega)
 ·refine .v (.t (.s (.r (.p (.m rfl) (.p (.len rfl) (.p (.a rfl) (.n (.t (.s ?_)))))))))
  refine .draw [] [1,1,1,1,1,1,3,1] rfl (by kernel_rfl) ?_
  refine .p (.m rfl) (.p (.m rfl) ?_)
  refine .p (.jY i underlying160 sizeOf274 rfl rfl rfl (by omega)) ?_
  refine .p (.m rfl) (.p (.m rfl) ?_)
  refine .p (.nq (i+1) underlying160 sizeOf274 rfl rfl rfl (by omega)) ?_
  refine .d3 rfl (ab.lM rfl underlying160 underlying160 typeInfo274 rfl rfl rfl .auto (by omega) (by omega) (Dt _) h0) ?_
  rintro _ _ ⟨rfl,rfl⟩
  refine .p (.a rfl) (.n (.t (.s (.r (.p (.m rfl) (.p (.m rfl) (.p (.lens rfl) (.p (.m rfl) ?_))))))))
  refine .p (.uB (i+(xs.length-(i+1))) xs.length underlying160 sizeOf274 rfl rfl rfl rfl rfl (by omega) hc) ?_
  refine .ai rfl (ab.qi (xs:=xs.take i++xs.drop (i+1)) underlying160 zeroValue274 rfl rfl rfl rfl (by rw[List.length_append,List.length_take,List.length_drop];omega) (by omega) .auto) ?_
  rintro _ _ ⟨rfl,rfl⟩
  refine .n (.t (.s (.r (.p (.m rfl) (.p (.a rfl) (.n (.t (.e ?_))))))))
  rw[nE]
  refine .aP rfl rfl fun w s=>⟨_,?_,trivial,aj .auto s⟩
  rfl
theorem Gz{W:World}{v:Value}{xs:List Ptr}{i:Nat}(hi:i<xs.length)(_hl:xs.length≤1000000000):Fn Tryz.prog W 248 [v,.int .i64 (i:Int),.int .i64 ((i+1:Nat):Int)] [sl kL 2 v xs] Value (fun u=>u) (fun _=>True) (fun u=>[sl kL 2 u (xs.eraseIdx i)]):=by
 refine Fn.intro (N:=33) func248 rfl ntmps248 rfl fun F=>?_
 show aq _ _ _ _ _ _ [sl kL 2 v xs,F]
 have h0:xs≠[]:=by intro e;rw[e] at hi;simp at hi
 refine .cA (fun w s=>s.fact .auto (nD h0)) fun e=>?_
 obtain⟨b,cap,rfl,hc⟩:=e
 refine .s (.r (.p (.a rfl) (.n (.t (.s (.r (.p (.m rfl) (.p (.m rfl) (.p (.m rfl) (.p (.m rfl) (.p (.len rfl) ?_)))))))))))
 refine .p (.slice3 i (i+1) xs.length underlying171 sizeOf319 rfl rfl rfl rfl rfl rfl rfl (by omega) (by omega) hc) ?_
 refine .n (.t (.s (.s (.r (.p (.m rfl) (.p (.m rfl) (.p (.eql rfl rfl) (.n (.t (.dK rfl (fun h16=>?_) (fun h16=>?_)))))))))))
 ·exact absurd h16 (by omega)
 ·refine .v (.t (.s (.r (.p (.m rfl) (.p (.len rfl) (.p (.a rfl) (.n (.t (.s ?_)))))))))
  refine .draw [] [1,1,1,1,1,1,3,1] rfl (by kernel_rfl) ?_
  refine .p (.m rfl) (.p (.m rfl) ?_)
  refine .p (.jY i underlying171 sizeOf319 rfl rfl rfl (by omega)) ?_
  refine .p (.m rfl) (.p (.m rfl) ?_)
  refine .p (.nq (i+1) underlying171 sizeOf319 rfl rfl rfl (by omega)) ?_
  refine .d3 rfl (ab.lM rfl underlying171 underlying171 typeInfo319 rfl rfl rfl .auto (by omega) (by omega) (Du _) h0) ?_
  rintro _ _ ⟨rfl,rfl⟩
  refine .p (.a rfl) (.n (.t (.s (.r (.p (.m rfl) (.p (.m rfl) (.p (.lens rfl) (.p (.m rfl) ?_))))))))
  refine .p (.uB (i+(xs.length-(i+1))) xs.length underlying171 sizeOf319 rfl rfl rfl rfl rfl (by omega) hc) ?_
  refine .ai rfl (ab.qi (xs:=xs.take i++xs.drop (i+1)) underlying171 zeroValue319 rfl rfl rfl rfl (by rw[List.length_append,List.length_take,List.length_drop];omega) (by omega) .auto) ?_
  rintro _ _ ⟨rfl,rfl⟩
  refine .n (.t (.s (.r (.p (.m rfl) (.p (.a rfl) (.n (.t (.e ?_))))))))
  rw[nE]
  refine .aP rfl rfl fun w s=>⟨_,?_,trivial,aj .auto s⟩
  rfl
theorem vB{W:World}{v:Value}{xs:List Int}{i:Nat}(hi:i<xs.length)(_hl:xs.length≤1000000000):Fn Tryz.prog W 150 [v,.int .i64 (i:Int),.int .i64 ((i+1:Nat):Int)] [sl ar 1 v xs] Value (fun u=>u) (fun _=>True) (fun u=>[sl ar 1 u (xs.eraseIdx i)]):=by
 refine Fn.intro (N:=33) func150 rfl ntmps150 rfl fun F=>?_
 show aq _ _ _ _ _ _ [sl ar 1 v xs,F]
 have h0:xs≠[]:=by intro e;rw[e] at hi;simp at hi
 refine .cA (fun w s=>s.fact .auto (nD h0)) fun e=>?_
 obtain⟨b,cap,rfl,hc⟩:=e
 refine .s (.r (.p (.a rfl) (.n (.t (.s (.r (.p (.m rfl) (.p (.m rfl) (.p (.m rfl) (.p (.m rfl) (.p (.len rfl) ?_)))))))))))
 refine .p (.slice3 i (i+1) xs.length underlying33 sizeOf3 rfl rfl rfl rfl rfl rfl rfl (by omega) (by omega) hc) ?_
 refine .n (.t (.s (.s (.r (.p (.m rfl) (.p (.m rfl) (.p (.eql rfl rfl) (.n (.t (.dK rfl (fun h16=>?_) (fun h16=>?_)))))))))))
 ·exact absurd h16 (by omega)
 ·refine .v (.t (.s (.r (.p (.m rfl) (.p (.len rfl) (.p (.a rfl) (.n (.t (.s ?_)))))))))
  refine .draw [] [1,1,1,1,1,1,3,1] rfl (by kernel_rfl) ?_
  refine .p (.m rfl) (.p (.m rfl) ?_)
  refine .p (.jY i underlying33 sizeOf3 rfl rfl rfl (by omega)) ?_
  refine .p (.m rfl) (.p (.m rfl) ?_)
  refine .p (.nq (i+1) underlying33 sizeOf3 rfl rfl rfl (by omega)) ?_
  refine .d3 rfl (ab.lM rfl underlying33 underlying33 typeInfo3 rfl rfl rfl .auto (by omega) (by omega) (nv _) h0) ?_
  rintro _ _ ⟨rfl,rfl⟩
  refine .p (.a rfl) (.n (.t (.s (.r (.p (.m rfl) (.p (.m rfl) (.p (.lens rfl) (.p (.m rfl) ?_))))))))
  refine .p (.uB (i+(xs.length-(i+1))) xs.length underlying33 sizeOf3 rfl rfl rfl rfl rfl (by omega) hc) ?_
  refine .ai rfl (ab.qi (xs:=xs.take i++xs.drop (i+1)) underlying33 zeroValue3 rfl rfl rfl rfl (by rw[List.length_append,List.length_take,List.length_drop];omega) (by omega) .auto) ?_
  rintro _ _ ⟨rfl,rfl⟩
  refine .n (.t (.s (.r (.p (.m rfl) (.p (.a rfl) (.n (.t (.e ?_))))))))
  rw[nE]
  refine .aP rfl rfl fun w s=>⟨_,?_,trivial,aj .auto s⟩
  rfl
theorem GA{W:World}{v:Value}{xs:List Int}{i:Nat}(hi:i<xs.length)(_hl:xs.length≤1000000000):Fn Tryz.prog W 247 [v,.int .i64 (i:Int),.int .i64 ((i+1:Nat):Int)] [sl ey 1 v xs] Value (fun u=>u) (fun _=>True) (fun u=>[sl ey 1 u (xs.eraseIdx i)]):=by
 refine Fn.intro (N:=33) func247 rfl ntmps247 rfl fun F=>?_
 show aq _ _ _ _ _ _ [sl ey 1 v xs,F]
 have h0:xs≠[]:=by intro e;rw[e] at hi;simp at hi
 refine .cA (fun w s=>s.fact .auto (nD h0)) fun e=>?_
 obtain⟨b,cap,rfl,hc⟩:=e
 refine .s (.r (.p (.a rfl) (.n (.t (.s (.r (.p (.m rfl) (.p (.m rfl) (.p (.m rfl) (.p (.m rfl) (.p (.len rfl) ?_)))))))))))
 refine .p (.slice3 i (i+1) xs.length underlying108 sizeOf86 rfl rfl rfl rfl rfl rfl rfl (by omega) (by omega) hc) ?_
 refine .n (.t (.s (.s (.r (.p (.m rfl) (.p (.m rfl) (.p (.eql rfl rfl) (.n (.t (.dK rfl (fun h16=>?_) (fun h16=>?_)))))))))))
 ·exact absurd h16 (by omega)
 ·refine .v (.t (.s (.r (.p (.m rfl) (.p (.len rfl) (.p (.a rfl) (.n (.t (.s ?_)))))))))
  refine .draw [] [1,1,1,1,1,1,3,1] rfl (by kernel_rfl) ?_
  refine .p (.m rfl) (.p (.m rfl) ?_)
  refine .p (.jY i underlying108 sizeOf86 rfl rfl rfl (by omega)) ?_
  refine .p (.m rfl) (.p (.m rfl) ?_)
  refine .p (.nq (i+1) underlying108 sizeOf86 rfl rfl rfl (by omega)) ?_
  refine .d3 rfl (ab.lM rfl underlying108 underlying108 typeInfo86 rfl rfl rfl .auto (by omega) (by omega) (wD _) h0) ?_
  rintro _ _ ⟨rfl,rfl⟩
  refine .p (.a rfl) (.n (.t (.s (.r (.p (.m rfl) (.p (.m rfl) (.p (.lens rfl) (.p (.m rfl) ?_))))))))
  refine .p (.uB (i+(xs.length-(i+1))) xs.length underlying108 sizeOf86 rfl rfl rfl rfl rfl (by omega) hc) ?_
  refine .ai rfl (ab.qi (xs:=xs.take i++xs.drop (i+1)) underlying108 zeroValue86 rfl rfl rfl rfl (by rw[List.length_append,List.length_take,List.length_drop];omega) (by omega) .auto) ?_
  rintro _ _ ⟨rfl,rfl⟩
  refine .n (.t (.s (.r (.p (.m rfl) (.p (.a rfl) (.n (.t (.e ?_))))))))
  rw[nE]
  refine .aP rfl rfl fun w s=>⟨_,?_,trivial,aj .auto s⟩
  rfl
theorem zD{W:World}{A:aa}{v:Value}{xs:List eu}{p:eu→Bool}{g:Nat}{c:Value}(hr:Rd W [A] cW 2 v xs)(hl:xs.length≤1000000000)(hg:∀ args w,(callFunc g args).run Tryz.prog w = .ok (.enter g args) w)(hf:∀ x∈xs,Fn Tryz.prog W g [.agg (cW x).toArray,c] [A] Unit (fun _=>.bool (p x)) (fun _=>True) (fun _=>[A])):Fn Tryz.prog W 256 [v,.func (.func g) #[] #[c]] [A] Unit (fun _=>.int .i64 (idxP p xs 0)) (fun _=>True) (fun _=>[A]):=by
 refine Fn.intro (N:=19) func256 rfl ntmps256 rfl fun F=>?_
 haveI hRI:∀ (H:List aa) [bE H A],aG W H v cW 2 xs:=fun H h=>⟨hr.at h.has⟩
 show aq _ _ _ _ _ _ [A,F]
 refine J 14 ?_
 refine .bf (X:=Nat) [4,5,8,9,10,11,12,13,14,15,16,17,18] (fun k=>xs.length-k) (fun k=>k≤xs.length∧idxP p xs 0=idxP p (xs.drop k) k) (fun k=>[(8,some (.int .i64 (k:Int)))]) (fun k=>[A,F]) 0 ?_ ?_ ?_ ?_
 ·exact⟨Nat.zero_le _,by simp⟩
 ·exact⟨rfl,trivial⟩
 ·exact fun w s=>au.kept .auto w s
 rintro k ⟨hk,hn⟩
 refine JD 6 (fun h9=>?_) fun h9=>?_
 ·refine J 15 ?_
  obtain⟨x,hx⟩:=al (show k<xs.length by omega)
  refine J 2 ?_
  refine .ai rfl (ab.jZ rfl rfl hg rfl (hf x (List.mem_of_getElem? hx)) .auto) ?_
  rintro _ _ ⟨⟨⟩, -,rfl,rfl⟩
  refine JD 2 (fun h16=>?_) fun h16=>?_
  ·refine J 12 ?_
   refine .aP rfl rfl fun w s=>⟨(),?_,trivial,aj .auto s⟩
   rw[hn,iy hx h16]
  ·refine J 7 ?_
   refine .aF (k+1) .auto rfl ?_ ?_ ?_ ?_
   ·first | omega | (dsimp only;omega)
   ·exact⟨by omega,hn.trans (gz hx h16)⟩
   ·exact⟨rfl,trivial⟩
   ·exact fun w s=>au.kept .auto w s
 ·refine J 11 ?_
  refine .aP rfl rfl fun w s=>⟨(),?_,trivial,aj .auto s⟩
  rw[hn,iz (by omega)]
theorem sP{W:World}{A:aa}{v:Value}{xs:List eu}{p:eu→Bool}{g:Nat}{c:Value}(hr:Rd W [A] cW 2 v xs)(hl:xs.length≤1000000000)(hg:∀ args w,(callFunc g args).run Tryz.prog w = .ok (.enter g args) w)(hf:∀ x∈xs,Fn Tryz.prog W g [.agg (cW x).toArray,c] [A] Unit (fun _=>.bool (p x)) (fun _=>True) (fun _=>[A])):Fn Tryz.prog W 240 [v,.func (.func g) #[] #[c]] [A] Unit (fun _=>.bool (xs.any p)) (fun _=>True) (fun _=>[A]):=by
 refine Fn.intro (N:=9) func240 rfl ntmps240 rfl fun F=>?_
 show aq _ _ _ _ _ _ [A,F]
 refine J 9 ?_
 refine .c call256 rfl (zD hr hl hg hf) fun _ _=>?_
 refine J 5 ?_
 refine .aP rfl rfl fun w s=>⟨(),?_,trivial,aj .auto s⟩
 rw[← iA xs 0]
theorem zE{W:World}{A:aa}{v:Value}{xs:List vZ}{p:vZ→Bool}{g:Nat}{c:Value}(hr:Rd W [A] iL 4 v xs)(hl:xs.length≤1000000000)(hg:∀ args w,(callFunc g args).run Tryz.prog w = .ok (.enter g args) w)(hf:∀ x∈xs,Fn Tryz.prog W g [.agg (iL x).toArray,c] [A] Unit (fun _=>.bool (p x)) (fun _=>True) (fun _=>[A])):Fn Tryz.prog W 244 [v,.func (.func g) #[] #[c]] [A] Unit (fun _=>.int .i64 (idxP p xs 0)) (fun _=>True) (fun _=>[A]):=by
 refine Fn.intro (N:=19) func244 rfl ntmps244 rfl fun F=>?_
 haveI hRI:∀ (H:List aa) [bE H A],aG W H v iL 4 xs:=fun H h=>⟨hr.at h.has⟩
 show aq _ _ _ _ _ _ [A,F]
 refine J 14 ?_
 refine .bf (X:=Nat) [4,5,8,9,10,11,12,13,14,15,16,17,18] (fun k=>xs.length-k) (fun k=>k≤xs.length∧idxP p xs 0=idxP p (xs.drop k) k) (fun k=>[(8,some (.int .i64 (k:Int)))]) (fun k=>[A,F]) 0 ?_ ?_ ?_ ?_
 ·exact⟨Nat.zero_le _,by simp⟩
 ·exact⟨rfl,trivial⟩
 ·exact fun w s=>au.kept .auto w s
 rintro k ⟨hk,hn⟩
 refine JD 6 (fun h9=>?_) fun h9=>?_
 ·refine J 15 ?_
  obtain⟨x,hx⟩:=al (show k<xs.length by omega)
  refine J 2 ?_
  refine .ai rfl (ab.jZ rfl rfl hg rfl (hf x (List.mem_of_getElem? hx)) .auto) ?_
  rintro _ _ ⟨⟨⟩, -,rfl,rfl⟩
  refine JD 2 (fun h16=>?_) fun h16=>?_
  ·refine J 12 ?_
   refine .aP rfl rfl fun w s=>⟨(),?_,trivial,aj .auto s⟩
   rw[hn,iy hx h16]
  ·refine J 7 ?_
   refine .aF (k+1) .auto rfl ?_ ?_ ?_ ?_
   ·first | omega | (dsimp only;omega)
   ·exact⟨by omega,hn.trans (gz hx h16)⟩
   ·exact⟨rfl,trivial⟩
   ·exact fun w s=>au.kept .auto w s
 ·refine J 11 ?_
  refine .aP rfl rfl fun w s=>⟨(),?_,trivial,aj .auto s⟩
  rw[hn,iz (by omega)]
theorem sQ{W:World}{A:aa}{v:Value}{xs:List vZ}{p:vZ→Bool}{g:Nat}{c:Value}(hr:Rd W [A] iL 4 v xs)(hl:xs.length≤1000000000)(hg:∀ args w,(callFunc g args).run Tryz.prog w = .ok (.enter g args) w)(hf:∀ x∈xs,Fn Tryz.prog W g [.agg (iL x).toArray,c] [A] Unit (fun _=>.bool (p x)) (fun _=>True) (fun _=>[A])):Fn Tryz.prog W 227 [v,.func (.func g) #[] #[c]] [A] Unit (fun _=>.bool (xs.any p)) (fun _=>True) (fun _=>[A]):=by
 refine Fn.intro (N:=9) func227 rfl ntmps227 rfl fun F=>?_
 show aq _ _ _ _ _ _ [A,F]
 refine J 9 ?_
 refine .c call244 rfl (zE hr hl hg hf) fun _ _=>?_
 refine J 5 ?_
 refine .aP rfl rfl fun w s=>⟨(),?_,trivial,aj .auto s⟩
 rw[← iA xs 0]
theorem zF{W:World}{A:aa}{v:Value}{xs:List Ptr}{p:Ptr→Bool}{g:Nat}{c:Value}(hr:Rd W [A] kL 2 v xs)(hl:xs.length≤1000000000)(hg:∀ args w,(callFunc g args).run Tryz.prog w = .ok (.enter g args) w)(hf:∀ x∈xs,Fn Tryz.prog W g [.agg (kL x).toArray,c] [A] Unit (fun _=>.bool (p x)) (fun _=>True) (fun _=>[A])):Fn Tryz.prog W 257 [v,.func (.func g) #[] #[c]] [A] Unit (fun _=>.int .i64 (idxP p xs 0)) (fun _=>True) (fun _=>[A]):=by
 refine Fn.intro (N:=19) func257 rfl ntmps257 rfl fun F=>?_
 haveI hRI:∀ (H:List aa) [bE H A],aG W H v kL 2 xs:=fun H h=>⟨hr.at h.has⟩
 show aq _ _ _ _ _ _ [A,F]
 refine J 14 ?_
 refine .bf (X:=Nat) [4,5,8,9,10,11,12,13,14,15,16,17,18] (fun k=>xs.length-k) (fun k=>k≤xs.length∧idxP p xs 0=idxP p (xs.drop k) k) (fun k=>[(8,some (.int .i64 (k:Int)))]) (fun k=>[A,F]) 0 ?_ ?_ ?_ ?_
 ·exact⟨Nat.zero_le _,by simp⟩
 ·exact⟨rfl,trivial⟩
 ·exact fun w s=>au.kept .auto w s
 rintro k ⟨hk,hn⟩
 refine JD 6 (fun h9=>?_) fun h9=>?_
 ·refine J 15 ?_
  obtain⟨x,hx⟩:=al (show k<xs.length by omega)
  refine J 2 ?_
  refine .ai rfl (ab.jZ rfl rfl hg rfl (hf x (List.mem_of_getElem? hx)) .auto) ?_
  rintro _ _ ⟨⟨⟩, -,rfl,rfl⟩
  refine JD 2 (fun h16=>?_) fun h16=>?_
  ·refine J 12 ?_
   refine .aP rfl rfl fun w s=>⟨(),?_,trivial,aj .auto s⟩
   rw[hn,iy hx h16]
  ·refine J 7 ?_
   refine .aF (k+1) .auto rfl ?_ ?_ ?_ ?_
   ·first | omega | (dsimp only;omega)
   ·exact⟨by omega,hn.trans (gz hx h16)⟩
   ·exact⟨rfl,trivial⟩
   ·exact fun w s=>au.kept .auto w s
 ·refine J 11 ?_
  refine .aP rfl rfl fun w s=>⟨(),?_,trivial,aj .auto s⟩
  rw[hn,iz (by omega)]
theorem sR{W:World}{A:aa}{v:Value}{xs:List Ptr}{p:Ptr→Bool}{g:Nat}{c:Value}(hr:Rd W [A] kL 2 v xs)(hl:xs.length≤1000000000)(hg:∀ args w,(callFunc g args).run Tryz.prog w = .ok (.enter g args) w)(hf:∀ x∈xs,Fn Tryz.prog W g [.agg (kL x).toArray,c] [A] Unit (fun _=>.bool (p x)) (fun _=>True) (fun _=>[A])):Fn Tryz.prog W 245 [v,.func (.func g) #[] #[c]] [A] Unit (fun _=>.bool (xs.any p)) (fun _=>True) (fun _=>[A]):=by
 refine Fn.intro (N:=9) func245 rfl ntmps245 rfl fun F=>?_
 show aq _ _ _ _ _ _ [A,F]
 refine J 9 ?_
 refine .c call257 rfl (zF hr hl hg hf) fun _ _=>?_
 refine J 5 ?_
 refine .aP rfl rfl fun w s=>⟨(),?_,trivial,aj .auto s⟩
 rw[← iA xs 0]
theorem zG{W:World}{A:aa}{v:Value}{xs:List (Value×ei)}{p:(Value×ei)→Bool}{g:Nat}{c:Value}(hr:Rd W [A] kN 3 v xs)(hl:xs.length≤1000000000)(hg:∀ args w,(callFunc g args).run Tryz.prog w = .ok (.enter g args) w)(hf:∀ x∈xs,Fn Tryz.prog W g [.agg (kN x).toArray,c] [A] Unit (fun _=>.bool (p x)) (fun _=>True) (fun _=>[A])):Fn Tryz.prog W 239 [v,.func (.func g) #[] #[c]] [A] Unit (fun _=>.int .i64 (idxP p xs 0)) (fun _=>True) (fun _=>[A]):=by
 refine Fn.intro (N:=19) func239 rfl ntmps239 rfl fun F=>?_
 haveI hRI:∀ (H:List aa) [bE H A],aG W H v kN 3 xs:=fun H h=>⟨hr.at h.has⟩
 show aq _ _ _ _ _ _ [A,F]
 refine J 14 ?_
 refine .bf (X:=Nat) [4,5,8,9,10,11,12,13,14,15,16,17,18] (fun k=>xs.length-k) (fun k=>k≤xs.length∧idxP p xs 0=idxP p (xs.drop k) k) (fun k=>[(8,some (.int .i64 (k:Int)))]) (fun k=>[A,F]) 0 ?_ ?_ ?_ ?_
 ·exact⟨Nat.zero_le _,by simp⟩
 ·exact⟨rfl,trivial⟩
 ·exact fun w s=>au.kept .auto w s
 rintro k ⟨hk,hn⟩
 refine JD 6 (fun h9=>?_) fun h9=>?_
 ·refine J 15 ?_
  obtain⟨x,hx⟩:=al (show k<xs.length by omega)
  refine J 2 ?_
  refine .ai rfl (ab.jZ rfl rfl hg rfl (hf x (List.mem_of_getElem? hx)) .auto) ?_
  rintro _ _ ⟨⟨⟩, -,rfl,rfl⟩
  refine JD 2 (fun h16=>?_) fun h16=>?_
  ·refine J 12 ?_
   refine .aP rfl rfl fun w s=>⟨(),?_,trivial,aj .auto s⟩
   rw[hn,iy hx h16]
  ·refine J 7 ?_
   refine .aF (k+1) .auto rfl ?_ ?_ ?_ ?_
   ·first | omega | (dsimp only;omega)
   ·exact⟨by omega,hn.trans (gz hx h16)⟩
   ·exact⟨rfl,trivial⟩
   ·exact fun w s=>au.kept .auto w s
 ·refine J 11 ?_
  refine .aP rfl rfl fun w s=>⟨(),?_,trivial,aj .auto s⟩
  rw[hn,iz (by omega)]
theorem sS{W:World}{A:aa}{v:Value}{xs:List (Value×ei)}{p:(Value×ei)→Bool}{g:Nat}{c:Value}(hr:Rd W [A] kN 3 v xs)(hl:xs.length≤1000000000)(hg:∀ args w,(callFunc g args).run Tryz.prog w = .ok (.enter g args) w)(hf:∀ x∈xs,Fn Tryz.prog W g [.agg (kN x).toArray,c] [A] Unit (fun _=>.bool (p x)) (fun _=>True) (fun _=>[A])):Fn Tryz.prog W 220 [v,.func (.func g) #[] #[c]] [A] Unit (fun _=>.bool (xs.any p)) (fun _=>True) (fun _=>[A]):=by
 refine Fn.intro (N:=9) func220 rfl ntmps220 rfl fun F=>?_
 show aq _ _ _ _ _ _ [A,F]
 refine J 9 ?_
 refine .c call239 rfl (zG hr hl hg hf) fun _ _=>?_
 refine J 5 ?_
 refine .aP rfl rfl fun w s=>⟨(),?_,trivial,aj .auto s⟩
 rw[← iA xs 0]
theorem zH{W:World}{A:aa}{v:Value}{xs:List (Value×List eu)}{p:(Value×List eu)→Bool}{g:Nat}{c:Value}(hr:Rd W [A] dP 1 v xs)(hl:xs.length≤1000000000)(hg:∀ args w,(callFunc g args).run Tryz.prog w = .ok (.enter g args) w)(hf:∀ x∈xs,Fn Tryz.prog W g [.agg (dP x).toArray,c] [A] Unit (fun _=>.bool (p x)) (fun _=>True) (fun _=>[A])):Fn Tryz.prog W 242 [v,.func (.func g) #[] #[c]] [A] Unit (fun _=>.int .i64 (idxP p xs 0)) (fun _=>True) (fun _=>[A]):=by
 refine Fn.intro (N:=19) func242 rfl ntmps242 rfl fun F=>?_
 haveI hRI:∀ (H:List aa) [bE H A],aG W H v dP 1 xs:=fun H h=>⟨hr.at h.has⟩
 show aq _ _ _ _ _ _ [A,F]
 refine J 14 ?_
 refine .bf (X:=Nat) [4,5,8,9,10,11,12,13,14,15,16,17,18] (fun k=>xs.length-k) (fun k=>k≤xs.length∧idxP p xs 0=idxP p (xs.drop k) k) (fun k=>[(8,some (.int .i64 (k:Int)))]) (fun k=>[A,F]) 0 ?_ ?_ ?_ ?_
 ·exact⟨Nat.zero_le _,by simp⟩
 ·exact⟨rfl,trivial⟩
 ·exact fun w s=>au.kept .auto w s
 rintro k ⟨hk,hn⟩
 refine JD 6 (fun h9=>?_) fun h9=>?_
 ·refine J 15 ?_
  obtain⟨x,hx⟩:=al (show k<xs.length by omega)
  refine J 2 ?_
  refine .ai rfl (ab.jZ rfl rfl hg rfl (hf x (List.mem_of_getElem? hx)) .auto) ?_
  rintro _ _ ⟨⟨⟩, -,rfl,rfl⟩
  refine JD 2 (fun h16=>?_) fun h16=>?_
  ·refine J 12 ?_
   refine .aP rfl rfl fun w s=>⟨(),?_,trivial,aj .auto s⟩
   rw[hn,iy hx h16]
  ·refine J 7 ?_
   refine .aF (k+1) .auto rfl ?_ ?_ ?_ ?_
   ·first | omega | (dsimp only;omega)
   ·exact⟨by omega,hn.trans (gz hx h16)⟩
   ·exact⟨rfl,trivial⟩
   ·exact fun w s=>au.kept .auto w s
 ·refine J 11 ?_
  refine .aP rfl rfl fun w s=>⟨(),?_,trivial,aj .auto s⟩
  rw[hn,iz (by omega)]
theorem sT{W:World}{A:aa}{v:Value}{xs:List (Value×List eu)}{p:(Value×List eu)→Bool}{g:Nat}{c:Value}(hr:Rd W [A] dP 1 v xs)(hl:xs.length≤1000000000)(hg:∀ args w,(callFunc g args).run Tryz.prog w = .ok (.enter g args) w)(hf:∀ x∈xs,Fn Tryz.prog W g [.agg (dP x).toArray,c] [A] Unit (fun _=>.bool (p x)) (fun _=>True) (fun _=>[A])):Fn Tryz.prog W 223 [v,.func (.func g) #[] #[c]] [A] Unit (fun _=>.bool (xs.any p)) (fun _=>True) (fun _=>[A]):=by
 refine Fn.intro (N:=9) func223 rfl ntmps223 rfl fun F=>?_
 show aq _ _ _ _ _ _ [A,F]
 refine J 9 ?_
 refine .c call242 rfl (zH hr hl hg hf) fun _ _=>?_
 refine J 5 ?_
 refine .aP rfl rfl fun w s=>⟨(),?_,trivial,aj .auto s⟩
 rw[← iA xs 0]
theorem zI{W:World}{A:aa}{v:Value}{xs:List (Value×jR)}{p:(Value×jR)→Bool}{g:Nat}{c:Value}(hr:Rd W [A] kY 2 v xs)(hl:xs.length≤1000000000)(hg:∀ args w,(callFunc g args).run Tryz.prog w = .ok (.enter g args) w)(hf:∀ x∈xs,Fn Tryz.prog W g [.agg (kY x).toArray,c] [A] Unit (fun _=>.bool (p x)) (fun _=>True) (fun _=>[A])):Fn Tryz.prog W 243 [v,.func (.func g) #[] #[c]] [A] Unit (fun _=>.int .i64 (idxP p xs 0)) (fun _=>True) (fun _=>[A]):=by
 refine Fn.intro (N:=19) func243 rfl ntmps243 rfl fun F=>?_
 haveI hRI:∀ (H:List aa) [bE H A],aG W H v kY 2 xs:=fun H h=>⟨hr.at h.has⟩
 show aq _ _ _ _ _ _ [A,F]
 refine J 14 ?_
 refine .bf (X:=Nat) [4,5,8,9,10,11,12,13,14,15,16,17,18] (fun k=>xs.length-k) (fun k=>k≤xs.length∧idxP p xs 0=idxP p (xs.drop k) k) (fun k=>[(8,some (.int .i64 (k:Int)))]) (fun k=>[A,F]) 0 ?_ ?_ ?_ ?_
 ·exact⟨Nat.zero_le _,by simp⟩
 ·exact⟨rfl,trivial⟩
 ·exact fun w s=>au.kept .auto w s
 rintro k ⟨hk,hn⟩
 refine JD 6 (fun h9=>?_) fun h9=>?_
 ·refine J 15 ?_
  obtain⟨x,hx⟩:=al (show k<xs.length by omega)
  refine J 2 ?_
  refine .ai rfl (ab.jZ rfl rfl hg rfl (hf x (List.mem_of_getElem? hx)) .auto) ?_
  rintro _ _ ⟨⟨⟩, -,rfl,rfl⟩
  refine JD 2 (fun h16=>?_) fun h16=>?_
  ·refine J 12 ?_
   refine .aP rfl rfl fun w s=>⟨(),?_,trivial,aj .auto s⟩
   rw[hn,iy hx h16]
  ·refine J 7 ?_
   refine .aF (k+1) .auto rfl ?_ ?_ ?_ ?_
   ·first | omega | (dsimp only;omega)
   ·exact⟨by omega,hn.trans (gz hx h16)⟩
   ·exact⟨rfl,trivial⟩
   ·exact fun w s=>au.kept .auto w s
 ·refine J 11 ?_
  refine .aP rfl rfl fun w s=>⟨(),?_,trivial,aj .auto s⟩
  rw[hn,iz (by omega)]
theorem sU{W:World}{A:aa}{v:Value}{xs:List (Value×jR)}{p:(Value×jR)→Bool}{g:Nat}{c:Value}(hr:Rd W [A] kY 2 v xs)(hl:xs.length≤1000000000)(hg:∀ args w,(callFunc g args).run Tryz.prog w = .ok (.enter g args) w)(hf:∀ x∈xs,Fn Tryz.prog W g [.agg (kY x).toArray,c] [A] Unit (fun _=>.bool (p x)) (fun _=>True) (fun _=>[A])):Fn Tryz.prog W 225 [v,.func (.func g) #[] #[c]] [A] Unit (fun _=>.bool (xs.any p)) (fun _=>True) (fun _=>[A]):=by
 refine Fn.intro (N:=9) func225 rfl ntmps225 rfl fun F=>?_
 show aq _ _ _ _ _ _ [A,F]
 refine J 9 ?_
 refine .c call243 rfl (zI hr hl hg hf) fun _ _=>?_
 refine J 5 ?_
 refine .aP rfl rfl fun w s=>⟨(),?_,trivial,aj .auto s⟩
 rw[← iA xs 0]
end Go.SLYthncobnjdhjnoaaGreat
namespace Go.SLYthncobnjdhjnoaaGreat
open Go Go.RowKit Go.Proofs Go.Proofs.Tryz
attribute [local irreducible] aq aJ ba bq bu Y
theorem tU{W:World}{b:Nat}{l:List (Bool×Int)}{h:Int}(hl:iq l)(h0:0≤h):Fn Tryz.prog W 193 [ptr b,.int .u64 h] [kM b l] Unit (fun _=>IZ (bo l h)) (fun _=>True) (fun _=>[kM b l]):=by
 refine Fn.intro (N:=50) func193 rfl ntmps193 rfl fun F=>?_
 show aq _ _ _ _ _ _ [kM b l,F]
 refine J 13 ?_
 refine .g (.eS (Y.rem rfl rfl (by omega)) (w9 h0)) ?_
 refine JD 4 (fun h13=>?_) fun h13=>?_
 ·refine J 8 ?_
  refine .eO rfl rfl rfl fun w s=>⟨(),?_,trivial,aj .auto s⟩
  rw[tf h13];rfl
 ·refine J 4 ?_
  refine .o1 (C:=kM b l) .auto rfl ?_
  rintro v -
  obtain⟨hl1,hl2⟩:=hl
  have hm:h % 65536<65536:=by omega
  have ho:(hh:hN h<l.length)→l[hN h]?=some (jb l (hN h)):=getD_some
  refine J 1 ?_
  refine .p (.eS (Y.rem rfl rfl (by omega)) (w9 h0)) ?_
  refine .p (.gm underlying86 underlying3 rfl (by omega)) ?_
  refine .p (.eS (Y.sub rfl rfl (by omega)) (F2 h13)) ?_
  refine J 14 ?_
  apply aJ.fY 10 35 25 [25,26,27,28,29,30,31,32,33,34,35] rfl
  ·intro h25
   have hlt:hN h<l.length:=by omega
   refine J 5 ?_
   refine .g (.sJ (hN h) underlying151 sizeOf210 rfl rfl Rd.s rfl hlt) ?_
   refine J 1 ?_
   refine .g (.ld rfl (Cell.G0 Rd.s (ho (by omega)) (by rfl))) ?_
   exact JS 3
  ·intro h25
   exact JS 11
  refine J 1 ?_
  apply aJ.gM 12 48 36 [36,37,38,39,40,41,42,43,44,45,46,47,48] rfl
  ·intro h36
   simp only[Bool.or_eq_false_iff,decide_eq_false_iff_not] at h36
   have hlt:hN h<l.length:=by omega
   have hob:=hl2 _ (List.mem_of_getElem? (ho hlt))
   refine J 5 ?_
   refine .g (.sJ (hN h) underlying151 sizeOf210 rfl rfl Rd.s rfl hlt) ?_
   refine .g (.la rfl (Cells.rd Rd.s (ho (by omega)))) ?_
   refine J 1 ?_
   refine .cg call114 rfl (pR (o:=jb l (hN h)) (n:=hN h) (by omega) (by omega)) fun _ _=>?_
   exact JS 4
  ·intro h36
   exact JS 13
  refine JD 2 (fun h48=>?_) fun h48=>?_
  ·refine J 8 ?_
   refine .eO rfl rfl rfl fun w s=>⟨(),?_,trivial,aj .auto s⟩
   rw[find_eq h13,if_pos (by simpa using h48)];rfl
  ·refine J 10 ?_
   refine .eO rfl rfl rfl fun w s=>⟨(),?_,trivial,aj .auto s⟩
   rw[find_eq h13,if_neg (by simpa using h48)];rfl
theorem Cn{W:World}{b:Nat}{l:List (Bool×Int)}{h:Int}(hl:iq l)(h0:0≤h):Fn Tryz.prog W 171 [ptr b,.int .u64 h] [kM b l] Int (fun e=>.int .i64 e) (fun _=>True) (fun _=>[kM b (slotFreed l h)]):=by
 refine Fn.intro (N:=22) func171 rfl ntmps171 rfl fun F=>?_
 show aq _ _ _ _ _ _ [kM b l,F]
 refine J 9 ?_
 refine .c call193 rfl (tU hl h0) fun _ _=>?_
 refine JD 14 (fun h14=>?_) fun h14=>?_
 ·refine J 7 ?_
  rw[yZ (show bo l h=none from by cases e:bo l h with
   | none=>rfl
   | some n=>rw[e] at h14;cases h14)]
  refine .aP rfl rfl fun w s=>⟨3,?_,trivial,aj .auto s⟩
  rfl
 ·refine J 4 ?_
  refine .o1 (C:=kM b l) .auto rfl ?_
  rintro v -
  obtain⟨n,hn⟩:∃ n,bo l h=some n:=by cases e:bo l h with
   | none=>rw[e] at h14;cases h14
   | some n=>exact⟨n,rfl⟩
  obtain⟨hlt, -⟩:=AG hn
  have ho:l[n]?=some (jb l n):=getD_some hlt
  obtain⟨u,tk,hut⟩:∃ u tk,jb l n=(u,tk):=⟨_,_,rfl⟩
  rw[hut] at ho
  refine J 5 ?_
  refine .p (.sJ n underlying151 sizeOf210 rfl (by rw[hn];rfl) Rd.s rfl hlt) ?_
  refine J 1 ?_
  refine .ai rfl (ab.ew (x':=(false,tk)) rfl rfl sizeOf4 rfl ho (by decide) rfl .auto) ?_
  rintro _ _ ⟨rfl,rfl⟩
  refine J 8 ?_
  rw[rb hn,hut]
  refine .aP rfl rfl fun w s=>⟨0,?_,trivial,aj .auto s⟩
  rfl
theorem Jq{W:World}{A:aa}{x:eu}{c:Nat}{who:Int}:Fn Tryz.prog W 241 [.agg (cW x).toArray,ptr c] [seps [arr c 0 [.int .i64 who],A]] Unit (fun _=>.bool (decide (x.who=who))) (fun _=>True) (fun _=>[seps [arr c 0 [.int .i64 who],A]]):=by
 refine Fn.intro (N:=8) func241 rfl ntmps241 rfl fun F=>?_
 show aq _ _ _ _ _ _ [seps [arr c 0 [.int .i64 who],A],F]
 refine .dL .auto ?_
 refine J 2 ?_
 refine .ai rfl (ab.box rfl rfl rfl) ?_
 rintro _ _ ⟨b2,rfl,rfl⟩
 exact JR 13 ()
theorem vC{W:World}{A:aa}{b:Nat}{u:Value}{cs:List Value}{l:List eu}{who:Int}(hr:Rd W [A] cW 2 u l)(hl:l.length≤1000000):Fn Tryz.prog W 222 [ptr b,.int .i64 who] [arr b 0 (u::cs),A] Unit (fun _=>.bool (kJ l who)) (fun _=>True) (fun _=>[arr b 0 (u::cs),A]):=by
 refine Fn.intro (N:=11) func222 rfl ntmps222 rfl fun F=>?_
 show aq _ _ _ _ _ _ [arr b 0 (u::cs),A,F]
 refine J 2 ?_
 refine .ai rfl (ab.box rfl rfl rfl) ?_
 rintro _ _ ⟨b3,rfl,rfl⟩
 refine J 9 ?_
 refine .p (.makeFunc rfl rfl) ?_
 refine .c call240 rfl (sP (A:=seps [arr b3 0 [.int .i64 who],A]) (p:=fun w=>decide (w.who=who)) (Rd.et (Rd.at hr (.there .here))) (by omega) call241 (fun x _=>Jq)) fun _ _=>?_
 refine .dL .auto ?_
 exact JR 4 ()
theorem EV{W:World}{A:aa}{x:Value×ei}{c:Nat}{who:Int}(hr:Rd W [A] cW 2 x.1 x.2.wait)(hl:x.2.wait.length≤1000000):Fn Tryz.prog W 221 [.agg (kN x).toArray,ptr c] [seps [arr c 0 [.int .i64 who],A]] Unit (fun _=>.bool (kJ x.2.wait who)) (fun _=>True) (fun _=>[seps [arr c 0 [.int .i64 who],A]]):=by
 refine Fn.intro (N:=7) func221 rfl ntmps221 rfl fun F=>?_
 show aq _ _ _ _ _ _ [seps [arr c 0 [.int .i64 who],A],F]
 refine .dL .auto ?_
 refine J 2 ?_
 refine .ai rfl (ab.box rfl rfl rfl) ?_
 rintro _ _ ⟨b2,rfl,rfl⟩
 refine .mem (H':=[arr b2 0 (kN x),arr c 0 [.int .i64 who],A,F]) (fun w s=>s) ?_
 refine J 7 ?_
 refine .c call222 rfl (vC hr hl) fun _ _=>?_
 exact JR 4 ()
theorem EW{W:World}{A:aa}{x:Value×List eu}{c:Nat}{who:Int}(hr:Rd W [A] cW 2 x.1 x.2)(hl:x.2.length≤1000000):Fn Tryz.prog W 224 [.agg (dP x).toArray,ptr c] [seps [arr c 0 [.int .i64 who],A]] Unit (fun _=>.bool (kJ x.2 who)) (fun _=>True) (fun _=>[seps [arr c 0 [.int .i64 who],A]]):=by
 refine Fn.intro (N:=6) func224 rfl ntmps224 rfl fun F=>?_
 show aq _ _ _ _ _ _ [seps [arr c 0 [.int .i64 who],A],F]
 refine .dL .auto ?_
 refine J 2 ?_
 refine .ai rfl (ab.box rfl rfl rfl) ?_
 rintro _ _ ⟨b2,rfl,rfl⟩
 refine .mem (H':=[arr b2 0 (dP x),arr c 0 [.int .i64 who],A,F]) (fun w s=>s) ?_
 refine J 6 ?_
 refine .c call222 rfl (vC hr hl) fun _ _=>?_
 exact JR 4 ()
theorem EX{W:World}{A:aa}{x:Value×jR}{c:Nat}{who:Int}(hr:Rd W [A] cW 2 x.1 x.2.wait)(hl:x.2.wait.length≤1000000):Fn Tryz.prog W 226 [.agg (kY x).toArray,ptr c] [seps [arr c 0 [.int .i64 who],A]] Unit (fun _=>.bool (kJ x.2.wait who)) (fun _=>True) (fun _=>[seps [arr c 0 [.int .i64 who],A]]):=by
 refine Fn.intro (N:=7) func226 rfl ntmps226 rfl fun F=>?_
 show aq _ _ _ _ _ _ [seps [arr c 0 [.int .i64 who],A],F]
 refine .dL .auto ?_
 refine J 2 ?_
 refine .ai rfl (ab.box rfl rfl rfl) ?_
 rintro _ _ ⟨b2,rfl,rfl⟩
 refine .mem (H':=[arr b2 0 (kY x),arr c 0 [.int .i64 who],A,F]) (fun w s=>s) ?_
 refine J 7 ?_
 refine .c call222 rfl (vC hr hl) fun _ _=>?_
 exact JR 4 ()
theorem mT{W:World}{b:Nat}{g:Gates}{who:Int}{vm vc vs:Value}(hg:gd g):Fn Tryz.prog W 199 [ptr b,.int .i64 who] [arr b 0 [vm,vc,vs],dE vm g.cR,gK vc g.gp,eQ vs g.dU] Unit (fun _=>.bool (g.waits who)) (fun _=>True) (fun _=>[arr b 0 [vm,vc,vs],dE vm g.cR,gK vc g.gp,eQ vs g.dU]):=by
 refine Fn.intro (N:=27) func199 rfl ntmps199 rfl fun F=>?_
 show aq _ _ _ _ _ _ [arr b 0 [vm,vc,vs],dE vm g.cR,gK vc g.gp,eQ vs g.dU,F]
 refine .o1 (C:=dE vm g.cR) .auto rfl ?_
 rintro xm hxm
 refine .o1 (C:=gK vc g.gp) .auto rfl ?_
 rintro xc hxc
 refine .o1 (C:=eQ vs g.dU) .auto rfl ?_
 rintro xs hxs
 have hlm:=aE hxm
 have hlc:=aE hxc
 have hls:=aE hxs
 have hm2:∀ x∈xm,x.2.wait.length≤1000000:=fun x hx=>hg.mw _ (hxm ▸ List.mem_map_of_mem hx)
 have hc2:∀ x∈xc,x.2.length≤1000000:=fun x hx=>hg.cw _ (hxc ▸ List.mem_map_of_mem hx)
 have hs2:∀ x∈xs,x.2.wait.length≤1000000:=fun x hx=>hg.sw _ (hxs ▸ List.mem_map_of_mem hx)
 obtain⟨hg1,hg2,hg3, -, -, -⟩:=hg
 refine J 2 ?_
 refine .ai rfl (ab.box rfl rfl rfl) ?_
 rintro _ _ ⟨b3,rfl,rfl⟩
 refine J 9 ?_
 refine .p (.makeFunc rfl rfl) ?_
 refine .c call220 rfl (sS (A:=seps [arr b3 0 [.int .i64 who],seps [sl kN 3 vm xm,aO (fun x=>sl cW 2 x.1 x.2.wait) xm]]) (p:=fun x=>kJ x.2.wait who) (Rd.et (Rd.at (Rd.et (Rd.sl .here)) (.there .here))) (by omega) call221 (fun x hx=>EV (Rd.et (uR (f:=fun x:Value×ei=>x.1) (g:=fun x=>x.2.wait) hx (.there .here))) (hm2 x hx))) fun _ _=>?_
 refine .dL .auto ?_
 refine .dL .auto ?_
 refine J 1 ?_
 apply aJ.gM 7 18 11 [11,12,13,14,15,16,17,18] rfl
 ·intro h11
  refine J 4 ?_
  refine .g (.makeFunc rfl rfl) ?_
  refine .cg call223 rfl (sT (A:=seps [arr b3 0 [.int .i64 who],seps [sl dP 1 vc xc,aO (fun x=>sl cW 2 x.1 x.2) xc]]) (p:=fun x=>kJ x.2 who) (Rd.et (Rd.at (Rd.et (Rd.sl .here)) (.there .here))) (by omega) call224 (fun x hx=>EW (Rd.et (uR (f:=fun x:Value×List eu=>x.1) (g:=fun x=>x.2) hx (.there .here))) (hc2 x hx))) fun _ _=>?_
  refine .dL .auto ?_
  refine .dL .auto ?_
  exact JS 2
 ·intro h11
  exact JS 8
 refine J 1 ?_
 apply aJ.gM 7 26 19 [19,20,21,22,23,24,25,26] rfl
 ·intro h19
  refine J 4 ?_
  refine .g (.makeFunc rfl rfl) ?_
  refine .cg call225 rfl (sU (A:=seps [arr b3 0 [.int .i64 who],seps [sl kY 2 vs xs,aO (fun x=>sl cW 2 x.1 x.2.wait) xs]]) (p:=fun x=>kJ x.2.wait who) (Rd.et (Rd.at (Rd.et (Rd.sl .here)) (.there .here))) (by omega) call226 (fun x hx=>EX (Rd.et (uR (f:=fun x:Value×jR=>x.1) (g:=fun x=>x.2.wait) hx (.there .here))) (hs2 x hx))) fun _ _=>?_
  refine .dL .auto ?_
  refine .dL .auto ?_
  exact JS 2
 ·intro h19
  exact JS 8
 refine J 4 ?_
 refine .aP rfl rfl fun w s=>⟨(),?_,trivial,aj .auto s⟩
 exact HB (DQ hxm hxc hxs)
theorem kv{W:World}{b:Nat}{l:List (ei)}{m:Int}{vm vc vs:Value}:Fn Tryz.prog W 198 [ptr b,.int .i64 m] [arr b 0 [vm,vc,vs],dE vm l] Unit (fun _=>G4 vm l.length 3 m) (fun _=>True) (fun _=>[arr b 0 [vm,vc,vs],dE vm l]):=by
 refine Fn.intro (N:=26) func198 rfl ntmps198 rfl fun F=>?_
 show aq _ _ _ _ _ _ [arr b 0 [vm,vc,vs],dE vm l,F]
 refine .o1 (C:=dE vm l) .auto rfl ?_
 rintro xs hxs
 have hl:=aE hxs
 refine J 15 ?_
 apply aJ.fY 8 19 11 [11,12,13,14,15,16,17,18,19] rfl
 ·intro h11
  exact JS 9
 ·intro h11
  exact JS 9
 refine JD 2 (fun h19=>?_) fun h19=>?_
 ·simp only[Bool.or_eq_true,decide_eq_true_eq] at h19
  refine J 7 ?_
  refine .aP rfl rfl fun w s=>⟨(),?_,trivial,aj .auto s⟩
  rw[qm (by omega)]
 ·simp only[Bool.or_eq_false_iff,decide_eq_false_iff_not] at h19
  refine J 9 ?_
  refine .p (.ix m.toNat rfl rfl (by omega) (by omega)) ?_
  refine J 4 ?_
  refine .aP rfl rfl fun w s=>⟨(),?_,trivial,aj .auto s⟩
  rw[eB (by omega)]
theorem tV{W:World}{b:Nat}{l:List (List eu)}{m:Int}{vm vc vs:Value}:Fn Tryz.prog W 181 [ptr b,.int .i64 m] [arr b 0 [vm,vc,vs],gK vc l] Unit (fun _=>G4 vc l.length 1 m) (fun _=>True) (fun _=>[arr b 0 [vm,vc,vs],gK vc l]):=by
 refine Fn.intro (N:=26) func181 rfl ntmps181 rfl fun F=>?_
 show aq _ _ _ _ _ _ [arr b 0 [vm,vc,vs],gK vc l,F]
 refine .o1 (C:=gK vc l) .auto rfl ?_
 rintro xs hxs
 have hl:=aE hxs
 refine J 15 ?_
 apply aJ.fY 8 19 11 [11,12,13,14,15,16,17,18,19] rfl
 ·intro h11
  exact JS 9
 ·intro h11
  exact JS 9
 refine JD 2 (fun h19=>?_) fun h19=>?_
 ·simp only[Bool.or_eq_true,decide_eq_true_eq] at h19
  refine J 7 ?_
  refine .aP rfl rfl fun w s=>⟨(),?_,trivial,aj .auto s⟩
  rw[qm (by omega)]
 ·simp only[Bool.or_eq_false_iff,decide_eq_false_iff_not] at h19
  refine J 9 ?_
  refine .p (.ix m.toNat rfl rfl (by omega) (by omega)) ?_
  refine J 4 ?_
  refine .aP rfl rfl fun w s=>⟨(),?_,trivial,aj .auto s⟩
  rw[eB (by omega)]
theorem xP{W:World}{b:Nat}{l:List (jR)}{m:Int}{vm vc vs:Value}:Fn Tryz.prog W 205 [ptr b,.int .i64 m] [arr b 0 [vm,vc,vs],eQ vs l] Unit (fun _=>G4 vs l.length 2 m) (fun _=>True) (fun _=>[arr b 0 [vm,vc,vs],eQ vs l]):=by
 refine Fn.intro (N:=26) func205 rfl ntmps205 rfl fun F=>?_
 show aq _ _ _ _ _ _ [arr b 0 [vm,vc,vs],eQ vs l,F]
 refine .o1 (C:=eQ vs l) .auto rfl ?_
 rintro xs hxs
 have hl:=aE hxs
 refine J 15 ?_
 apply aJ.fY 8 19 11 [11,12,13,14,15,16,17,18,19] rfl
 ·intro h11
  exact JS 9
 ·intro h11
  exact JS 9
 refine JD 2 (fun h19=>?_) fun h19=>?_
 ·simp only[Bool.or_eq_true,decide_eq_true_eq] at h19
  refine J 7 ?_
  refine .aP rfl rfl fun w s=>⟨(),?_,trivial,aj .auto s⟩
  rw[qm (by omega)]
 ·simp only[Bool.or_eq_false_iff,decide_eq_false_iff_not] at h19
  refine J 9 ?_
  refine .p (.ix m.toNat rfl rfl (by omega) (by omega)) ?_
  refine J 4 ?_
  refine .aP rfl rfl fun w s=>⟨(),?_,trivial,aj .auto s⟩
  rw[eB (by omega)]
theorem vD{W:World}{b o:Nat}{l:List eu}{x:eu}(hl:l.length≤100000000):Fn Tryz.prog W 202 [.pointer (some ⟨b,o,none⟩),.agg (cW x).toArray] [gT b o l] Unit (fun _=>.tuple #[]) (fun _=>True) (fun _=>[gT b o (l++[x])]):=by
 refine Fn.intro (N:=14) func202 rfl ntmps202 rfl fun F=>?_
 show aq _ _ _ _ _ _ [gT b o l,F]
 refine .o1 (C:=gT b o l) .auto rfl ?_
 rintro v -
 refine J 2 ?_
 refine .ai rfl (ab.box rfl rfl rfl) ?_
 rintro _ _ ⟨b3,rfl,rfl⟩
 refine .mem (H':=[arr b3 0 (cW x),arr b o [v],sl cW 2 v l,F]) (fun w s=>s) ?_
 refine J 2 ?_
 refine .draw [arr b o [v]] [0,0,0,0,0,1,2,2,1,1,3] rfl (by kernel_rfl) ?_
 refine J 6 ?_
 refine .d2 rfl Kept.auto (ab.fG 274 rfl rfl (by kernel_rfl)) (by rintro _ _ ⟨b10,rfl,rfl⟩;exact Kept.auto) ?_
 rintro _ _ ⟨b10,rfl,rfl⟩
 refine .mem (H':=[arr b10 0 (cW x),arr b3 0 (cW x),arr b o [v],sl cW 2 v l,F]) (fun w s=>s) ?_
 refine .d2 rfl Kept.auto (ab.gv (enc:=cW) (k:=2) x rfl underlying160 underlying160 typeInfo274 rfl rfl rfl (by decide) rfl rfl rfl .auto rfl .auto (by omega) rfl) (by rintro _ _ ⟨v11,rfl,rfl⟩;exact Kept.auto) ?_
 rintro _ _ ⟨v11,rfl,rfl⟩
 refine J 2 ?_
 refine .d3 rfl (ab.IU sizeOf160 rfl rfl rfl) ?_
 rintro _ _ ⟨rfl,rfl⟩
 exact JR 1 ()
theorem rT{W:World}{b o:Nat}{l:List eu}{c:Int}(hl:l.length≤1000000):Fn Tryz.prog W 182 [.pointer (some ⟨b,o,none⟩),.int .i64 c] [gT b o l] Unit (fun _=>.tuple #[.agg (cW (aI l c).1).toArray,.bool (aI l c).2.1]) (fun _=>True) (fun _=>[gT b o (aI l c).2.2]):=by
 refine Fn.intro (N:=43) func182 rfl ntmps182 rfl fun F=>?_
 show aq _ _ _ _ _ _ [gT b o l,F]
 refine .o1 (C:=gT b o l) .auto rfl ?_
 rintro v -
 refine J 2 ?_
 refine .ai rfl (ab.alloc rfl zeroValue274 rfl) ?_
 rintro _ _ ⟨b4,rfl,rfl⟩
 refine JD 20 (fun h15=>?_) fun h15=>?_
 ·refine J 2 ?_
  refine .p (.l9 ([(.int .i64 0),(.int .i64 0)]) (by kernel_rfl)) ?_
  refine J 6 ?_
  rw[uS (show l.length=0 by omega)]
  refine .fk rfl rfl isAgg274 (by exact sizeOf274) Cells.a rfl fun w s=>⟨(),?_,trivial,aj .auto s⟩
  rfl
 ·refine J 4 ?_
  have hpk:pick c l.length<l.length:=nA (by omega)
  refine J 2 ?_
  refine .p (.rem rfl rfl (by omega)) ?_
  refine J 1 ?_
  refine .p (.add rfl rfl (F3 (by omega) (by omega))) ?_
  refine J 1 ?_
  refine .p (.eS (Y.rem rfl rfl (by omega)) (q6 (by omega))) ?_
  refine J 10 ?_
  refine .p (.sJ (pick c l.length) underlying160 sizeOf274 rfl rfl Rd.s rfl hpk) ?_
  refine .p (.la rfl (Cells.rd Rd.s (getD_some (d:=⟨0,0⟩) hpk))) ?_
  refine .ai rfl (ab.alloc rfl zeroValue274 rfl) ?_
  rintro _ _ ⟨b8,rfl,rfl⟩
  refine J 13 ?_
  refine .c call203 rfl (Gy hpk (by omega)) fun u39 _=>?_
  refine J 2 ?_
  refine .ai rfl (ab.IU sizeOf160 rfl rfl rfl) ?_
  rintro _ _ ⟨rfl,rfl⟩
  refine J 10 ?_
  rw[ql (show ¬l.length=0 by omega)]
  refine .fk rfl rfl isAgg274 (by exact sizeOf274) Cells.a rfl fun w s=>⟨(),?_,trivial,aj .auto s⟩
  rfl
theorem rU{W:World}{b o:Nat}{m:ei}{who:Int}:Fn Tryz.prog W 200 [.pointer (some ⟨b,o,none⟩),.int .i64 who] [dG b o m] Unit (fun _=>.bool (m.is who)) (fun _=>True) (fun _=>[dG b o m]):=by
 refine Fn.intro (N:=17) func200 rfl ntmps200 rfl fun F=>?_
 show aq _ _ _ _ _ _ [dG b o m,F]
 refine .o1 (C:=dG b o m) .auto rfl ?_
 rintro u -
 refine J 12 ?_
 apply aJ.gj 7 16 9 [9,10,11,12,13,14,15,16] rfl
 ·intro h9
  exact JS 8
 ·intro h9
  exact JS 8
 exact JR 4 ()
theorem rV{W:World}{b o:Nat}{m:ei}{who:Int}(hl:m.wait.length≤100000000):Fn Tryz.prog W 183 [.pointer (some ⟨b,o,none⟩),.int .i64 who] [dG b o m] Unit (fun _=>.bool (m.lock who).1) (fun _=>True) (fun _=>[dG b o (m.lock who).2]):=by
 refine Fn.intro (N:=22) func183 rfl ntmps183 rfl fun F=>?_
 show aq _ _ _ _ _ _ [dG b o m,F]
 refine .o1 (C:=dG b o m) .auto rfl ?_
 rintro u -
 refine JD 14 (fun h8=>?_) fun h8=>?_
 ·refine J 6 ?_
  refine .p (.iK (fun v1=>[v1,(.int .i64 0)]) rfl (by kernel_rfl)) ?_
  refine .fr .auto (nF (b:=b) (o:=o) (u:=u)) ?_
  refine .c call202 rfl (vD (x:=⟨who,0⟩) hl) fun _ _=>?_
  refine J 9 ?_
  rw[uT h8]
  refine .to (A:=dG b o {m with wait:=m.wait++[⟨who,0⟩] }) (Bs:=[gT b o (m.wait++[⟨who,0⟩]),arr b (o+1) [.bool m.held,.int .i64 m.owner]]) .auto (AF (m:={m with wait:=m.wait++[⟨who,0⟩] })) ?_
  exact JR 0 ()
 ·refine J 9 ?_
  refine .ai rfl (ab.JC sizeOf4 rfl rfl rfl rfl) ?_
  rintro _ _ ⟨rfl,rfl⟩
  refine J 2 ?_
  refine .ai rfl (ab.JC sizeOf3 rfl rfl rfl rfl) ?_
  rintro _ _ ⟨rfl,rfl⟩
  refine J 8 ?_
  rw[uU h8]
  exact JR 0 ()
theorem oc{W:World}{b o:Nat}{m:ei}{c:Int}(hl:m.wait.length≤1000000):Fn Tryz.prog W 201 [.pointer (some ⟨b,o,none⟩),.int .i64 c] [dG b o m] Unit (fun _=>.tuple #[.int .i64 (m.unlock c).1,.bool (m.unlock c).2.1]) (fun _=>True) (fun _=>[dG b o (m.unlock c).2.2]):=by
 refine Fn.intro (N:=28) func201 rfl ntmps201 rfl fun F=>?_
 show aq _ _ _ _ _ _ [dG b o m,F]
 refine .o1 (C:=dG b o m) .auto rfl ?_
 rintro u -
 refine J 12 ?_
 refine .fr .auto (nF (b:=b) (o:=o) (u:=u)) ?_
 refine .c call182 rfl (rT hl) fun _ _=>?_
 refine J 3 ?_
 refine .ai rfl (ab.alloc rfl zeroValue274 rfl) ?_
 rintro _ _ ⟨b6,rfl,rfl⟩
 refine J 5 ?_
 refine .draw [arr b6 0 (cW (aI m.wait c).1)] [1,0,1,0,0,1,1,2,1,1,3] rfl (by kernel_rfl) ?_
 refine J 7 ?_
 refine .d2 rfl Kept.auto (ab.JK sizeOf4 rfl rfl rfl rfl) (by rintro _ _ ⟨rfl,rfl⟩;exact Kept.auto) ?_
 rintro _ _ ⟨rfl,rfl⟩
 refine J 2 ?_
 refine .d3 rfl (ab.JC (i:=1) sizeOf3 rfl rfl rfl rfl) ?_
 rintro _ _ ⟨rfl,rfl⟩
 refine J 12 ?_
 refine .to (A:=dG b o (m.unlock c).2.2) (Bs:=[gT b o (aI m.wait c).2.2,arr b (o+1) [.bool (aI m.wait c).2.1,.int .i64 (aI m.wait c).1.who]]) .auto (AF (m:=(m.unlock c).2.2)) ?_
 exact JR 0 ()
end Go.SLYthncobnjdhjnoaaGreat
namespace Go.SLYthncobnjdhjnoaaGreat
open Go Go.RowKit Go.Proofs Go.Proofs.Tryz
attribute [local irreducible] aq aJ ba bq bu Y
theorem Bb{W:World}{b:Nat}{ps:List (Option Nat)}{s:Spc}{n:Int}:Fn Tryz.prog W 121 [ptr b,.int .i64 n] [cn b ps s] Unit (fun _=>dN (zf ps n)) (fun _=>True) (fun _=>[cn b ps s]):=by
 refine Fn.intro (N:=21) func121 rfl ntmps121 rfl fun F=>?_
 show aq _ _ _ _ _ _ [cn b ps s,F]
 refine .iQ (C:=cn b ps s) .auto rfl ?_
 rintro fv sv pv bt vm bg vt bk bw vr -
 refine J 15 ?_
 apply aJ.fY 3 14 11 [11,12,13,14] rfl
 ·intro h11
  exact JS 4
 ·intro h11
  exact JS 4
 refine JD 2 (fun h14=>?_) fun h14=>?_
 ·simp only[Bool.or_eq_true,decide_eq_true_eq] at h14
  refine J 7 ?_
  refine .aP rfl rfl fun w s=>⟨(),?_,trivial,aj .auto s⟩
  rw[zf,if_neg (by omega)];rfl
 ·simp only[Bool.or_eq_false_iff,decide_eq_false_iff_not] at h14
  refine J 8 ?_
  refine .p (.dh n.toNat underlying107 sizeOf106 rfl rfl (by omega) (by omega)) ?_
  refine .p (.ld rfl (Cell.a (by rw[Nat.mul_one];exact ej (by omega)))) ?_
  refine J 4 ?_
  refine .aP rfl rfl fun w s=>⟨(),?_,trivial,aj .auto s⟩
  rw[zf,if_pos (by omega)]
theorem lZ{W:World}{b p:Nat}{ps:List (Option Nat)}{s:Spc}{n:Nat}{t:bA}(hp:ps[n]?=some (some p))(ht:s.aA[n]?=some (some t))(hl:s.aA.length=16)(hpl:ps.length=16)(hT:iq s.table)(hh:0≤t.handle):Fn Tryz.prog W 151 [ptr b,.int .i64 (n:Int)] [cn b ps s] Unit (fun _=>.tuple #[]) (fun _=>True) (fun _=>[cn b (ps.set n none) (s.free n)]):=by
 refine Fn.intro (N:=23) func151 rfl ntmps151 rfl fun F=>?_
 show aq _ _ _ _ _ _ [cn b ps s,F]
 refine .iQ (C:=cn b ps s) .auto rfl ?_
 rintro fv sv pv bt vm bg vt bk bw vr -
 have hn16:n<16:=hl ▸ (List.getElem?_eq_some_iff.1 ht).1
 refine .fr .auto (bN hp ht) ?_
 refine J 1 ?_
 refine .draw [arr b 0 (eR fv sv pv s.eE bt ps vm bg vt bk bw vr),arr p 0 (bb t)] [1,1,1,1,1,1,1,1,1,1,1,1,1,3] rfl (by kernel_rfl) ?_
 refine J 8 ?_
 refine .p (.dh n underlying107 sizeOf106 rfl rfl rfl hn16) ?_
 refine .p (.ld rfl (Cell.a (by rw[Nat.mul_one,ej hn16,bx hp]))) ?_
 refine J 3 ?_
 refine .c call171 rfl (Cn hT hh) fun e _=>?_
 refine J 7 ?_
 refine .p (.dh n underlying107 sizeOf106 rfl rfl rfl hn16) ?_
 refine .ai rfl (ab.st sizeOf106 rfl rfl rfl (Nat.blt_eq.mpr (by show 9+n * 1<31;omega))) ?_
 rintro _ _ ⟨rfl,rfl⟩
 rw[Nat.mul_one,show Value.pointer none=dN none from rfl,wL hn16 hpl]
 refine J 1 ?_
 rw[show s.free n = {s with table:=slotFreed s.table t.handle,aA:=s.aA.set n none } from by unfold Spc.free;rw[dC ht]]
 exact JR 0 ()
theorem iD{W:World}{bd b p:Nat}{ps:List (Option Nat)}{d:Dng}{t:bA}(hp:ps[d.n]?=some (some p))(ht:d.s.aA[d.n]?=some (some t)){x y e:Int}{fin:Bool}(hr:d.s.aB.length≤100000000):Fn Tryz.prog W 133 [ptr bd,.int .u64 x,.int .u64 y,.int .i64 e,.bool fin] [bc bd b p ps d] Unit (fun _=>.tuple #[]) (fun _=>True) (fun _=>[bc bd b p ps (d.tell x y e fin)]):=by
 refine Fn.intro (N:=42) func133 rfl ntmps133 rfl fun F=>?_
 show aq _ _ _ _ _ _ [bc bd b p ps d,F]
 refine .o2 (C:=bc bd b p ps d) .auto rfl ?_
 rintro vw ve -
 refine .iQ (C:=cn b ps d.s) .auto rfl ?_
 rintro fv sv pv bt vm bg vt bk bw vr -
 refine .fr .auto (bN hp ht) ?_
 refine .draw [arr bd 0 (dH b p d vw ve),arr b 0 (eR fv sv pv d.s.eE bt ps vm bg vt bk bw vr),arr p 0 (bb t)] [0,0,0,0,0,0,0,0,0,0,0,1,1,1,1,1,1,1,1,1,1,1,1,1,1,1,1,1,2,2,1,1,3] rfl (by kernel_rfl) ?_
 refine J 27 ?_
 refine .p (.IQ (fun v1 v2 v3 v4 v5 v6=>[v1,v2,v3,v4,v5,v6]) rfl rfl rfl rfl rfl rfl (by kernel_rfl)) ?_
 refine .d2 rfl Kept.auto (ab.fG 104 rfl rfl (by kernel_rfl)) (by rintro _ _ ⟨b38,rfl,rfl⟩;exact Kept.auto) ?_
 rintro _ _ ⟨b38,rfl,rfl⟩
 refine .d2 rfl Kept.auto (ab.gv (enc:=jm) (k:=6) (⟨t.handle,d.i.op,x,y,e,fin⟩:Rec) rfl underlying53 underlying53 typeInfo104 rfl rfl rfl (by decide) rfl rfl rfl .auto rfl .auto (by omega) rfl) (by rintro _ _ ⟨v39,rfl,rfl⟩;exact Kept.auto) ?_
 rintro _ _ ⟨v39,rfl,rfl⟩
 refine J 2 ?_
 refine .d3 rfl (ab.ng sizeOf53 rfl rfl rfl) ?_
 rintro _ _ ⟨rfl,rfl⟩
 rw[rk]
 refine J 1 ?_
 refine .to (A:=ax ps d.s.aA) (Bs:=[arr p 0 (bb t),ax (ps.set d.n none) (d.s.aA.set d.n none)]) .auto (bH hp ht) ?_
 rw[show d.tell x y e fin = {d with s:=d.s.tell ⟨t.handle,d.i.op,x,y,e,fin⟩ } from by unfold Dng.tell;rw[cP ht]]
 exact JR 0 ()
theorem cc{W:World}{bd b p:Nat}{ps:List (Option Nat)}{d:Dng}{t:bA}(hp:ps[d.n]?=some (some p))(ht:d.s.aA[d.n]?=some (some t)){x y e:Int}(hr:d.s.aB.length≤100000000)(he:0≤e∧e≤11)(hl:t.aD.length=8):Fn Tryz.prog W 155 [ptr bd,.int .u64 x,.int .u64 y,.int .i64 e] [bc bd b p ps d] Unit (fun _=>.tuple #[]) (fun _=>True) (fun _=>[bc bd b p ps (d.pass x y e)]):=by
 refine Fn.intro (N:=23) func155 rfl ntmps155 rfl fun F=>?_
 show aq _ _ _ _ _ _ [bc bd b p ps d,F]
 refine J 6 ?_
 refine .c call133 rfl (iD hp ht hr) fun _ _=>?_
 refine J 3 ?_
 have ht2:(d.tell x y e true).s.aA[d.n]?=some (some t):=ht
 refine .o2 (C:=bc bd b p ps (d.tell x y e true)) .auto rfl ?_
 rintro vw ve -
 refine .iQ (C:=cn b ps (d.tell x y e true).s) .auto rfl ?_
 rintro fv sv pv bt vm bg vt bk bw vr -
 refine .fr .auto (bN hp ht2) ?_
 refine J 3 ?_
 refine .p (.ld rfl (Cell.a (cs:=dH b p (d.tell x y e true) vw ve) rfl)) ?_
 refine J 1 ?_
 refine .p (.qJ underlying25 underlying86 rfl (by omega)) ?_
 refine J 3 ?_
 refine .p (.dh 7 underlying139 sizeOf86 rfl rfl (by omega) (by omega)) ?_
 refine J 1 ?_
 rw[qp (n:=7) e (by decide) hl]
 refine J 1 ?_
 refine .to (A:=ax ps (d.s.aA.set d.n (some (t.put 7 e)))) (Bs:=[arr p 0 (bb (t.put 7 e)),ax (ps.set d.n none) ((d.tell x y e true).s.aA.set d.n none)]) .auto (cq (List.getElem?_eq_some_iff.1 ht).1 hp) ?_
 rw[show d.pass x y e=(d.tell x y e true).aT (t.put 7 e) from by unfold Dng.pass;rw[cP ht]]
 exact JR 0 ()
theorem fP{W:World}{bd b p:Nat}{ps:List (Option Nat)}{d:Dng}{t:bA}(hp:ps[d.n]?=some (some p))(ht:d.s.aA[d.n]?=some (some t)){cE bR x y:Int}(hr:d.s.aB.length≤100000000):Fn Tryz.prog W 176 [ptr bd,.int .i64 cE,.int .i64 bR,.int .u64 x,.int .u64 y] [bc bd b p ps d] Unit (fun _=>.tuple #[]) (fun _=>True) (fun _=>[bc bd b p ps (d.block cE bR x y)]):=by
 refine Fn.intro (N:=43) func176 rfl ntmps176 rfl fun F=>?_
 show aq _ _ _ _ _ _ [bc bd b p ps d,F]
 refine J 5 ?_
 refine .c call133 rfl (iD hp ht hr) fun _ _=>?_
 refine J 3 ?_
 have ht2:(d.tell x y 0 false).s.aA[d.n]?=some (some t):=ht
 refine .o2 (C:=bc bd b p ps (d.tell x y 0 false)) .auto rfl ?_
 rintro vw ve -
 refine .iQ (C:=cn b ps (d.tell x y 0 false).s) .auto rfl ?_
 rintro fv sv pv bt vm bg vt bk bw vr -
 refine .fr .auto (bN hp ht2) ?_
 refine .draw [arr bd 0 (dH b p (d.tell x y 0 false) vw ve)] [1,1,1,1,1,1,1,1,1,1,1,1,1,1,1,1,1,1,0,1,1,2,1,1,2,1,1,3] rfl (by kernel_rfl) ?_
 have ht2:(d.tell x y 0 false).s.aA[d.n]?=some (some t):=ht
 refine J 22 ?_
 rw[nO]
 refine J 3 ?_
 rw[HV]
 refine J 3 ?_
 rw[rj]
 refine J 9 ?_
 refine .to (A:=ax ps (d.s.aA.set d.n (some {t with cE:=cE,op:=d.i.op,bR:=bR }))) (Bs:=[arr p 0 (bb {t with cE:=cE,op:=d.i.op,bR:=bR }),ax (ps.set d.n none) ((d.tell x y 0 false).s.aA.set d.n none)]) .auto (cq (List.getElem?_eq_some_iff.1 ht).1 hp) ?_
 rw[show d.block cE bR x y = {(d.tell x y 0 false).aT {t with cE:=cE,op:=d.i.op,bR:=bR } with out:={d.out with aK:=true } } from by unfold Dng.block;rw[cP ht]]
 exact JR 0 ()
theorem EY{W:World}{b p:Nat}{ps:List (Option Nat)}{s:Spc}{n:Nat}{t:bA}(hp:ps[n]?=some (some p))(ht:s.aA[n]?=some (some t))(hn16:n<16)(hR:gk t){y:Int}:Fn Tryz.prog W 77 [ptr b,.int .i64 (n:Int),.int .u64 y] [cn b ps s] Unit (fun _=>.agg (jm (t.jA y)).toArray) (fun _=>True) (fun _=>[cn b ps (s.dx n y)]):=by
 refine Fn.intro (N:=50) func77 rfl ntmps77 rfl fun F=>?_
 show aq _ _ _ _ _ _ [cn b ps s,F]
 refine .iQ (C:=cn b ps s) .auto rfl ?_
 rintro fv sv pv bt vm bg vt bk bw vr -
 refine .fr .auto (bN hp ht) ?_
 have hRl:=hR.l
 have hRi:=hR.i
 refine J 2 ?_
 refine .ai rfl (ab.alloc rfl zeroValue104 rfl) ?_
 rintro _ _ ⟨b6,rfl,rfl⟩
 refine J 8 ?_
 refine .p (.dh n underlying107 sizeOf106 rfl rfl rfl hn16) ?_
 refine .p (.ld rfl (Cell.a (by rw[Nat.mul_one,ej hn16,bx hp]))) ?_
 refine J 3 ?_
 refine .yD (X:=Unit) [2,14,15,16,17,18,19,20,21,22,23,24,25,26,27,28] (fun _=>True) (fun _=>[(2,some (.int .u64 (if t.bR = -1 then 0 else y)))]) (fun _=>[arr p 0 (bb (if t.bR = -1 then t else t.put t.bR y)),ax (ps.set n none) (s.aA.set n none),arr b6 0 [.int .u64 0,.int .i64 0,.int .u64 0,.int .u64 0,.int .i64 0,.bool false],arr b 0 (eR fv sv pv s.eE bt ps vm bg vt bk bw vr),wC fv s.eE.funcs,kM bt s.table,sl ey 1 vm s.mem,cf bg s.ak,ns vt s.bV,sL bk s.cu,my bw s.aM,sl jm 6 vr s.aB,F]) ?_ ?_
 ·refine JD 9 (fun h18=>?_) fun h18=>?_
  ·refine .draw [arr p 0 (bb t)] [1,1,1,1,1,1,1,1,1,1,3] rfl (by kernel_rfl) ?_
   refine J 9 ?_
   refine .p (.dh t.bR.toNat underlying139 sizeOf86 rfl rfl (by omega) (by omega)) ?_
   refine .d3 rfl (ab.st sizeOf86 rfl rfl rfl (Nat.blt_eq.mpr (by show 2+t.bR.toNat * 1<18;omega))) ?_
   rintro _ _ ⟨rfl,rfl⟩
   rw[iB y (by omega) (by omega) hRl]
   refine J 1 ?_
   refine .hP () .auto ?_ ?_ ?_
   ·trivial
   ·rw[if_neg (by omega)];exact⟨rfl,trivial⟩
   ·rw[if_neg (by omega)];exact fun w s=>au.kept .auto w s
  ·refine J 3 ?_
   refine .hP () .auto ?_ ?_ ?_
   ·trivial
   ·rw[if_pos (by omega)];exact⟨rfl,trivial⟩
   ·rw[if_pos (by omega)];exact fun w s=>au.kept .auto w s
 ·rintro⟨⟩ -
  obtain⟨y1,hy1⟩:∃ y1,y1=(if t.bR = -1 then 0 else y):=⟨_,rfl⟩
  obtain⟨t1,h1⟩:∃ t1,t1=(if t.bR = -1 then t else t.put t.bR y):=⟨_,rfl⟩
  have h1l:t1.aD.length=8:=by
   rw[h1]
   split
   ·exact hRl
   ·rw[iR];exact hRl
  have h1h:t1.handle=t.handle∧t1.op=t.op:=by
   rw[h1]
   split <;> exact⟨rfl,rfl⟩
  rw[← hy1, ← h1]
  refine J 6 ?_
  refine .p (.dh 7 underlying139 sizeOf86 rfl rfl (by omega) (by omega)) ?_
  refine J 1 ?_
  rw[qp (n:=7) 0 (by decide) h1l]
  refine J 9 ?_
  rw[nO]
  refine J 3 ?_
  rw[rj]
  refine J 3 ?_
  refine .draw [arr p 0 (bb {t1.put 7 0 with cE:=0,bR := -1 })] [1,1,1,1,1,1,1,1,1,1,3] rfl (by kernel_rfl) ?_
  refine J 9 ?_
  refine .p (.FJ (fun v1 v2 v3 v4=>[v1,v2,(.int .u64 0),v3,(.int .i64 0),v4]) rfl rfl rfl rfl (by kernel_rfl)) ?_
  refine .d3 rfl (ab.gC (by exact sizeOf104) rfl rfl rfl (by rfl)) ?_
  rintro _ _ ⟨rfl,rfl⟩
  refine J 3 ?_
  refine .to (A:=ax ps (s.aA.set n (some ({t1.put 7 0 with cE:=0,bR := -1 })))) (Bs:=[arr p 0 (bb ({t1.put 7 0 with cE:=0,bR := -1 })),ax (ps.set n none) (s.aA.set n none)]) .auto (cq (List.getElem?_eq_some_iff.1 ht).1 hp) ?_
  rw[show s.dx n y=s.aT n {t1.put 7 0 with cE:=0,bR := -1 } from by unfold Spc.dx;rw[dC ht,AO t1 h1]]
  refine .dt rfl rfl isAgg104 (by exact sizeOf104) Cells.a fun w s=>⟨(),?_,trivial,aj .auto s⟩
  show Ending.returned (Value.agg #[.int .u64 t1.handle,.int .i64 t1.op,.int .u64 0,.int .u64 y1,.int .i64 0,.bool true])=_;rw[h1h.1,h1h.2,hy1];rfl
theorem EZ{W:World}{bd b p q:Nat}{ps:List (Option Nat)}{d:Dng}{t:bA}{n:Nat}(hp:ps[n]?=some (some q))(ht:d.s.aA[n]?=some (some t))(hn16:n<16)(hR:gk t)(he:d.ends.length≤1000000)(hw:d.out.aw.length≤1000000){y:Int}:Fn Tryz.prog W 152 [ptr bd,.int .i64 (n:Int),.int .u64 y] [bc bd b p ps d] Unit (fun _=>.tuple #[]) (fun _=>True) (fun _=>[bc bd b p ps (d.cB n y)]):=by
 refine Fn.intro (N:=34) func152 rfl ntmps152 rfl fun F=>?_
 show aq _ _ _ _ _ _ [bc bd b p ps d,F]
 refine .o2 (C:=bc bd b p ps d) .auto rfl ?_
 rintro vw ve -
 refine J 1 ?_
 refine .draw [arr bd 0 (dH b p d vw ve)] [0,0,0,0,0,1,1,1,1,1,1,2,2,2,1,1,3] rfl (by kernel_rfl) ?_
 refine J 11 ?_
 refine .c2 call77 rfl (EY hp ht hn16 hR) fun _ _=>?_
 refine .d2 rfl Kept.auto (ab.fG 104 rfl rfl (by kernel_rfl)) (by rintro _ _ ⟨b18,rfl,rfl⟩;exact Kept.auto) ?_
 rintro _ _ ⟨b18,rfl,rfl⟩
 refine .d2 rfl Kept.auto (ab.gv (enc:=jm) (k:=6) (t.jA y) rfl underlying53 underlying53 typeInfo104 rfl rfl rfl (by decide) rfl rfl rfl .auto rfl .auto (by omega) rfl) (by rintro _ _ ⟨v19,rfl,rfl⟩;exact Kept.auto) ?_
 rintro _ _ ⟨v19,rfl,rfl⟩
 refine J 2 ?_
 refine .d3 rfl (ab.ng sizeOf53 rfl rfl rfl) ?_
 rintro _ _ ⟨rfl,rfl⟩
 refine J 10 ?_
 refine .ai rfl (ab.fG 3 rfl rfl (by kernel_rfl)) ?_
 rintro _ _ ⟨b29,rfl,rfl⟩
 refine .ai rfl (ab.gv (enc:=ar) (k:=1) (n:Int) rfl underlying33 underlying33 typeInfo3 rfl rfl rfl (by decide) rfl rfl rfl .auto rfl .auto (by omega) rfl) ?_
 rintro _ _ ⟨v30,rfl,rfl⟩
 refine J 3 ?_
 refine .ai rfl (ab.ng sizeOf33 rfl rfl rfl) ?_
 rintro _ _ ⟨rfl,rfl⟩
 refine J 1 ?_
 rw[show d.cB n y = {d with s:=d.s.dx n y,ends:=d.ends++[t.jA y],out:={d.out with aw:=d.out.aw++[(n:Int)] } } from by unfold Dng.cB;rw[dC ht]]
 exact JR 0 ()
theorem tW{W:World}{bd b p:Nat}{ps:List (Option Nat)}{d:Dng}{t:bA}(hp:ps[d.n]?=some (some p))(ht:d.s.aA[d.n]?=some (some t))(hI:0≤d.i.a∧d.i.a<8):Fn Tryz.prog W 158 [ptr bd] [bc bd b p ps d] Unit (fun _=>.int .u64 d.a) (fun _=>True) (fun _=>[bc bd b p ps d]):=by
 refine Fn.intro (N:=17) func158 rfl ntmps158 rfl fun F=>?_
 show aq _ _ _ _ _ _ [bc bd b p ps d,F]
 refine .o2 (C:=bc bd b p ps d) .auto rfl ?_
 rintro vw ve -
 refine .iQ (C:=cn b ps d.s) .auto rfl ?_
 rintro fv sv pv bt vm bg vt bk bw vr -
 refine .fr .auto (bN hp ht) ?_
 refine J 6 ?_
 refine .draw [] [1,1,1,1,1,1,1,1,1,1,1,1,1,1,1] rfl (by kernel_rfl) ?_
 refine J 12 ?_
 refine .p (.dh d.i.a.toNat underlying139 sizeOf86 rfl rfl (by omega) (by omega)) ?_
 refine .p (.ld rfl (Cell.a (lV (by omega)))) ?_
 refine J 4 ?_
 refine .to (A:=ax ps d.s.aA) (Bs:=[arr p 0 (bb t),ax (ps.set d.n none) (d.s.aA.set d.n none)]) .auto (bH hp ht) ?_
 refine .aP rfl rfl fun w s=>⟨(),?_,trivial,aj .auto s⟩
 rw[show d.a=t.aD.getD d.i.a.toNat 0 from by unfold Dng.a;rw[cP ht];rfl]
theorem Hj{W:World}{bd b p:Nat}{ps:List (Option Nat)}{d:Dng}{t:bA}(hp:ps[d.n]?=some (some p))(ht:d.s.aA[d.n]?=some (some t))(hI:0≤d.i.b∧d.i.b<8):Fn Tryz.prog W 174 [ptr bd] [bc bd b p ps d] Unit (fun _=>.int .u64 d.b) (fun _=>True) (fun _=>[bc bd b p ps d]):=by
 refine Fn.intro (N:=17) func174 rfl ntmps174 rfl fun F=>?_
 show aq _ _ _ _ _ _ [bc bd b p ps d,F]
 refine .o2 (C:=bc bd b p ps d) .auto rfl ?_
 rintro vw ve -
 refine .iQ (C:=cn b ps d.s) .auto rfl ?_
 rintro fv sv pv bt vm bg vt bk bw vr -
 refine .fr .auto (bN hp ht) ?_
 refine J 6 ?_
 refine .draw [] [1,1,1,1,1,1,1,1,1,1,1,1,1,1,1] rfl (by kernel_rfl) ?_
 refine J 12 ?_
 refine .p (.dh d.i.b.toNat underlying139 sizeOf86 rfl rfl (by omega) (by omega)) ?_
 refine .p (.ld rfl (Cell.a (lV (by omega)))) ?_
 refine J 4 ?_
 refine .to (A:=ax ps d.s.aA) (Bs:=[arr p 0 (bb t),ax (ps.set d.n none) (d.s.aA.set d.n none)]) .auto (bH hp ht) ?_
 refine .aP rfl rfl fun w s=>⟨(),?_,trivial,aj .auto s⟩
 rw[show d.b=t.aD.getD d.i.b.toNat 0 from by unfold Dng.b;rw[cP ht];rfl]
theorem mU{W:World}{bd b p:Nat}{ps:List (Option Nat)}{d:Dng}(hr:d.s.aB.length≤100000000)(he:d.ends.length≤1000000):Fn Tryz.prog W 137 [ptr bd] [bc bd b p ps d] Value (fun u=>.agg (qd u d.finish.1).toArray) (fun _=>True) (fun u=>[sl ar 1 u d.finish.1.aw,cn b ps d.finish.2]):=by
 refine Fn.intro (N:=25) func137 rfl ntmps137 rfl fun F=>?_
 show aq _ _ _ _ _ _ [bc bd b p ps d,F]
 refine .o2 (C:=bc bd b p ps d) .auto rfl ?_
 rintro vw ve -
 refine .iQ (C:=cn b ps d.s) .auto rfl ?_
 rintro fv sv pv bt vm bg vt bk bw vr -
 refine J 2 ?_
 refine .ai rfl (ab.alloc rfl zeroValue35 rfl) ?_
 rintro _ _ ⟨b2,rfl,rfl⟩
 refine J 3 ?_
 refine .draw [arr bd 0 (dH b p d vw ve),arr b 0 (eR fv sv pv d.s.eE bt ps vm bg vt bk bw vr)] [0,0,0,0,1,1,1,1,1,1,1,1,1,1,1,2,1,1,3] rfl (by kernel_rfl) ?_
 refine J 15 ?_
 refine .d2 rfl Kept.auto (ab.append rfl underlying53 underlying53 typeInfo104 rfl rfl rfl (by decide) rfl rfl .auto Rd.s (by omega) (wF _)) (by rintro _ _ ⟨v18,rfl,rfl⟩;exact Kept.auto) ?_
 rintro _ _ ⟨v18,rfl,rfl⟩
 refine J 2 ?_
 refine .d3 rfl (ab.ng sizeOf53 rfl rfl rfl) ?_
 rintro _ _ ⟨rfl,rfl⟩
 rw[rk]
 refine J 7 ?_
 refine .p (.la rfl (Cells.kT (ds:=qd vw d.out) Cells.a rfl)) ?_
 refine .ai rfl (ab.Gd (vs:=[.bool d.out.aK,.bool d.out.ended,.bool d.out.yielded]) (by exact sizeOf35) rfl rfl rfl rfl) ?_
 rintro _ _ ⟨rfl,rfl⟩
 refine J 3 ?_
 refine .dt rfl rfl isAgg35 (by exact sizeOf35) Cells.a fun w s=>⟨vw,?_,trivial,aj .auto s⟩
 rfl
end Go.SLYthncobnjdhjnoaaGreat
