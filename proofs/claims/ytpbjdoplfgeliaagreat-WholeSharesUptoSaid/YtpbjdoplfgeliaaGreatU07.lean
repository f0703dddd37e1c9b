/- Walks. Conditions: none. -/
import Derived.Test.YtpbjdoplfgeliaaGreatU06
import Derived.Test.YtpbjdoplfgeliaaGreatU01
import Derived.WalkKit
import Derived.ProofKit
import Derived.OpenShut
import Derived.JoinedCond
import Derived.Deep.Slices
import Derived.Carry
import Derived.Test.YtpbjdoplfgeliaaGreatRows
import Derived.Test.YtpbjdoplfgeliaaGreatU03
import Derived.Test.YtpbjdoplfgeliaaGreatProg
import Derived.KernelRfl
set_option maxRecDepth 20000
set_option maxHeartbeats 4000000
namespace Go.SLYtpbjdoplfgeliaaGreat
open Go Go.RowKit
/-! processors by moments, requests, and taking away -/
def Lib.fG(l:Lib)(c:Int):Lib:=({l with aI:=(l.aI.done c).2.2 }:Lib).tell (aG (l.aI.done c).1.av)
def Krn.tick(k:Krn):Krn:=⟨k.owner,k.libs.map Lib.cF⟩
def Krn.done(k:Krn)(n c:Int):Int×Krn:=match aL k.libs n with
 | none=>(1,k)
 | some l=>((l.aI.done c).2.1,⟨k.owner,k.libs.set n.toNat (l.fG c)⟩)
def Krn.preempt(k:Krn)(p:Int):Int×Krn:=match aL k.owner p with
 | none=>(1,k)
 | some o=>if o = -1 then (11,k) else match aL k.libs o with
  | none=>(11,k)
  | some l=>(0,⟨k.owner,k.libs.set o.toNat (l.preempt p).2⟩)
theorem ng{k:Krn}{p:Int}(h:¬dx k p=0):k.preempt p=(dx k p,k):=by
 unfold dx at h ⊢
 unfold Krn.preempt
 cases e:aL k.owner p with
 | none=>rfl
 | some o =>
  rw[e] at h
  simp only at h ⊢
  by_cases ho:o = -1
  ·rw[if_pos ho,if_pos ho]
  ·rw[if_neg ho] at h;exact absurd rfl h
theorem qj{k:Krn}{i n:Nat}{l:Lib}(ho:k.owner[i]?=some (n:Int))(hl:k.libs[n]?=some l):k.preempt (i:Int)=(0,⟨k.owner,k.libs.set n (l.preempt (i:Int)).2⟩):=by
 unfold Krn.preempt
 rw[aV,ho]
 simp only
 rw[if_neg (by omega),aV,hl]
 simp only[Int.toNat_natCast]
theorem qk{k:Krn}{n c:Int}(h:aL k.libs n=none):k.done n c=(1,k):=by unfold Krn.done;rw[h]
theorem nh{k:Krn}{n:Nat}{l:Lib}{c:Int}(hl:k.libs[n]?=some l):k.done (n:Int) c=((l.aI.done c).2.1,⟨k.owner,k.libs.set n (l.fG c)⟩):=by
 unfold Krn.done;rw[aV,hl];simp only[Int.toNat_natCast]
/-! order behind entries -/
structure LI(n m:Nat)(l:Lib):Prop where
 sp:gE (n+1) l.aI
 vl:l.vs.length≤64
 rl:l.rows.length≤64
 ev:fU l≤m
 rw:∀ r∈l.rows,r.length≤m
theorem LI.le{n m n' m':Nat}{l:Lib}(h:LI n m l)(hn:n≤n')(hm:m≤m'):LI n' m' l:=⟨h.sp.more (by omega),h.vl,h.rl,Nat.le_trans h.ev hm,fun r hr=>Nat.le_trans (h.rw r hr) hm⟩
theorem LI.of{n m a n' m':Nat}{l l':Lib}(h:LI n m l)(g:aD a a l l')(hs:gE (n'+1) l'.aI)(hm:m+a≤m'):LI n' m' l':=by
 have e:=g.ev
 have e2:=h.ev
 exact⟨hs,g.vs ▸ h.vl,g.rs ▸ h.rl,by omega,fun r hr=>by have:=g.rw _ h.rw r hr;omega⟩
theorem LI.sz{n m:Nat}{l:Lib}(h:LI n m l)(hn:n≤1980)(hm:m≤1000000):HZ l:=by
 have hl:LP m l:=⟨h.ev,h.vl,h.sp.lt⟩
 exact⟨h.sp.aI (by omega),h.vl,h.rl,Nat.le_trans hl.w hm,fun v hv=>Nat.le_trans (hl.e v hv) hm,fun r hr=>Nat.le_trans (h.rw r hr) hm⟩
theorem LI.Bq{n m:Nat}{l:Lib}(h:LI n m l)(hn:n≤1980):∀ t c,(l.aI.run t c).1.av.length≤17:=fun t c=>ux h.sp (by omega) t c
theorem Ih{k:Nat}{l:Lib}(h:gE k l.aI)(hk:k≤1990)(p c:Int):gE (k+1) (l.step p c).2.2.aI:=by
 have hm:gE (k+1) l.aI:=h.more (by omega)
 have hr:=fun t=>h.run hk t c
 unfold Lib.step
 split
 ·simp only
  split
  ·unfold Lib.upcall
   split
   ·unfold Lib.recover
    simp only
    split
    ·show gE (k+1) (Lib.aI (if _ then _ else _))
     split <;> exact hr _
    ·exact hm
   ·unfold Lib.enter;split <;> exact hm
  ·split
   ·unfold Lib.handle
    split
    ·exact hm
    ·show gE (k+1) (Lib.aI (if _ then _ else _))
     split <;> exact hm
   ·split
    ·unfold Lib.enter;split <;> exact hm
    ·split
     ·unfold Lib.pick;split <;> exact hm
     ·split
      ·unfold Lib.gR
       simp only
       split
       ·exact hm
       ·rw[(dB _ _).1.aI]
        split
        ·exact hr _
        ·split <;> exact hr _
      ·split
       ·unfold Lib.enter;split <;> exact hm
       ·split
        ·unfold Lib.inside
         simp only
         split
         ·split <;> exact hr _
         ·exact hr _
        ·split
         ·split <;> exact hm
         ·exact hm
 ·exact hm
theorem oQ(s:Spc)(c:Int):(s.done c).1.av.length≤1:=by
 unfold Spc.done
 simp only
 split <;> simp[lG.z]
theorem LI.step{n m:Nat}{l:Lib}(h:LI n m l)(hn:n≤1980)(p c:Int):LI (n+1) (m+40) (l.step p c).2.2:=by
 have g:=ri (h.Bq hn) p c
 refine h.of g ?_ (Nat.le_refl _)
 exact Ih h.sp (by omega) p c
theorem LI.preempt{n m:Nat}{l:Lib}(h:LI n m l)(p:Int):LI n (m+1) (l.preempt p).2:=h.of (a:=1) ((l3 l p).le (by omega) (by omega)) (by rw[m8];exact h.sp) (Nat.le_refl _)
theorem LI.cF{n m:Nat}{l:Lib}(h:LI n m l):LI (n+1) (m+17) l.cF:=by
 have h0:aD 0 0 l ({l with aI:=l.aI.tick.2 }:Lib):=⟨rfl,rfl,Nat.le_refl _,fun _ h=>h⟩
 have h1:=Ic h.sp
 have h2:=gh l.aI.aT.due
 refine h.of (a:=17) ((h0.trans (aD.tell _ _)).le (by omega) (by omega)) ?_ (Nat.le_refl _)
 show gE (n+1+1) (Lib.tell _ _).aI
 rw[(dB _ _).1.aI]
 exact h.sp.tick
theorem LI.fG{n m:Nat}{l:Lib}(h:LI n m l)(c:Int):LI (n+1) (m+17) (l.fG c):=by
 have h0:aD 0 0 l ({l with aI:=(l.aI.done c).2.2 }:Lib):=⟨rfl,rfl,Nat.le_refl _,fun _ h=>h⟩
 have h1:=oQ l.aI c
 have h2:=gh (l.aI.done c).1.av
 refine h.of (a:=17) ((h0.trans (aD.tell _ _)).le (by omega) (by omega)) ?_ (Nat.le_refl _)
 show gE (n+1+1) (Lib.tell _ _).aI
 rw[(dB _ _).1.aI]
 exact h.sp.done c
structure NJ(n m:Nat)(l:Lib):Prop where
 sp:gE (n+1) l.aI
 vl:l.vs.length≤64
 rl:l.rows.length≤64
 rw:∀ r∈l.rows,r.length≤m
theorem NJ.same{n m:Nat}{l l':Lib}(h:NJ n m l)(s:wV l l')(hl:l'.vs.length=l.vs.length):NJ n m l':=⟨by rw[s.aI];exact h.sp,by rw[hl];exact h.vl,by rw[s.rows];exact h.rl,by rw[s.rows];exact h.rw⟩
theorem LI.row{n m:Nat}{l:Lib}(h:LI n m l):NJ n m l:=⟨h.sp,h.vl,h.rl,h.rw⟩
structure SI(n m:Nat)(k:Krn):Prop where
 ag:gS k
 own:∀ v∈k.owner,v = -1∨(0≤v∧v<(k.libs.length:Int))
 ll:k.libs.length≤8
 gy:∀ l∈k.libs,LI n m l
theorem SI.ok{n m:Nat}{k:Krn}(h:SI n m k):o0 m k:=⟨h.own,h.ag.ol,h.ll,fun l hl=>⟨(h.gy l hl).ev,(h.gy l hl).vl,(h.gy l hl).sp.lt⟩⟩
theorem SI.le{n m n' m':Nat}{k:Krn}(h:SI n m k)(hn:n≤n')(hm:m≤m'):SI n' m' k:=⟨h.ag,h.own,h.ll,fun l hl=>(h.gy l hl).le hn hm⟩
theorem SI.rn{n m:Nat}{k:Krn}(h:SI n m k)(hn:n≤1980)(hm:m≤1000000):sA m k:=⟨h.ok,fun l hl=>⟨(h.gy l hl).sz hn hm,fun t=>(h.gy l hl).Bq hn t⟩⟩
theorem SI.inv{n m:Nat}{k:Krn}(h:SI n m k):Inv m k:=⟨h.ok,h.ag⟩
theorem ff.si{n:Nat}{k:Krn}(h:ff n k):SI n (40 * (n+1)) k:=⟨h.ag,h.own,h.ll,fun l hl=>⟨(h.gy l hl).sp,(h.gy l hl).vl,(h.gy l hl).rl,(h.gy l hl).ev,(h.gy l hl).rw⟩⟩
theorem SI.set{n m n' m':Nat}{k:Krn}(h:SI n m k)(hn:n≤n')(hm:m≤m'){j:Nat}{l l':Lib}(hl:k.libs[j]?=some l)(hmo:Mo l l')(hv:l'.vs.length=l.vs.length)(hli:LI n' m' l'):SI n' m' ⟨k.owner,k.libs.set j l'⟩:=by
 refine⟨h.ag.step hl hmo hv,fun v hv=>?_,by show(k.libs.set j l').length≤8;rw[List.length_set];exact h.ll,fun x hx=>?_⟩
 ·show v = -1∨(0≤v∧v<((k.libs.set j l').length:Int));rw[List.length_set];exact h.own v hv
 ·rcases List.mem_or_eq_of_mem_set hx with e | e
  ·exact(h.gy x e).le hn hm
  ·subst e;exact hli
theorem SI.step{n m:Nat}{k:Krn}(h:SI n m k)(hn:n≤1980)(p c:Int):SI (n+1) (m+40) (k.step p c).2:=by
 by_cases e:dx k p=0
 ·obtain⟨i,j,l,rfl,ho,hl, -⟩:=dz h.ok e
  rw[iP ho hl]
  have hli:=h.gy l (List.mem_of_getElem? hl)
  exact h.set (by omega) (by omega) hl (xj l (i:Int) c) (ri (hli.Bq hn) (i:Int) c).vs (hli.step hn _ _)
 ·rw[gF e];exact h.le (by omega) (by omega)
theorem Cp(l:Lib)(p:Int):Mo l (l.preempt p).2:=by
 cases hh:l.has p with
 | false=>rw[jO hh];exact Mo.refl _
 | true =>
  obtain⟨i,v,rfl,hv,h0⟩:=iq hh
  rw[iO hh hv]
  exact Mo.set (y:=v.told []) hv h0 (by show(1:Int)≠0;decide) rfl
theorem SI.preempt{n m:Nat}{k:Krn}(h:SI n m k)(p:Int):SI n (m+1) (k.preempt p).2:=by
 by_cases e:dx k p=0
 ·obtain⟨i,j,l,rfl,ho,hl, -⟩:=dz h.ok e
  rw[qj ho hl]
  have hli:=h.gy l (List.mem_of_getElem? hl)
  exact h.set (Nat.le_refl _) (by omega) hl (Cp l _) (l3 l _).vs (hli.preempt _)
 ·rw[ng e];exact h.le (by omega) (by omega)
theorem Fi(l:Lib):Mo l l.cF:=(show Mo l ({l with aI:=l.aI.tick.2 }:Lib) from fun _=>Iff.rfl).trans (Mo.tell _ _)
theorem Ii(l:Lib)(c:Int):Mo l (l.fG c):=(show Mo l ({l with aI:=(l.aI.done c).2.2 }:Lib) from fun _=>Iff.rfl).trans (Mo.tell _ _)
theorem DT(l:Lib)(ys:List Ev):(l.tell ys).vs.length=l.vs.length:=(dB l ys).1.len
theorem SI.done{n m:Nat}{k:Krn}(h:SI n m k)(q c:Int):SI (n+1) (m+17) (k.done q c).2:=by
 cases e:aL k.libs q with
 | none=>rw[qk e];exact h.le (by omega) (by omega)
 | some l =>
  obtain⟨q0, -,hq⟩:=ck e
  obtain⟨j,rfl⟩:∃ j:Nat,q=(j:Int):=⟨q.toNat,by omega⟩
  rw[Int.toNat_natCast] at hq
  rw[nh hq]
  have hli:=h.gy l (List.mem_of_getElem? hq)
  exact h.set (by omega) (by omega) hq (Ii l c) (DT _ _) (hli.fG c)
theorem SI.tick{n m:Nat}{k:Krn}(h:SI n m k):SI (n+1) (m+17) k.tick:=by
 refine⟨⟨fun x hx=>?_,h.ag.ol,fun q x hx p=>?_⟩,fun v hv=>?_,by show(k.libs.map Lib.cF).length≤8;rw[List.length_map];exact h.ll,fun x hx=>?_⟩
 ·obtain⟨l,hl,rfl⟩:=List.mem_map.1 hx
  show l.cF.vs.length=_
  rw[show l.cF.vs.length=l.vs.length from DT _ _];exact h.ag.len l hl
 ·have hx':(k.libs.map Lib.cF)[q]?=some x:=hx
  rw[List.getElem?_map] at hx'
  cases e:k.libs[q]? with
  | none=>rw[e] at hx';cases hx'
  | some l =>
   rw[e] at hx'
   obtain rfl:=Option.some.inj hx'
   rw[Fi l p];exact h.ag.iff q l e p
 ·show v = -1∨(0≤v∧v<((k.libs.map Lib.cF).length:Int));rw[List.length_map];exact h.own v hv
 ·obtain⟨l,hl,rfl⟩:=List.mem_map.1 hx
  exact(h.gy l hl).cF
theorem SI.share{n m:Nat}{k:Krn}(h:SI n m k)(prio:List Int)(turn:Int):SI n (m+2048) (k.share prio turn).1:=by
 obtain⟨h1,h2⟩:=dH h.inv prio turn
 have h3:∀ x∈(k.share prio turn).1.libs,NJ n m x:=nQ (fun l p hl=>hl.same (gr l p) (oP l p).vs) (fun l p hl=>hl.same (eR l p) (m9 l p).vs) prio turn fun x hx=>(h.gy x hx).row
 exact⟨h1.ag,h1.ok.own,h1.ok.ll,fun x hx=>⟨(h3 x hx).sp,(h3 x hx).vl,(h3 x hx).rl,(h1.ok.gy x hx).ev,fun r hr=>Nat.le_trans ((h3 x hx).rw r hr) (by omega)⟩⟩
end Go.SLYtpbjdoplfgeliaaGreat
namespace Go.SLYtpbjdoplfgeliaaGreat
open Go Go.RowKit
def Krn.ni(k:Krn)(j:Nat):Krn:=⟨k.owner,(k.libs.take j).map Lib.cF++k.libs.drop j⟩
theorem Fj(k:Krn):k.ni 0=k:=by
 cases k;rfl
theorem Ij(k:Krn):k.ni k.libs.length=k.tick:=by
 unfold Krn.ni Krn.tick
 rw[List.take_length,List.drop_length,List.append_nil]
theorem ql{k:Krn}{j:Nat}(hj:j≤k.libs.length):((k.libs.take j).map Lib.cF).length=j:=by rw[List.length_map,List.length_take];omega
theorem Kt{k:Krn}{j:Nat}{l:Lib}(h:k.libs[j]?=some l):(k.ni j).libs[j]?=some l:=by
 have hj:=(List.getElem?_eq_some_iff.1 h).1
 show((k.libs.take j).map Lib.cF++k.libs.drop j)[j]?=_
 rw[List.getElem?_append_right (by rw[ql (by omega)];exact Nat.le_refl _),ql (by omega),Nat.sub_self,List.getElem?_drop]
 exact h
theorem Ik{k:Krn}{j:Nat}{l:Lib}(h:k.libs[j]?=some l):(k.ni j).libs.set j l.cF=(k.ni (j+1)).libs:=by
 have hj:=(List.getElem?_eq_some_iff.1 h).1
 show((k.libs.take j).map Lib.cF++k.libs.drop j).set j l.cF=(k.libs.take (j+1)).map Lib.cF++k.libs.drop (j+1)
 rw[aW h,List.map_append,drop_cons h,List.set_append_right _ _ (by rw[ql (by omega)];exact Nat.le_refl _),ql (by omega),Nat.sub_self,List.set_cons_zero,List.append_assoc]
 rfl
theorem Il{bl:List Nat}{ls:List Lib}{n:Int}{g:Nat→Addr}(hb:bl.length=ls.length)(h:((aL bl n).map g).isNone=true):aL ls n=none:=by
 cases e:aL bl n with
 | some x=>rw[e] at h;cases h
 | none =>
  unfold aL at *
  split at e
  ·rename_i h0;rw[if_pos h0]
  ·rename_i h0
   rw[if_neg h0]
   rw[List.getElem?_eq_none_iff] at e ⊢
   omega
theorem Im{bl:List Nat}{xs:List (Nat×Lib)}{ls:List Lib}{n:Int}{g:Nat→Addr}(hb:xs.map (·.1)=bl)(hl:xs.map (·.2)=ls)(h:((aL bl n).map g).isNone=false):∃ (j:Nat) (x:Nat×Lib),n=(j:Int)∧xs[j]?=some x∧ls[j]?=some x.2∧bl[j]?=some x.1:=by
 cases e:aL bl n with
 | none=>rw[e] at h;cases h
 | some b =>
  obtain⟨h0, -,hb2⟩:=ck e
  obtain⟨x,hx, -⟩:=di hb hb2
  exact⟨n.toNat,x,by omega,hx,eU hl hx,eU hb hx⟩
/-! the system -/
structure oo where
 kind:Int
 a:Int
 b:Int
def nW(x:oo):List Value:=[.int .i64 x.kind,.int .i64 x.a,.int .i64 x.b]
structure Sy where
 k:Krn
 prio:List Int
 turn:Int
 log:List k7
def gK(b kb:Nat)(bl:List Nat)(s:Sy):aa:=ot (fun _ _=>True) fun(v vl:Value)=>[arr b 0 [ptr kb,v,.int .i64 s.turn,vl],ba kb bl s.k,sl aq 1 v s.prio,sl H2 4 vl s.log]
def ko(r:Int×gg×Int)(c:Int):List k7:=if r.2.1.aJ=true then [⟨1,r.1,r.2.1.slot,c⟩] else []
def Sy.rX(s:Sy)(p c:Int):Int×Sy:=((s.k.step p c).1.2.2,⟨(s.k.step p c).2,s.prio,s.turn,s.log++ko (s.k.step p c).1 c⟩)
def Sy.wQ(s:Sy):Sy:=⟨s.k.tick,s.prio,s.turn,s.log++[⟨3,0,0,0⟩]⟩
def Sy.ob(s:Sy)(n c:Int):Int×Sy:=((s.k.done n c).1,⟨(s.k.done n c).2,s.prio,s.turn,s.log++(if (s.k.done n c).1=0 then [⟨2,n,0,c⟩] else [])⟩)
def Sy.do(s:Sy)(x:oo):Int×Sy :=
 if x.kind=1 then s.rX x.a x.b
 else if x.kind=2 then (0,s.wQ)
 else if x.kind=3 then s.ob x.a x.b
 else if x.kind=4 then ((s.k.preempt x.a).1,⟨(s.k.preempt x.a).2,s.prio,s.turn,s.log⟩)
 else if x.kind=5 then (0,⟨s.k,s.prio,x.a,s.log⟩)
 else if x.kind=6 then (0,⟨(s.k.share s.prio s.turn).1,s.prio,s.turn,s.log⟩)
 else (1,s)
def Sy.new(procs:Int)(ps:List gn):Sy:=⟨((Krn.new procs ps).share (ps.map (·.prio)) 0).1,ps.map (·.prio),0,[]⟩
structure zq(i:Nat)(s:Sy):Prop where
 k:SI (i+1) (2100+2048 * i) s.k
 log:s.log.length≤i
 prio:s.prio.length≤8
theorem zq.new{procs:Int}{ps:List gn}(h:dF procs ps=0)(hw:∀ p∈ps, ∀ f∈p.funcs, ∀ i∈f,fK i.n):zq 0 (Sy.new procs ps):=by
 have h0:=ff.new h hw
 refine⟨(h0.si.share _ _).le (by omega) (by omega),Nat.zero_le _,?_⟩
 show(ps.map _).length≤8
 rw[List.length_map]
 have:=(gU h).2.2.2.2.2
 omega
theorem zq.more{i:Nat}{s:Sy}(h:zq i s):zq (i+1) s:=⟨h.k.le (by omega) (by omega),Nat.le_succ_of_le h.log,h.prio⟩
theorem rY(r:Int×gg×Int)(c:Int):(ko r c).length≤1:=by unfold ko;split <;> simp
theorem zq.do{i:Nat}{s:Sy}(h:zq i s)(hi:i≤400)(x:oo):zq (i+1) (s.do x).2:=by
 have hl:=h.log
 unfold Sy.do
 split
 ·refine⟨(h.k.step (by omega) _ _).le (by omega) (by omega),?_,h.prio⟩
  show(s.log++ko _ _).length≤_
  have:=rY (s.k.step x.a x.b).1 x.b
  rw[List.length_append];omega
 ·split
  ·refine⟨h.k.tick.le (by omega) (by omega),?_,h.prio⟩
   show(s.log++[_]).length≤_
   rw[List.length_append];simp only[List.length_cons,List.length_nil];omega
  ·split
   ·refine⟨(h.k.done _ _).le (by omega) (by omega),?_,h.prio⟩
    show(s.log++(if _ then _ else _)).length≤_
    rw[List.length_append]
    split <;> simp only[List.length_cons,List.length_nil] <;> omega
   ·split
    ·exact⟨(h.k.preempt _).le (by omega) (by omega),Nat.le_succ_of_le hl,h.prio⟩
    ·split
     ·exact⟨h.k.le (by omega) (by omega),Nat.le_succ_of_le hl,h.prio⟩
     ·split
      ·exact⟨(h.k.share _ _).le (by omega) (by omega),Nat.le_succ_of_le hl,h.prio⟩
      ·exact h.more
theorem zq.rn{i:Nat}{s:Sy}(h:zq i s)(hi:i≤400):sA (2100+2048 * i) s.k:=h.k.rn (by omega) (by omega)
end Go.SLYtpbjdoplfgeliaaGreat
namespace Go.SLYtpbjdoplfgeliaaGreat
open Go Go.RowKit Go.ChangeAt Go.ChangeShapes Go.Deep
section
variable{H:Type}{enc:TypeId×Value→H}{P:Program}{W:World}{bulk:DataW H→Nat}
structure yX(bulk:DataW H→Nat):Prop where
 one:∀ d,1≤bulk d
 slice:∀ es sp,(es.map bulk).sum+1≤bulk (.slice es sp)
 agg:∀ ds,(ds.map bulk).sum≤bulk (.agg ds)
def fH(enc:TypeId×Value→H)(P:Program)(W:World)(bulk:DataW H→Nat)(t:TypeId){α:Type}(ea:α→List Value)(good:α→Nat→Prop):Prop :=
 ∀ fuel cs x,DataW.trod enc P W 0 (fun _=>true) true fuel t cs=some x→ ∃ a,cs=ea a∧good a (bulk x.1)
theorem fH.int{t:TypeId}{k:IntKind}(ht:P.underlying t=some (.int k)):fH enc P W bulk t (fun n:Int=>[.int k n]) (fun n _=>(Lit.int k n).wf=true):=fun fuel cs x h=>by
 obtain⟨n,rfl,_,hw⟩:=DataW.trod_int ht h
 exact⟨n,rfl,hw⟩
theorem fH.bool{t:TypeId}(ht:P.underlying t=some .bool):fH enc P W bulk t (fun b:Bool=>[.bool b]) (fun _ _=>True):=fun fuel cs x h=>by
 obtain⟨n,rfl,_⟩:=DataW.trod_bool ht h
 exact⟨n,rfl,trivial⟩
theorem DU{l:List (DataW H)}{d:DataW H}(h:d∈l):bulk d≤(l.map bulk).sum:=by
 induction l with
 | nil=>cases h
 | cons x r ih =>
  simp only[List.map_cons,List.sum_cons]
  cases List.mem_cons.1 h with
  | inl e=>subst e;omega
  | inr e=>have:=ih e;omega
theorem Ku(hb:yX bulk)(l:List (DataW H)):l.length≤(l.map bulk).sum:=by
 induction l with
 | nil=>simp
 | cons x r ih=>have:=hb.one x;simp only[List.map_cons,List.sum_cons,List.length_cons];omega
theorem fH.slice(hb:yX bulk){t e:TypeId}{k:Nat}{α:Type}{ea:α→List Value}{good:α→Nat→Prop}(ht:P.underlying t=some (.slice e))(hc:P.cellsOf e=k)(hk0:0<k)(hk:∀ a,(ea a).length=k)(he:fH enc P W bulk e ea good)
  (mono:∀ a m n,m≤n→good a m→good a n) :
  fH enc P W bulk t (fun p:Value×List α=>[p.1]) (fun p n=>iG W ea k p.1 p.2∧p.2.length+1≤n∧ ∀ a∈p.2,good a n):=fun fuel cs x h=>by
 rcases open_slice ht h with ⟨rfl,rfl⟩ | ⟨a,len,cap,m,n,D,Pl,rfl,hb0,hl,hm,hmm,rfl,hx⟩
 ·refine⟨(.slice none 0 0,[]),rfl,⟨⟨none,0,rfl,Nat.le_refl _,fun _ e _=>by(cases e),fun _=>rfl⟩,fun x hx=>(by cases hx),fun i x hx=>by simp at hx⟩,?_,fun a ha=>by cases ha⟩
  exact hb.one _
 ·simp only[if_true] at hmm
  have hmm':=hmm.symm
  subst hmm'
  have each:∀ i,i<len→ ∃ q:Option α, ∃ y,q=some y∧W.cells? 0 (a.add (i * k)) k=some (ea y)∧good y (bulk (D i)):=fun i hi=>by
   obtain⟨cs',h1,h2⟩:=hx i (Nat.lt_of_lt_of_le hi hl)
   obtain⟨y,rfl,hg⟩:=he _ _ _ h2
   rw[hc] at h1
   exact⟨some y,y,rfl,h1,hg⟩
  obtain⟨f,hf⟩:=choose_lt each
  obtain⟨xs,hxs,hxl⟩:∃ xs:List α,(∀ i y,xs[i]?=some y→i<len∧f i=some y)∧xs.length=len:=by
   clear h hx each
   induction len with
   | zero=>exact⟨[],fun i y h=>by simp at h,rfl⟩
   | succ len ih =>
    obtain⟨xs,h1,h2⟩:=ih (by omega) (fun i hi=>hf i (by omega))
    obtain⟨y,hy,_⟩:=hf len (by omega)
    refine⟨xs++[y],fun i z hz=>?_,by simp[h2]⟩
    by_cases hi:i<xs.length
    ·rw[List.getElem?_append_left hi] at hz
     have:=h1 i z hz
     exact⟨by omega,this.2⟩
    ·rw[List.getElem?_append_right (by omega)] at hz
     have hi0:=(List.getElem?_eq_some_iff.1 hz).1
     simp at hi0
     obtain rfl:i=len:=by omega
     simp[h2] at hz
     subst hz
     exact⟨by omega,hy⟩
  have spot:xs≠[]→a.spot=none:=fun hne=>by
   have h0:0<len:=by rw[← hxl];exact List.length_pos_iff.2 hne
   obtain⟨y,_,hcs,_⟩:=hf 0 h0
   obtain⟨_,hlen,hcell⟩:=World.cells?_some hcs
   have h1:=hcell 0 hk0
   rw[List.getElem?_eq_getElem (by rw[hk];exact hk0)] at h1
   have:=World.cell?_spot h1
   simpa [Addr.add] using this
  have hlenb:len+1≤bulk (.slice ((List.range len).map D) ((List.range (cap-len)).map fun j=>D (len+j))):=by
   have h1:=hb.slice ((List.range len).map D) ((List.range (cap-len)).map fun j=>D (len+j))
   have h2:=Ku hb ((List.range len).map D)
   simp only[List.length_map,List.length_range] at h2
   omega
  refine⟨(.slice (some a) len cap,xs),rfl,⟨⟨some a,cap,by rw[hxl],(by rw[hxl];exact hl),fun b e hne=>by cases e;exact spot hne,fun e=>by cases e⟩,fun x _=>hk x,fun i x hi c u hu=>?_⟩,by rw[hxl];exact hlenb,fun y hy=>?_⟩
  ·obtain⟨hil,hfi⟩:=hxs i x hi
   obtain⟨y,hy,hcs,_⟩:=hf i hil
   rw[hfi] at hy
   cases hy
   obtain⟨_,hlen,hcell⟩:=World.cells?_some hcs
   have hck:=(List.getElem?_eq_some_iff.1 hu).1
   rw[hk] at hck
   have h1:=hcell c hck
   rw[hu] at h1
   have hs:=spot (by intro e;subst e;simp at hi)
   obtain⟨b,o,s⟩:=a
   simp only at hs
   subst hs
   rw[dI,dI] at h1
   exact h1
  ·obtain⟨i,hi⟩:=List.mem_iff_getElem?.1 hy
   obtain⟨hil,hfi⟩:=hxs i y hi
   obtain⟨z,hz,_,hg⟩:=hf i hil
   rw[hfi] at hz
   cases hz
   refine mono y _ _ ?_ hg
   have h1:=hb.slice ((List.range len).map D) ((List.range (cap-len)).map fun j=>D (len+j))
   have h2:bulk (D i)≤(((List.range len).map D).map bulk).sum:=DU (List.mem_map.2 ⟨i,List.mem_range.2 hil,rfl⟩)
   exact Nat.le_trans h2 (Nat.le_trans (Nat.le_succ _) h1)
theorem kp(hb:yX bulk){t:TypeId}{fs:Array Field}{fuel:Nat}{cs:List Value}{x:DataW H×List MemPlace}(ht:P.underlying t=some (.struct fs))(hc:P.cellsOf t=fs.size)(ho:∀ (i:Nat) (f:Field),fs[i]?=some f→f.offset=i∧P.cellsOf f.type=1)
  (h:DataW.trod enc P W 0 (fun _=>true) true fuel t cs=some x) :
  cs.length=fs.size∧ ∀ (i:Nat) (f:Field),fs[i]?=some f→ ∃ v fuel y,cs[i]?=some v∧DataW.trod enc P W 0 (fun _=>true) true fuel f.type [v]=some y∧bulk y.1≤bulk x.1:=by
 obtain⟨xs,n,rfl,rfl,hl,hxl,hf⟩:=DataW.trod_struct ht h
 refine⟨hl.trans hc,fun i f hi=>?_⟩
 have hlt:=(Array.getElem?_eq_some_iff.1 hi).1
 have h1:=hf i f hi
 obtain⟨ho1,ho2⟩:=ho i f hi
 have hil:i<cs.length:=by omega
 rw[ho1,ho2,List.drop_eq_getElem_cons hil,List.take_succ_cons,List.take_zero,List.getElem?_eq_getElem (by omega)] at h1
 refine⟨cs[i],n,_,List.getElem?_eq_getElem hil,h1,?_⟩
 have h2:=hb.agg (xs.map (·.1))
 have h3:bulk (xs[i]'(by omega)).1≤((xs.map (·.1)).map bulk).sum:=DU (List.mem_map.2 ⟨_,List.getElem_mem _,rfl⟩)
 exact Nat.le_trans h3 h2
/-! ### A law's end -/
theorem xn(hl:laidOutB P=true){W W':World}(hb:Below W.heap.size W W'){sp:Nat→Bool} :
  ∀ {ts:List TypeId} {vs:List Value} {ds:List (DataW H)} {p:List MemPlace},ts.all (fun t=>P.readableRec t && decide (t<P.types.size))=true→DataW.TrodAll enc P W 0 (fun _=>true) true ts vs ds p→(∀ x∈p,x.block<W.heap.size)→(∀ x∈p,sp x.block=true)→
   DataW.TrodAll enc P W' 0 sp true ts vs ds p
 | [],[],[],_,_,h,_,_=>h
 | [],[],_::_,_,_,h,_,_=>h.elim
 | [],_::_,_,_,_,h,_,_=>h.elim
 | _::_,[],_,_,_,h,_,_=>h.elim
 | _::_,_::_,[],_,_,h,_,_=>h.elim
 | t::ts,v::vs,d::ds,ps,hr,h,hlt,hsp=>by
  obtain⟨p,q,h1,h2,rfl⟩:=h
  simp only[List.all_cons,Bool.and_eq_true,decide_eq_true_eq] at hr
  refine⟨p,q,WideElems.Trod_stays hl hr.1.1 hr.1.2 h1 (fun x hx=>hb.same (hlt x (by simp[hx]))) (fun x hx=>hsp x (by simp[hx])),?_,rfl⟩
  exact xn hl hb (by simpa using hr.2) h2 (fun x hx=>hlt x (by simp[hx])) (fun x hx=>hsp x (by simp[hx]))
theorem uN{f:Func}{s:ChangeSpec}{apart fresh handsOn again:Bool}{W W':World}{args:Array Value}{ds gs:List (DataW H)}{before:List MemPlace}{tb:TypeId}
  (hl:laidOutB P=true) (hrd:f.params.toList.all (fun t=>P.readableRec t && decide (t<P.types.size))=true) (hv:s.vars=[]) (hr:f.resultTypes = #[tb]) (htb:P.underlying tb=some .bool)
  (hW:DataW.Whole enc P f.params.toList s.vars apart W args.toList ds gs before) (h1:(s.fn H ds).results=[.lit (.bool true)]) (h2:(s.fn H ds).args=ds) (h3:(s.fn H ds).vars=[])
  (hb:Below W.heap.size W W'):s.post enc P f apart fresh handsOn again W args (.bool true) W':=by
 have hlt:=fun p hp=>hW.lt p hp
 have hW':=hW
 obtain⟨p,q,hA,hV,rfl,hz,hn⟩:=hW'
 rw[hv] at hV
 obtain⟨rfl,rfl⟩:=trodVars_none hV
 have hres:∀ (b:Nat) (sp:Nat→Bool) (hd:Bool),DataW.TrodAll enc P W' b sp hd f.resultTypes.toList ((Value.bool true).resultList f.resultTypes.size) (s.fn H (ds++[])).results []:=fun b sp hd=>by
  rw[List.append_nil,h1,hr]
  exact trodAll_cons_mk (shut_bool htb _) trodAll_mk0
 have hargs:∀ sp:Nat→Bool,(∀ x∈p++[],sp x.block=true)→DataW.TrodAll enc P W' 0 sp true f.params.toList args.toList (s.fn H (ds++[])).args p:=fun sp hsp=>by
  rw[List.append_nil,h2]
  exact xn hl hb hrd hA (fun x hx=>hlt x (by simp[hx])) (fun x hx=>hsp x (by simp[hx]))
 have hvars:∀ sp:Nat→Bool,DataW.TrodVars enc P W' sp s.vars (s.fn H (ds++[])).vars []:=fun sp=>by
  rw[List.append_nil,h3,hv];rfl
 have hold:∀ x∈p++[],(fun b=>decide (b<W.heap.size)) x.block=true:=fun x hx=>by simpa using hlt x hx
 refine⟨ds,[],p++[],[],p,[],hW,hres _ _ _,hargs _ hold,hvars _,World.keptBut_mono (fun x hx=>⟨hx,?_⟩) (hb.frame _),fun _=>?_⟩
 ·simp only[List.append_nil] at hx
  exact Or.inr (by simpa using hx)
 ·refine⟨ok_one hr rfl (okWide_bool_mk htb _),_,_,([]++p)++[],⟨[]++p,[],trodAll_append (hargs _ (fun _ _=>rfl)) (hres _ _ _),hvars _,rfl,?_,?_⟩,?_⟩
  ·intro b off hp
   have hp':MemPlace.cell b off∈p:=by simpa using hp
   have:=hz b off (by simp[hp'])
   rw[← this]
   exact hb.frozen (p:=⟨b,off,none⟩) (hlt (.cell b off) (by simp[hp']))
  ·intro ha
   simpa using hn ha
  ·intro x hx _
   simpa using hx
theorem Fn.done{f:FuncId}{args:List Value}{X:Type}{v:Value}(h:Fn P W f args [] X (fun _=>v) (fun _=>True) (fun _=>[])):Calls P f args.toArray W fun e w'=>e = .returned v∧Below W.heap.size W w' :=
 (h SLYtpbjdoplfgeliaaGreat.emp W (by simpa only[seps,aK] using Sat.empty)).mono fun e w' ⟨x,he,_,hs⟩=>⟨he,hs.Ly⟩
end
end Go.SLYtpbjdoplfgeliaaGreat
namespace Go.Proofs.YtpbjdoplfgeliaaGreat
open Go Go.RowKit Go.ChangeShapes Go.WideShapes Go.ChangeAt Go.SLYtpbjdoplfgeliaaGreat
/-! the bulk of what is read -/
theorem l4{H:Type}:∀ l:List (DataW H),Rows.uptoBulkAll l=(l.map Rows.uptoBulk).sum
 | []=>by simp[Rows.uptoBulkAll]
 | d::r=>by simp[Rows.uptoBulkAll,l4 r]
theorem kC{H:Type}:yX (Rows.uptoBulk (H:=H)) where
 one:=fun d=>by
  cases d with
  | lit l=>cases l <;> simp[Rows.uptoBulk]
  | nil=>simp[Rows.uptoBulk]
  | ptr d=>simp[Rows.uptoBulk]
  | slice elems spare=>simp[Rows.uptoBulk]
  | agg parts=>simp[Rows.uptoBulk]
  | iface t d=>simp[Rows.uptoBulk]
  | map entries=>simp[Rows.uptoBulk]
  | held h=>simp[Rows.uptoBulk]
 slice:=fun es sp=>by rw[← l4];simp only[Rows.uptoBulk];omega
 agg:=fun ds=>by rw[← l4];simp only[Rows.uptoBulk];omega
theorem bound{H:Type}{l:List (DataW H)}(hk:Rows.uptoSmall H l=true):(l.map Rows.uptoBulk).sum≤1048576:=by
 rw[← l4];simpa [Rows.uptoSmall] using hk
structure DV(W:World)(v:bc)(n:Nat):Prop where
 fs:iG W eu 1 v.fv v.fs
 ins:∀ x∈v.fs,iG W dM 5 x.1 x.2
 bK:iG W aq 1 v.sv v.bK
 bf:iG W aq 1 v.pv v.bf
 fl:v.fs.length≤n
 sl:v.bK.length≤n
 pl:v.bf.length≤n
 wo:∀ f∈v.p.funcs, ∀ i∈f,fK i.n
theorem DV.rd{W:World}{v:bc}{n:Nat}(h:DV W v n)(H:List aa):eY W H v:=⟨.old h.fs,fun x hx=>.old (h.ins x hx),.old h.bK,.old h.bf⟩
section
variable{H:Type}{enc:TypeId×Value→H}{W:World}
theorem Io:fH enc Tryz.prog W Rows.uptoBulk 94 dM (fun i _=>fK i.n):=fun fuel cs x h=>by
 obtain⟨hl,hf⟩:=kp kC Tryz.underlying94 (by kernel_rfl) (by
  intro i f hi
  match i,hi with
  | 0,hi=>cases hi;exact⟨rfl,by kernel_rfl⟩
  | 1,hi=>cases hi;exact⟨rfl,by kernel_rfl⟩
  | 2,hi=>cases hi;exact⟨rfl,by kernel_rfl⟩
  | 3,hi=>cases hi;exact⟨rfl,by kernel_rfl⟩
  | 4,hi=>cases hi;exact⟨rfl,by kernel_rfl⟩
  | n+5,hi=>simp at hi) h
 obtain⟨v0,n0,y0,e0,t0,_⟩:=hf 0 _ rfl
 obtain⟨v1,n1,y1,e1,t1,_⟩:=hf 1 _ rfl
 obtain⟨v2,n2,y2,e2,t2,_⟩:=hf 2 _ rfl
 obtain⟨v3,n3,y3,e3,t3,_⟩:=hf 3 _ rfl
 obtain⟨v4,n4,y4,e4,t4,_⟩:=hf 4 _ rfl
 obtain⟨a0,r0,_,_⟩:=DataW.trod_int Tryz.underlying3 t0
 obtain⟨a1,r1,_,_⟩:=DataW.trod_int Tryz.underlying3 t1
 obtain⟨a2,r2,_,_⟩:=DataW.trod_int Tryz.underlying3 t2
 obtain⟨a3,r3,_,_⟩:=DataW.trod_int Tryz.underlying3 t3
 obtain⟨a4,r4,_,w4⟩:=DataW.trod_int Tryz.underlying92 t4
 cases r0;cases r1;cases r2;cases r3;cases r4
 refine⟨⟨a0,a1,a2,a3,a4⟩,?_,bounds_u64 w4⟩
 match cs,hl with
 | [w0,w1,w2,w3,w4],_ =>
  simp at e0 e1 e2 e3 e4
  subst e0 e1 e2 e3 e4
  rfl
theorem Fk:fH enc Tryz.prog W Rows.uptoBulk 95 (eu (α:=List Ins)) (fun p n=>iG W dM 5 p.1 p.2∧p.2.length+1≤n∧ ∀ a∈p.2,fK a.n) :=
 fH.slice kC Tryz.underlying95 (by kernel_rfl) (by decide) (fun _=>rfl) Io (fun _ _ _ _ h=>h)
theorem Cq:fH enc Tryz.prog W Rows.uptoBulk 49 (fun p:Value×List (Value×List Ins)=>[p.1]) (fun p n=>iG W eu 1 p.1 p.2∧p.2.length+1≤n∧ ∀ a∈p.2,iG W dM 5 a.1 a.2∧a.2.length+1≤n∧ ∀ b∈a.2,fK b.n) :=
 fH.slice kC Tryz.underlying49 (by kernel_rfl) (by decide) (fun _=>rfl) Fk (fun _ _ _ hm h=>⟨h.1,Nat.le_trans h.2.1 hm,h.2.2⟩)
theorem rk:fH enc Tryz.prog W Rows.uptoBulk 50 (fun p:Value×List Int=>[p.1]) (fun p n=>iG W aq 1 p.1 p.2∧p.2.length+1≤n∧ ∀ a∈p.2,True) :=
 fH.slice kC Tryz.underlying50 (by kernel_rfl) (by decide) (fun _=>rfl) (fun fuel cs x h=>by
  obtain⟨n,rfl,_,_⟩:=DataW.trod_int Tryz.underlying3 h
  exact⟨n,rfl,trivial⟩) (fun _ _ _ _ _=>trivial)
theorem Ip:fH enc Tryz.prog W Rows.uptoBulk 52 eT (fun v n=>DV W v n):=fun fuel cs x h=>by
 obtain⟨hl,hf⟩:=kp kC Tryz.underlying52 (by kernel_rfl) (by
  intro i f hi
  match i,hi with
  | 0,hi=>cases hi;exact⟨rfl,by kernel_rfl⟩
  | 1,hi=>cases hi;exact⟨rfl,by kernel_rfl⟩
  | 2,hi=>cases hi;exact⟨rfl,by kernel_rfl⟩
  | 3,hi=>cases hi;exact⟨rfl,by kernel_rfl⟩
  | 4,hi=>cases hi;exact⟨rfl,by kernel_rfl⟩
  | 5,hi=>cases hi;exact⟨rfl,by kernel_rfl⟩
  | 6,hi=>cases hi;exact⟨rfl,by kernel_rfl⟩
  | 7,hi=>cases hi;exact⟨rfl,by kernel_rfl⟩
  | n+8,hi=>simp at hi) h
 obtain⟨v0,n0,y0,e0,t0,b0⟩:=hf 0 _ rfl
 obtain⟨v1,n1,y1,e1,t1,_⟩:=hf 1 _ rfl
 obtain⟨v2,n2,y2,e2,t2,_⟩:=hf 2 _ rfl
 obtain⟨v3,n3,y3,e3,t3,_⟩:=hf 3 _ rfl
 obtain⟨v4,n4,y4,e4,t4,b4⟩:=hf 4 _ rfl
 obtain⟨v5,n5,y5,e5,t5,b5⟩:=hf 5 _ rfl
 obtain⟨v6,n6,y6,e6,t6,_⟩:=hf 6 _ rfl
 obtain⟨v7,n7,y7,e7,t7,_⟩:=hf 7 _ rfl
 obtain⟨⟨fv,fs⟩,r0,f1,f2,f3⟩:=Cq _ _ _ t0
 obtain⟨a1,r1,_,_⟩:=DataW.trod_int Tryz.underlying3 t1
 obtain⟨a2,r2,_,_⟩:=DataW.trod_int Tryz.underlying3 t2
 obtain⟨a3,r3,_,_⟩:=DataW.trod_int Tryz.underlying3 t3
 obtain⟨⟨sv,bK⟩,r4,s1,s2,_⟩:=rk _ _ _ t4
 obtain⟨⟨pv,bf⟩,r5,p1,p2,_⟩:=rk _ _ _ t5
 obtain⟨a6,r6,_,_⟩:=DataW.trod_int Tryz.underlying3 t6
 obtain⟨a7,r7,_,_⟩:=DataW.trod_int Tryz.underlying3 t7
 cases r0;cases r1;cases r2;cases r3;cases r4;cases r5;cases r6;cases r7
 refine⟨⟨fv,fs,a1,a2,a3,sv,bK,pv,bf,a6,a7⟩,?_,⟨f1,fun x hx=>(f3 x hx).1,s1,p1,?_,?_,?_,?_⟩⟩
 ·match cs,hl with
  | [w0,w1,w2,w3,w4,w5,w6,w7],_ =>
   simp at e0 e1 e2 e3 e4 e5 e6 e7
   subst e0 e1 e2 e3 e4 e5 e6 e7
   rfl
 ·exact Nat.le_trans (Nat.le_of_succ_le f2) b0
 ·exact Nat.le_trans (Nat.le_of_succ_le s2) b4
 ·exact Nat.le_trans (Nat.le_of_succ_le p2) b5
 ·intro f hf i hi
  obtain⟨q,hq,rfl⟩:=List.mem_map.1 hf
  exact(f3 q hq).2.2 i hi
theorem rm:fH enc Tryz.prog W Rows.uptoBulk 22 (fun p:Value×List bc=>[p.1]) (fun p n=>iG W eT 8 p.1 p.2∧p.2.length+1≤n∧ ∀ a∈p.2,DV W a n) :=
 fH.slice kC Tryz.underlying22 (by kernel_rfl) (by decide) (fun _=>rfl) Ip (fun _ _ _ hm h=>⟨h.fs,h.ins,h.bK,h.bf,Nat.le_trans h.fl hm,Nat.le_trans h.sl hm,Nat.le_trans h.pl hm,h.wo⟩)
theorem Cr:fH enc Tryz.prog W Rows.uptoBulk 71 Ke (fun _ _=>True):=fun fuel cs x h=>by
 obtain⟨hl,hf⟩:=kp kC Tryz.underlying71 (by kernel_rfl) (by
  intro i f hi
  match i,hi with
  | 0,hi=>cases hi;exact⟨rfl,by kernel_rfl⟩
  | 1,hi=>cases hi;exact⟨rfl,by kernel_rfl⟩
  | 2,hi=>cases hi;exact⟨rfl,by kernel_rfl⟩
  | n+3,hi=>simp at hi) h
 obtain⟨v0,n0,y0,e0,t0,_⟩:=hf 0 _ rfl
 obtain⟨v1,n1,y1,e1,t1,_⟩:=hf 1 _ rfl
 obtain⟨v2,n2,y2,e2,t2,_⟩:=hf 2 _ rfl
 obtain⟨a0,r0,_,_⟩:=DataW.trod_int Tryz.underlying3 t0
 obtain⟨a1,r1,_,_⟩:=DataW.trod_int Tryz.underlying3 t1
 obtain⟨a2,r2,_,_⟩:=DataW.trod_int Tryz.underlying3 t2
 cases r0;cases r1;cases r2
 refine⟨⟨a0,a1,a2⟩,?_,trivial⟩
 match cs,hl with
 | [w0,w1,w2],_ =>
  simp at e0 e1 e2
  subst e0 e1 e2
  rfl
theorem AR:fH enc Tryz.prog W Rows.uptoBulk 67 (fun p:Value×List N5=>[p.1]) (fun p n=>iG W Ke 3 p.1 p.2∧p.2.length+1≤n∧ ∀ a∈p.2,True) :=
 fH.slice kC Tryz.underlying67 (by kernel_rfl) (by decide) (fun _=>rfl) Cr (fun _ _ _ _ _=>trivial)
theorem Iq:fH enc Tryz.prog W Rows.uptoBulk 32 nW (fun _ _=>True):=fun fuel cs x h=>by
 obtain⟨hl,hf⟩:=kp kC Tryz.underlying32 (by kernel_rfl) (by
  intro i f hi
  match i,hi with
  | 0,hi=>cases hi;exact⟨rfl,by kernel_rfl⟩
  | 1,hi=>cases hi;exact⟨rfl,by kernel_rfl⟩
  | 2,hi=>cases hi;exact⟨rfl,by kernel_rfl⟩
  | n+3,hi=>simp at hi) h
 obtain⟨v0,n0,y0,e0,t0,_⟩:=hf 0 _ rfl
 obtain⟨v1,n1,y1,e1,t1,_⟩:=hf 1 _ rfl
 obtain⟨v2,n2,y2,e2,t2,_⟩:=hf 2 _ rfl
 obtain⟨a0,r0,_,_⟩:=DataW.trod_int Tryz.underlying3 t0
 obtain⟨a1,r1,_,_⟩:=DataW.trod_int Tryz.underlying3 t1
 obtain⟨a2,r2,_,_⟩:=DataW.trod_int Tryz.underlying3 t2
 cases r0;cases r1;cases r2
 refine⟨⟨a0,a1,a2⟩,?_,trivial⟩
 match cs,hl with
 | [w0,w1,w2],_ =>
  simp at e0 e1 e2
  subst e0 e1 e2
  rfl
theorem xo:fH enc Tryz.prog W Rows.uptoBulk 23 (fun p:Value×List oo=>[p.1]) (fun p n=>iG W nW 3 p.1 p.2∧p.2.length+1≤n∧ ∀ a∈p.2,True) :=
 fH.slice kC Tryz.underlying23 (by kernel_rfl) (by decide) (fun _=>rfl) Iq (fun _ _ _ _ _=>trivial)
end
theorem own:ownKnob Tryz.prog.godebug=none:=by kernel_rfl
theorem laid:laidOutB Tryz.prog=true:=by kernel_rfl
end Go.Proofs.YtpbjdoplfgeliaaGreat
namespace Go.SLYtpbjdoplfgeliaaGreat
open Go Go.RowKit
class jU(P:Program)(t:TypeId)(u:outParam TypeDesc):Prop where
 ok:P.underlying t=some u
class iQ(P:Program)(t:TypeId)(k:outParam Nat):Prop where
 ok:∀ w,(sizeOf t).run P w = .ok k w
class One(P:Program)(t:TypeId):Prop where
 ok:∀ w,(isAgg t).run P w = .ok false w
class jV(P:Program)(t:TypeId):Prop where
 ok:∀ w,(isAgg t).run P w = .ok true w
class cR(P:Program)(S:TypeId)(f:Nat)(k:outParam Nat):Prop where
 ok:∀ (b o:Nat) (w:World),(Instr.fieldAt S (.pointer (some ⟨b,o,none⟩)) f).run P w = .ok (.pointer (some ⟨b,o+k,none⟩)) w
section
variable{P:Program}{W:World}{N:Nat}{Q:Exit→Act→World→Prop}{L:List (Nat×Option Value)}{H:List aa}{O:Array Oper}{T:TypeId}{K:List aa}{ks:List Nat}
theorem Y.o{S:TypeId}{f k:Nat}[h:cR P S f k]{x:Operand}{b o:Nat}(hx:ev L x=some (.pointer (some ⟨b,o,none⟩))):Y P W N (.fieldAddr S x f) T L H (.pointer (some ⟨b,o+k,none⟩)):=fun dst pos after guard a w ha hs=>by
 simp only[execOp,ha.eval hx]
 exact bS (h.ok b o w)
theorem Y.f{S:TypeId}{f k:Nat}[h:cR P S f k]{x:Operand}{b:Nat}(hx:ev L x=some (.pointer (some ⟨b,0,none⟩))):Y P W N (.fieldAddr S x f) T L H (.pointer (some ⟨b,k,none⟩)):=by
 have:=Y.o (P:=P) (W:=W) (N:=N) (H:=H) (T:=T) (S:=S) (f:=f) (k:=k) hx
 rwa [Nat.zero_add] at this
theorem Y.z{S:TypeId}{f:Nat}[h:cR P S f 0]{x:Operand}{b o:Nat}(hx:ev L x=some (.pointer (some ⟨b,o,none⟩))):Y P W N (.fieldAddr S x f) T L H (.pointer (some ⟨b,o,none⟩)):=Y.o (k:=0) hx
theorem Y.ld{x:Operand}{b o:Nat}{v:Value}[h:One P T]{T':TypeId}(hx:ev L x=some (.pointer (some ⟨b,o,none⟩)))(hc:Cell W H b o v):Y P W N (.load T x) T' L H v:=Y.load h.ok hx hc
theorem Y.l{x:Operand}{b i:Nat}{v:Value}{cs:List Value}[h:One P T]{T':TypeId}(hx:ev L x=some (.pointer (some ⟨b,i,none⟩)))[hh:bY H b 0 cs](hc:cs[i]?=some v:=by rfl):Y P W N (.load T x) T' L H v:=Y.load h.ok hx (Cell.a hc)
theorem Y.lo{x:Operand}{b o i:Nat}{v:Value}{cs:List Value}[h:One P T]{T':TypeId}(hx:ev L x=some (.pointer (some ⟨b,o+i,none⟩)))[hh:bY H b o cs](hc:cs[i]?=some v:=by rfl):Y P W N (.load T x) T' L H v:=Y.load h.ok hx (Cell.ao hc)
theorem Y.lz{x:Operand}{b o:Nat}{v:Value}{cs:List Value}[h:One P T]{T':TypeId}(hx:ev L x=some (.pointer (some ⟨b,o,none⟩)))[hh:bY H b o cs](hc:cs[0]?=some v:=by rfl):Y P W N (.load T x) T' L H v:=Y.load h.ok hx (Cell.az hc)
theorem Y.lr{α:Type}{enc:α→List Value}{k i:Nat}{v u:Value}{xs:List α}{y:α}{x:Operand}[h:One P T]{T':TypeId}(hx:ev L x=some (.pointer (some ⟨blk v,ek v+i * k,none⟩)))(hy:xs[i]?=some y)[hr:aC W H v enc k xs](hu:(enc y)[0]?=some u:=by rfl):Y P W N (.load T x) T' L H u:=Y.load h.ok hx (Cell.Lb hr.rd hy hu)
theorem Y.la{x:Operand}{b o k:Nat}{cs:List Value}[h:jV P T][z:iQ P T k]{T':TypeId}(hx:ev L x=some (.pointer (some ⟨b,o,none⟩)))(hc:Cells W H b o cs)(hz:cs.length=k:=by rfl):Y P W N (.load T x) T' L H (.agg cs.toArray):=Y.Ge h.ok hx hc (by rw[hz];exact z.ok)
theorem Y.lA{x:Operand}{b o k:Nat}{cs:List Value}[h:jV P T][z:iQ P T k]{T':TypeId}(hx:ev L x=some (.pointer (some ⟨b,o,none⟩)))[hh:bY H b o cs](hz:cs.length=k:=by rfl):Y P W N (.load T x) T' L H (.agg cs.toArray):=Y.la hx Cells.a hz
theorem Y.len{α:Type}{enc:α→List Value}{k:Nat}{x:Operand}{t e:TypeId}{v:Value}{xs:List α}[hu:jU P t (.slice e)](hx:ev L x=some v)[h:aC W H v enc k xs]:Y P W N (.call ⟨.builtin .len, #[x], #[t]⟩) T L H (.int .i64 (xs.length:Int)):=Y.Da hu.ok hx h.rd
theorem Y.lens{x:Operand}{t e:TypeId}{p:Option Addr}{n c:Nat}[hu:jU P t (.slice e)](hx:ev L x=some (.slice p n c)):Y P W N (.call ⟨.builtin .len, #[x], #[t]⟩) T L H (.int .i64 n):=Y.zv hu.ok hx
theorem Y.ix{α:Type}{enc:α→List Value}{k:Nat}{x y:Operand}{t e:TypeId}{v:Value}{xs:List α}{kd:IntKind}{j:Int}(i:Nat)[hu:jU P t (.slice e)][hz:iQ P e k](hx:ev L x=some v)(hy:ev L y=some (.int kd j))[h:aC W H v enc k xs](hj:j=(i:Int))(hi:i<xs.length):Y P W N (.indexAddr t x y) T L H (.pointer (some ⟨blk v,ek v+i * k,none⟩)):=Y.tm i hu.ok hz.ok hx hy h.rd hj hi
theorem Y.Pb{xT e yT:TypeId}{x y:Operand}{p:Option Addr}[hu:jU P xT (.pointer e)](hx:ev L x=some (.pointer p))(hy:ev L y=some (.pointer none)):Y P W N (.binOp .eql xT x y yT) T L H (.bool p.isNone):=Y.F8 hu.ok hx hy
theorem Y.OI{xT e yT:TypeId}{x y:Operand}{p:Option Addr}[hu:jU P xT (.pointer e)](hx:ev L x=some (.pointer p))(hy:ev L y=some (.pointer none)):Y P W N (.binOp .neq xT x y yT) T L H (.bool (!p.isNone)):=Y.Ee hu.ok hx hy
theorem aR.p{op:Op}{pos:String}{after:Array Edge}{d:Nat}{rest:List Oper}{v:Value}(hy:Y P W N op T L H v)(k:aR P W N O Q rest ((d,some v)::L) H)(hN:Nat.blt d N=true:=by rfl):aR P W N O Q (⟨some d,op,T,pos,after,none⟩::rest) L H:=aR.y hN hy k
theorem aR.g{op:Op}{pos:String}{after:Array Edge}{d j t:Nat}{want:Bool}{rest:List Oper}{v:Value}(hy:Y P W N op T L H v)(k:aR P W N O Q rest ((d,some v)::L) H)(hj:(O[j]?).bind (·.dst)=some t:=by rfl)(ht:look L t=some (.bool want):=by rfl)(hN:Nat.blt d N=true:=by rfl):aR P W N O Q (⟨some d,op,T,pos,after,some (j,want)⟩::rest) L H:=aR.yg hj ht hN hy k
theorem aR.u{op:Op}{pos:String}{after:Array Edge}{d j t:Nat}{want:Bool}{rest:List Oper}{u:Value}(k:aR P W N O Q rest ((d,some undef)::L) H)(hj:(O[j]?).bind (·.dst)=some t:=by rfl)(ht:look L t=some u:=by rfl)(hb:(boolOf u == some want)=false:=by rfl)(hN:Nat.blt d N=true:=by rfl):aR P W N O Q (⟨some d,op,T,pos,after,some (j,want)⟩::rest) L H:=aR.skip hj ht hb hN k
theorem bm.p{op:Op}{pos:String}{after:Array Edge}{d:Nat}{rest:List Oper}{v:Value}(hy:Y P W N op T L H v)(k:bm P W N K O Q ks rest ((d,some v)::L) H)(hN:Nat.blt d N=true:=by rfl):bm P W N K O Q (1::ks) (⟨some d,op,T,pos,after,none⟩::rest) L H:=bm.s hN hy k
theorem bm.q{op:Op}{pos:String}{after:Array Edge}{d:Nat}{rest:List Oper}{v:Value}(hy:Y P W N op T L K v)(k:bm P W N K O Q ks rest ((d,some v)::L) H)(hN:Nat.blt d N=true:=by rfl)(hK:∀ w,Sat W w (seps H)→Sat W w (seps K):=by exact Kept.auto):bm P W N K O Q (0::ks) (⟨some d,op,T,pos,after,none⟩::rest) L H:=bm.k hN hK hy k
theorem bm.g{op:Op}{pos:String}{after:Array Edge}{d j t:Nat}{want:Bool}{rest:List Oper}{v:Value}(hy:Y P W N op T L H v)(k:bm P W N K O Q ks rest ((d,some v)::L) H)(hj:(O[j]?).bind (·.dst)=some t:=by rfl)(ht:look L t=some (.bool want):=by rfl)(hN:Nat.blt d N=true:=by rfl):bm P W N K O Q (1::ks) (⟨some d,op,T,pos,after,some (j,want)⟩::rest) L H:=bm.sg hj ht hN hy k
theorem bm.h{op:Op}{pos:String}{after:Array Edge}{d j t:Nat}{want:Bool}{rest:List Oper}{v:Value}(hy:Y P W N op T L K v)(k:bm P W N K O Q ks rest ((d,some v)::L) H)(hj:(O[j]?).bind (·.dst)=some t:=by rfl)(ht:look L t=some (.bool want):=by rfl)(hN:Nat.blt d N=true:=by rfl)(hK:∀ w,Sat W w (seps H)→Sat W w (seps K):=by exact Kept.auto):bm P W N K O Q (0::ks) (⟨some d,op,T,pos,after,some (j,want)⟩::rest) L H:=bm.kg hj ht hN hK hy k
theorem bm.u{op:Op}{pos:String}{after:Array Edge}{d j t:Nat}{want:Bool}{rest:List Oper}{u:Value}(k:bm P W N K O Q ks rest ((d,some undef)::L) H)(hj:(O[j]?).bind (·.dst)=some t:=by rfl)(ht:look L t=some u:=by rfl)(hb:(boolOf u == some want)=false:=by rfl)(hN:Nat.blt d N=true:=by rfl)(hK:∀ w,Sat W w (seps H)→Sat W w (seps K):=by exact Kept.auto):bm P W N K O Q (0::ks) (⟨some d,op,T,pos,after,some (j,want)⟩::rest) L H:=bm.M1 hj ht hb hN hK k
theorem bm.w{op:Op}{pos:String}{after:Array Edge}{d j t:Nat}{want:Bool}{rest:List Oper}{u:Value}(k:bm P W N K O Q ks rest ((d,some undef)::L) H)(hj:(O[j]?).bind (·.dst)=some t:=by rfl)(ht:look L t=some u:=by rfl)(hb:(boolOf u == some want)=false:=by rfl)(hN:Nat.blt d N=true:=by rfl):bm P W N K O Q (1::ks) (⟨some d,op,T,pos,after,some (j,want)⟩::rest) L H:=bm.M3 hj ht hb hN k
end
end Go.SLYtpbjdoplfgeliaaGreat
namespace Go.SLYtpbjdoplfgeliaaGreat
open Go Go.RowKit
inductive F1:Nat→Prop where
 | mk (n:Nat):F1 n
theorem F1.s{n:Nat}(_:F1 (n+1)):F1 n:=.mk n
structure Hid(G:Prop):Prop where
 go:G
inductive MX{X:Type}:X→Prop where
 | mk (x:X):MX x
section
variable{P:Program}{W:World}{N:Nat}{Q:Exit→Act→World→Prop}{L:List (Nat×Option Value)}{H:List aa}{O:Array Oper}{T:TypeId}{K:List aa}{ks:List Nat}{rest:List Oper}
theorem Y.y{op:Op}{v:Value}(h:Y P W N op T L H v:=by first | exact .m rfl | exact .a rfl | exact .n rfl | exact .l rfl | exact .z rfl | exact .f rfl | exact .o rfl | exact .eql rfl rfl | exact .t rfl rfl | exact .u rfl rfl | exact .lr rfl ‹_› | exact .lA rfl | exact .len rfl | exact .lss rfl rfl | exact .extract rfl rfl | exact .Pb rfl rfl | exact .neq rfl rfl | exact .N8 rfl | exact .not rfl | exact .geq rfl rfl | exact .gtr rfl rfl | exact .leq rfl rfl | exact .OI rfl rfl | exact .lo rfl | exact .lz rfl | exact .lens rfl | exact .la rfl (Cells.rd Rd.s ‹_›) | exact .ix _ rfl rfl rfl (by first | omega | decide) | exact .inc rfl rfl (by omega) | exact .sub rfl rfl (by omega)):Y P W N op T L H v:=h
theorem aR.c{f:FuncId}{xs:Array Operand}{ts:Array TypeId}{pos:String}{after:Array Edge}{d:Nat}{args:List Value}{pre R:List aa}{X:Type}{val:X→Value}{fact:X→Prop}{post:X→List aa}
  (hc:∀ args w,(callFunc f args).run P w = .ok (.enter f args) w) (hx:evs L xs.toList=some args) (hfn:Fn P W f args pre X val fact post) (h:∀ x,fact x→aR P W N O Q rest ((d,some (val x))::L) (post x++R)) (ht:aw H pre R:=by exact aw.auto) (hN:Nat.blt d N=true:=by rfl):aR P W N O Q (⟨some d,.call ⟨.value (.func f),xs,ts⟩,T,pos,after,none⟩::rest) L H :=
 .aj rfl (af.eD hN hc hx hfn ht) fun _ _ e=>by obtain⟨y,hy,rfl,rfl⟩:=e;exact h y hy
theorem aR.cg{f:FuncId}{xs:Array Operand}{ts:Array TypeId}{pos:String}{after:Array Edge}{d j t:Nat}{want:Bool}{args:List Value}{pre R:List aa}{X:Type}{val:X→Value}{fact:X→Prop}{post:X→List aa}
  (hc:∀ args w,(callFunc f args).run P w = .ok (.enter f args) w) (hx:evs L xs.toList=some args) (hfn:Fn P W f args pre X val fact post) (h:∀ x,fact x→aR P W N O Q rest ((d,some (val x))::L) (post x++R)) (ht:aw H pre R:=by exact aw.auto) (hj:(O[j]?).bind (·.dst)=some t:=by rfl) (hb:look L t=some (.bool want):=by rfl) (hN:Nat.blt d N=true:=by rfl):aR P W N O Q (⟨some d,.call ⟨.value (.func f),xs,ts⟩,T,pos,after,some (j,want)⟩::rest) L H :=
 .dg rfl hj hb (af.eD hN hc hx hfn ht) fun _ _ e=>by obtain⟨y,hy,rfl,rfl⟩:=e;exact h y hy
theorem bm.c{f:FuncId}{xs:Array Operand}{ts:Array TypeId}{pos:String}{after:Array Edge}{d:Nat}{args:List Value}{pre R:List aa}{X:Type}{val:X→Value}{fact:X→Prop}{post:X→List aa}
  (hc:∀ args w,(callFunc f args).run P w = .ok (.enter f args) w) (hx:evs L xs.toList=some args) (hfn:Fn P W f args pre X val fact post) (h:∀ x,fact x→bm P W N K O Q ks rest ((d,some (val x))::L) (post x++R)) (ht:aw H pre R:=by exact aw.auto) (hN:Nat.blt d N=true:=by rfl):bm P W N K O Q (3::ks) (⟨some d,.call ⟨.value (.func f),xs,ts⟩,T,pos,after,none⟩::rest) L H :=
 .d3 rfl (af.eD hN hc hx hfn ht) fun _ _ e=>by obtain⟨y,hy,rfl,rfl⟩:=e;exact h y hy
theorem bm.c2{f:FuncId}{xs:Array Operand}{ts:Array TypeId}{pos:String}{after:Array Edge}{d:Nat}{args:List Value}{pre R:List aa}{X:Type}{val:X→Value}{fact:X→Prop}{post:X→List aa}
  (hc:∀ args w,(callFunc f args).run P w = .ok (.enter f args) w) (hx:evs L xs.toList=some args) (hfn:Fn P W f args pre X val fact post) (h:∀ x,fact x→bm P W N K O Q ks rest ((d,some (val x))::L) (post x++R)) (ht:aw H pre R:=by exact aw.auto) (hN:Nat.blt d N=true:=by rfl) (hK:∀ w,Sat W w (seps H)→Sat W w (seps K):=by exact Kept.auto) (hK2:∀ x,fact x→ ∀ w,Sat W w (seps (post x++R))→Sat W w (seps K):=by intro _ _;exact Kept.auto):bm P W N K O Q (2::ks) (⟨some d,.call ⟨.value (.func f),xs,ts⟩,T,pos,after,none⟩::rest) L H :=
 .d2 rfl hK (af.eD hN hc hx hfn ht) (fun _ _ e=>by obtain⟨y,hy,rfl,rfl⟩:=e;exact hK2 y hy) fun _ _ e=>by obtain⟨y,hy,rfl,rfl⟩:=e;exact h y hy
section
variable{fn:Func}{X:Type}{val:X→Value}{fact:X→Prop}{post:X→List aa}{F:aa}{R:List aa}{x:X}
theorem bA.w1{t:Nat}{v:Value}(_:MX x)(hf:fact x:=by exact trivial)(hr:fn.results = #[.tmp t]:=by rfl)(ht:look L t=some v:=by rfl)(hv:v=val x:=by rfl)(he:aw H (post x++[F]) R:=by exact aw.auto):bA W N (bodyPost P fn (fun e w'=>∃ x,e = .returned (val x)∧fact x∧Sat W w' (sep (seps (post x)) F))) .ret L H :=
 .aS hr ht fun _ s=>⟨x,by rw[hv],hf,ak he s⟩
theorem bA.w2{t1 t2:Nat}{v1 v2:Value}(_:MX x)(hf:fact x:=by exact trivial)(hr:fn.results = #[.tmp t1,.tmp t2]:=by rfl)(h1:look L t1=some v1:=by rfl)(h2:look L t2=some v2:=by rfl)(hv:Value.tuple #[v1,v2]=val x:=by rfl)(he:aw H (post x++[F]) R:=by exact aw.auto):bA W N (bodyPost P fn (fun e w'=>∃ x,e = .returned (val x)∧fact x∧Sat W w' (sep (seps (post x)) F))) .ret L H :=
 .eE hr h1 h2 fun _ s=>⟨x,by rw[hv],hf,ak he s⟩
theorem bA.w0(_:MX x)(hf:fact x:=by exact trivial)(hr:fn.results = #[]:=by rfl)(hv:Value.tuple #[]=val x:=by rfl)(he:aw H (post x++[F]) R:=by exact aw.auto):bA W N (bodyPost P fn (fun e w'=>∃ x,e = .returned (val x)∧fact x∧Sat W w' (sep (seps (post x)) F))) .normal L H :=
 .xR hr fun _ s=>⟨x,by rw[hv],hf,ak he s⟩
theorem bA.wr(_:MX x)(hf:fact x:=by exact trivial)(hr:fn.results = #[]:=by rfl)(hv:Value.tuple #[]=val x:=by rfl)(he:aw H (post x++[F]) R:=by exact aw.auto):bA W N (bodyPost P fn (fun e w'=>∃ x,e = .returned (val x)∧fact x∧Sat W w' (sep (seps (post x)) F))) .ret L H :=
 .LD hr fun _ s=>⟨x,by rw[hv],hf,ak he s⟩
end
end
theorem J{G G':Prop}(n:Nat)(k:G')(f:F1 n→Hid G'→G:=by intro c h;(repeat (replace c:=F1.s c;first | refine .p .y ?_ | refine .n ?_ | refine .s ?_ | refine .r ?_ | refine .b ?_ | refine .t ?_ | refine .e ?_ | refine .u ?_ | refine .g .y ?_ | refine .v ?_ | refine .br ?_ | refine .tr ?_ | refine .q .y ?_ | refine .w ?_ | refine .h .y ?_ | refine .x ?_ | refine .bh ?_ | refine .bp rfl ?_ | refine .tx ?_ | (refine .aj rfl (af.st iQ.ok rfl rfl rfl rfl) ?_;rintro _ _ ⟨rfl,rfl⟩) | (refine .d3 rfl (af.st iQ.ok rfl rfl rfl rfl) ?_;rintro _ _ ⟨rfl,rfl⟩) | (refine .d2 rfl Kept.auto (af.st iQ.ok rfl rfl rfl rfl) (by rintro _ _ ⟨rfl,rfl⟩;exact Kept.auto) ?_;rintro _ _ ⟨rfl,rfl⟩) | (refine .aj rfl (af.iy (by exact iQ.ok) rfl rfl rfl (by rfl)) ?_;rintro _ _ ⟨rfl,rfl⟩)));exact h.go):G:=f (.mk n) ⟨k⟩
theorem JD{G p q G1 G2:Prop}(n:Nat)(k1:p→G1)(k2:q→G2)(f:F1 n→Hid (p→G1)→Hid (q→G2)→G:=by intro c h1 h2;(repeat (replace c:=F1.s c;first | refine .p .y ?_ | refine .n ?_ | refine .s ?_ | refine .r ?_ | refine .b ?_ | refine .t ?_ | refine .e ?_ | refine .u ?_ | refine .g .y ?_ | refine .v ?_ | refine .br ?_ | refine .tr ?_ | refine .q .y ?_ | refine .w ?_ | refine .h .y ?_ | refine .x ?_ | refine .bh ?_ | refine .bp rfl ?_ | refine .tx ?_ | (refine .aj rfl (af.st iQ.ok rfl rfl rfl rfl) ?_;rintro _ _ ⟨rfl,rfl⟩) | (refine .d3 rfl (af.st iQ.ok rfl rfl rfl rfl) ?_;rintro _ _ ⟨rfl,rfl⟩) | (refine .d2 rfl Kept.auto (af.st iQ.ok rfl rfl rfl rfl) (by rintro _ _ ⟨rfl,rfl⟩;exact Kept.auto) ?_;rintro _ _ ⟨rfl,rfl⟩) | (refine .aj rfl (af.iy (by exact iQ.ok) rfl rfl rfl (by rfl)) ?_;rintro _ _ ⟨rfl,rfl⟩)));first | exact .da rfl h1.go h2.go | exact .cond rfl h1.go h2.go):G:=f (.mk n) ⟨k1⟩ ⟨k2⟩
theorem JR{G:Prop}{X:Type}(n:Nat)(x:X)(f:F1 n→MX x→G:=by intro c h;(repeat (replace c:=F1.s c;first | refine .p .y ?_ | refine .n ?_ | refine .s ?_ | refine .r ?_ | refine .b ?_ | refine .t ?_ | refine .e ?_ | refine .u ?_ | refine .g .y ?_ | refine .v ?_ | refine .br ?_ | refine .tr ?_ | refine .q .y ?_ | refine .w ?_ | refine .h .y ?_ | refine .x ?_ | refine .bh ?_ | refine .bp rfl ?_ | refine .tx ?_ | (refine .aj rfl (af.st iQ.ok rfl rfl rfl rfl) ?_;rintro _ _ ⟨rfl,rfl⟩) | (refine .d3 rfl (af.st iQ.ok rfl rfl rfl rfl) ?_;rintro _ _ ⟨rfl,rfl⟩) | (refine .d2 rfl Kept.auto (af.st iQ.ok rfl rfl rfl rfl) (by rintro _ _ ⟨rfl,rfl⟩;exact Kept.auto) ?_;rintro _ _ ⟨rfl,rfl⟩) | (refine .aj rfl (af.iy (by exact iQ.ok) rfl rfl rfl (by rfl)) ?_;rintro _ _ ⟨rfl,rfl⟩)));first | exact .w1 h | exact .w2 h | exact .w0 h | exact .wr h):G:=f (.mk n) (.mk x)
theorem JS{G:Prop}(n:Nat)(f:F1 n→G:=by intro c;(repeat (replace c:=F1.s c;first | refine .p .y ?_ | refine .n ?_ | refine .s ?_ | refine .r ?_ | refine .b ?_ | refine .t ?_ | refine .e ?_ | refine .u ?_ | refine .g .y ?_ | refine .v ?_ | refine .br ?_ | refine .tr ?_ | refine .q .y ?_ | refine .w ?_ | refine .h .y ?_ | refine .x ?_ | refine .bh ?_ | refine .bp rfl ?_ | refine .tx ?_ | (refine .aj rfl (af.st iQ.ok rfl rfl rfl rfl) ?_;rintro _ _ ⟨rfl,rfl⟩) | (refine .d3 rfl (af.st iQ.ok rfl rfl rfl rfl) ?_;rintro _ _ ⟨rfl,rfl⟩) | (refine .d2 rfl Kept.auto (af.st iQ.ok rfl rfl rfl rfl) (by rintro _ _ ⟨rfl,rfl⟩;exact Kept.auto) ?_;rintro _ _ ⟨rfl,rfl⟩) | (refine .aj rfl (af.iy (by exact iQ.ok) rfl rfl rfl (by rfl)) ?_;rintro _ _ ⟨rfl,rfl⟩)));first | exact .n9 .auto rfl (fun _ h=>h) | exact .n9 .auto rfl (aw.kept .auto)):G:=f (.mk n)
end Go.SLYtpbjdoplfgeliaaGreat
namespace Go.SLYtpbjdoplfgeliaaGreat
open Go Go.RowKit Go.Proofs Go.Proofs.Tryz
instance:jU Tryz.prog 22 (.slice 52):=⟨underlying22⟩
instance:jU Tryz.prog 23 (.slice 32):=⟨underlying23⟩
instance:jU Tryz.prog 24 (.pointer 91):=⟨underlying24⟩
instance:jU Tryz.prog 33 (.slice 102):=⟨underlying33⟩
instance:jU Tryz.prog 36 (.slice 55):=⟨underlying36⟩
instance:jU Tryz.prog 42 (.pointer 154):=⟨underlying42⟩
instance:jU Tryz.prog 46 (.pointer 123):=⟨underlying46⟩
instance:jU Tryz.prog 49 (.slice 95):=⟨underlying49⟩
instance:jU Tryz.prog 50 (.slice 3):=⟨underlying50⟩
instance:jU Tryz.prog 64 (.slice 92):=⟨underlying64⟩
instance:jU Tryz.prog 67 (.slice 71):=⟨underlying67⟩
instance:jU Tryz.prog 85 (.pointer 167):=⟨underlying85⟩
instance:jU Tryz.prog 95 (.slice 94):=⟨underlying95⟩
instance:jU Tryz.prog 96 (.pointer 171):=⟨underlying96⟩
instance:jU Tryz.prog 108 (.slice 254):=⟨underlying108⟩
instance:jU Tryz.prog 111 (.pointer 189):=⟨underlying111⟩
instance:jU Tryz.prog 113 (.pointer 195):=⟨underlying113⟩
instance:jU Tryz.prog 115 (.pointer 203):=⟨underlying115⟩
instance:jU Tryz.prog 117 (.pointer 206):=⟨underlying117⟩
instance:jU Tryz.prog 119 (.pointer 135):=⟨underlying119⟩
instance:jU Tryz.prog 121 (.slice 126):=⟨underlying121⟩
instance:jU Tryz.prog 126 (.pointer 209):=⟨underlying126⟩
instance:jU Tryz.prog 152 (.slice 85):=⟨underlying152⟩
instance:jU Tryz.prog 163 (.pointer 251):=⟨underlying163⟩
instance:jU Tryz.prog 164 (.slice 228):=⟨underlying164⟩
instance:jU Tryz.prog 165 (.slice 232):=⟨underlying165⟩
instance:jU Tryz.prog 169 (.slice 46):=⟨underlying169⟩
instance:jU Tryz.prog 187 (.slice 264):=⟨underlying187⟩
instance:jU Tryz.prog 190 (.slice 288):=⟨underlying190⟩
instance:jU Tryz.prog 192 (.slice 198):=⟨underlying192⟩
instance:jU Tryz.prog 193 (.slice 200):=⟨underlying193⟩
instance:jU Tryz.prog 196 (.slice 284):=⟨underlying196⟩
instance:jU Tryz.prog 201 (.slice 145):=⟨underlying201⟩
instance:jU Tryz.prog 207 (.slice 360):=⟨underlying207⟩
instance:jU Tryz.prog 249 (.slice 252):=⟨underlying249⟩
instance:jU Tryz.prog 252 (.pointer 310):=⟨underlying252⟩
instance:jU Tryz.prog 281 (.pointer 198):=⟨underlying281⟩
instance:jU Tryz.prog 317 (.pointer 288):=⟨underlying317⟩
instance:jU Tryz.prog 322 (.pointer 200):=⟨underlying322⟩
instance:jU Tryz.prog 338 (.slice 165):=⟨underlying338⟩
instance:iQ Tryz.prog 3 1:=⟨sizeOf3⟩
instance:iQ Tryz.prog 4 1:=⟨sizeOf4⟩
instance:iQ Tryz.prog 25 1:=⟨sizeOf25⟩
instance:iQ Tryz.prog 32 3:=⟨sizeOf32⟩
instance:iQ Tryz.prog 46 1:=⟨sizeOf46⟩
instance:iQ Tryz.prog 52 8:=⟨sizeOf52⟩
instance:iQ Tryz.prog 55 4:=⟨sizeOf55⟩
instance:iQ Tryz.prog 57 4:=⟨sizeOf57⟩
instance:iQ Tryz.prog 64 1:=⟨sizeOf64⟩
instance:iQ Tryz.prog 71 3:=⟨sizeOf71⟩
instance:iQ Tryz.prog 75 6:=⟨sizeOf75⟩
instance:iQ Tryz.prog 85 1:=⟨sizeOf85⟩
instance:iQ Tryz.prog 92 1:=⟨sizeOf92⟩
instance:iQ Tryz.prog 94 5:=⟨sizeOf94⟩
instance:iQ Tryz.prog 95 1:=⟨sizeOf95⟩
instance:iQ Tryz.prog 102 6:=⟨sizeOf102⟩
instance:iQ Tryz.prog 120 16:=⟨sizeOf120⟩
instance:iQ Tryz.prog 126 1:=⟨sizeOf126⟩
instance:iQ Tryz.prog 131 8:=⟨sizeOf131⟩
instance:iQ Tryz.prog 133 10:=⟨sizeOf133⟩
instance:iQ Tryz.prog 145 4:=⟨sizeOf145⟩
instance:iQ Tryz.prog 165 1:=⟨sizeOf165⟩
instance:iQ Tryz.prog 198 1:=⟨sizeOf198⟩
instance:iQ Tryz.prog 200 2:=⟨sizeOf200⟩
instance:iQ Tryz.prog 228 3:=⟨sizeOf228⟩
instance:iQ Tryz.prog 232 3:=⟨sizeOf232⟩
instance:iQ Tryz.prog 243 13:=⟨sizeOf243⟩
instance:iQ Tryz.prog 252 1:=⟨sizeOf252⟩
instance:iQ Tryz.prog 258 4:=⟨sizeOf258⟩
instance:iQ Tryz.prog 264 2:=⟨sizeOf264⟩
instance:iQ Tryz.prog 268 1:=⟨sizeOf268⟩
instance:iQ Tryz.prog 284 2:=⟨sizeOf284⟩
instance:iQ Tryz.prog 288 3:=⟨sizeOf288⟩
instance:iQ Tryz.prog 360 2:=⟨sizeOf360⟩
instance:One Tryz.prog 3:=⟨isAgg3⟩
instance:One Tryz.prog 4:=⟨isAgg4⟩
instance:One Tryz.prog 25:=⟨isAgg25⟩
instance:One Tryz.prog 33:=⟨isAgg33⟩
instance:One Tryz.prog 36:=⟨isAgg36⟩
instance:One Tryz.prog 42:=⟨isAgg42⟩
instance:One Tryz.prog 46:=⟨isAgg46⟩
instance:One Tryz.prog 49:=⟨isAgg49⟩
instance:One Tryz.prog 50:=⟨isAgg50⟩
instance:One Tryz.prog 64:=⟨isAgg64⟩
instance:One Tryz.prog 85:=⟨isAgg85⟩
instance:One Tryz.prog 92:=⟨isAgg92⟩
instance:One Tryz.prog 95:=⟨isAgg95⟩
instance:One Tryz.prog 108:=⟨isAgg108⟩
instance:One Tryz.prog 111:=⟨isAgg111⟩
instance:One Tryz.prog 113:=⟨isAgg113⟩
instance:One Tryz.prog 115:=⟨isAgg115⟩
instance:One Tryz.prog 117:=⟨isAgg117⟩
instance:One Tryz.prog 119:=⟨isAgg119⟩
instance:One Tryz.prog 121:=⟨isAgg121⟩
instance:One Tryz.prog 126:=⟨isAgg126⟩
instance:One Tryz.prog 152:=⟨isAgg152⟩
instance:One Tryz.prog 163:=⟨isAgg163⟩
instance:One Tryz.prog 164:=⟨isAgg164⟩
instance:One Tryz.prog 165:=⟨isAgg165⟩
instance:One Tryz.prog 169:=⟨isAgg169⟩
instance:One Tryz.prog 187:=⟨isAgg187⟩
instance:One Tryz.prog 190:=⟨isAgg190⟩
instance:One Tryz.prog 192:=⟨isAgg192⟩
instance:One Tryz.prog 193:=⟨isAgg193⟩
instance:One Tryz.prog 196:=⟨isAgg196⟩
instance:One Tryz.prog 201:=⟨isAgg201⟩
instance:One Tryz.prog 204:=⟨isAgg204⟩
instance:One Tryz.prog 207:=⟨isAgg207⟩
instance:One Tryz.prog 249:=⟨isAgg249⟩
instance:One Tryz.prog 252:=⟨isAgg252⟩
instance:jV Tryz.prog 32:=⟨isAgg32⟩
instance:jV Tryz.prog 52:=⟨isAgg52⟩
instance:jV Tryz.prog 55:=⟨isAgg55⟩
instance:jV Tryz.prog 57:=⟨isAgg57⟩
instance:jV Tryz.prog 75:=⟨isAgg75⟩
instance:jV Tryz.prog 94:=⟨isAgg94⟩
instance:jV Tryz.prog 102:=⟨isAgg102⟩
instance:jV Tryz.prog 120:=⟨isAgg120⟩
instance:jV Tryz.prog 131:=⟨isAgg131⟩
instance:jV Tryz.prog 133:=⟨isAgg133⟩
instance:jV Tryz.prog 145:=⟨isAgg145⟩
instance:jV Tryz.prog 198:=⟨isAgg198⟩
instance:jV Tryz.prog 200:=⟨isAgg200⟩
instance:jV Tryz.prog 228:=⟨isAgg228⟩
instance:jV Tryz.prog 232:=⟨isAgg232⟩
instance:jV Tryz.prog 258:=⟨isAgg258⟩
instance:jV Tryz.prog 264:=⟨isAgg264⟩
instance:jV Tryz.prog 284:=⟨isAgg284⟩
instance:jV Tryz.prog 288:=⟨isAgg288⟩
instance:jV Tryz.prog 360:=⟨isAgg360⟩
instance:cR Tryz.prog 32 0 0:=⟨ae (t:=3) underlying32 rfl sizeOf3⟩
instance:cR Tryz.prog 32 1 1:=⟨ae (t:=3) underlying32 rfl sizeOf3⟩
instance:cR Tryz.prog 32 2 2:=⟨ae (t:=3) underlying32 rfl sizeOf3⟩
instance:cR Tryz.prog 52 0 0:=⟨ae (t:=49) underlying52 rfl sizeOf49⟩
instance:cR Tryz.prog 52 1 1:=⟨ae (t:=3) underlying52 rfl sizeOf3⟩
instance:cR Tryz.prog 52 2 2:=⟨ae (t:=3) underlying52 rfl sizeOf3⟩
instance:cR Tryz.prog 52 3 3:=⟨ae (t:=3) underlying52 rfl sizeOf3⟩
instance:cR Tryz.prog 52 4 4:=⟨ae (t:=50) underlying52 rfl sizeOf50⟩
instance:cR Tryz.prog 52 5 5:=⟨ae (t:=50) underlying52 rfl sizeOf50⟩
instance:cR Tryz.prog 52 6 6:=⟨ae (t:=3) underlying52 rfl sizeOf3⟩
instance:cR Tryz.prog 52 7 7:=⟨ae (t:=3) underlying52 rfl sizeOf3⟩
instance:cR Tryz.prog 55 0 0:=⟨ae (t:=3) underlying55 rfl sizeOf3⟩
instance:cR Tryz.prog 55 1 1:=⟨ae (t:=3) underlying55 rfl sizeOf3⟩
instance:cR Tryz.prog 55 2 2:=⟨ae (t:=3) underlying55 rfl sizeOf3⟩
instance:cR Tryz.prog 55 3 3:=⟨ae (t:=3) underlying55 rfl sizeOf3⟩
instance:cR Tryz.prog 57 0 0:=⟨ae (t:=50) underlying57 rfl sizeOf50⟩
instance:cR Tryz.prog 57 1 1:=⟨ae (t:=4) underlying57 rfl sizeOf4⟩
instance:cR Tryz.prog 57 2 2:=⟨ae (t:=4) underlying57 rfl sizeOf4⟩
instance:cR Tryz.prog 57 3 3:=⟨ae (t:=4) underlying57 rfl sizeOf4⟩
instance:cR Tryz.prog 71 0 0:=⟨ae (t:=3) underlying71 rfl sizeOf3⟩
instance:cR Tryz.prog 71 1 1:=⟨ae (t:=3) underlying71 rfl sizeOf3⟩
instance:cR Tryz.prog 71 2 2:=⟨ae (t:=3) underlying71 rfl sizeOf3⟩
instance:cR Tryz.prog 75 0 0:=⟨ae (t:=4) underlying75 rfl sizeOf4⟩
instance:cR Tryz.prog 75 1 1:=⟨ae (t:=3) underlying75 rfl sizeOf3⟩
instance:cR Tryz.prog 75 2 2:=⟨ae (t:=57) underlying75 rfl sizeOf57⟩
instance:cR Tryz.prog 91 0 0:=⟨ae (t:=42) underlying91 rfl sizeOf42⟩
instance:cR Tryz.prog 91 1 1:=⟨ae (t:=50) underlying91 rfl sizeOf50⟩
instance:cR Tryz.prog 91 2 2:=⟨ae (t:=3) underlying91 rfl sizeOf3⟩
instance:cR Tryz.prog 91 3 3:=⟨ae (t:=36) underlying91 rfl sizeOf36⟩
instance:cR Tryz.prog 94 0 0:=⟨ae (t:=3) underlying94 rfl sizeOf3⟩
instance:cR Tryz.prog 94 1 1:=⟨ae (t:=3) underlying94 rfl sizeOf3⟩
instance:cR Tryz.prog 94 2 2:=⟨ae (t:=3) underlying94 rfl sizeOf3⟩
instance:cR Tryz.prog 94 3 3:=⟨ae (t:=3) underlying94 rfl sizeOf3⟩
instance:cR Tryz.prog 94 4 4:=⟨ae (t:=92) underlying94 rfl sizeOf92⟩
instance:cR Tryz.prog 102 2 2:=⟨ae (t:=92) underlying102 rfl sizeOf92⟩
instance:cR Tryz.prog 123 0 0:=⟨ae (t:=52) underlying123 rfl sizeOf52⟩
instance:cR Tryz.prog 123 1 8:=⟨ae (t:=111) underlying123 rfl sizeOf111⟩
instance:cR Tryz.prog 123 2 9:=⟨ae (t:=120) underlying123 rfl sizeOf120⟩
instance:cR Tryz.prog 123 3 25:=⟨ae (t:=64) underlying123 rfl sizeOf64⟩
instance:cR Tryz.prog 123 4 26:=⟨ae (t:=113) underlying123 rfl sizeOf113⟩
instance:cR Tryz.prog 123 5 27:=⟨ae (t:=121) underlying123 rfl sizeOf121⟩
instance:cR Tryz.prog 123 6 28:=⟨ae (t:=115) underlying123 rfl sizeOf115⟩
instance:cR Tryz.prog 123 7 29:=⟨ae (t:=117) underlying123 rfl sizeOf117⟩
instance:cR Tryz.prog 123 8 30:=⟨ae (t:=33) underlying123 rfl sizeOf33⟩
instance:cR Tryz.prog 133 0 0:=⟨ae (t:=3) underlying133 rfl sizeOf3⟩
instance:cR Tryz.prog 133 1 1:=⟨ae (t:=3) underlying133 rfl sizeOf3⟩
instance:cR Tryz.prog 133 2 2:=⟨ae (t:=131) underlying133 rfl sizeOf131⟩
instance:cR Tryz.prog 135 0 0:=⟨ae (t:=133) underlying135 rfl sizeOf133⟩
instance:cR Tryz.prog 135 1 10:=⟨ae (t:=92) underlying135 rfl sizeOf92⟩
instance:cR Tryz.prog 135 2 11:=⟨ae (t:=3) underlying135 rfl sizeOf3⟩
instance:cR Tryz.prog 135 3 12:=⟨ae (t:=92) underlying135 rfl sizeOf92⟩
instance:cR Tryz.prog 135 4 13:=⟨ae (t:=4) underlying135 rfl sizeOf4⟩
instance:cR Tryz.prog 135 5 14:=⟨ae (t:=3) underlying135 rfl sizeOf3⟩
instance:cR Tryz.prog 135 6 15:=⟨ae (t:=3) underlying135 rfl sizeOf3⟩
instance:cR Tryz.prog 135 7 16:=⟨ae (t:=3) underlying135 rfl sizeOf3⟩
instance:cR Tryz.prog 140 0 0:=⟨ae (t:=46) underlying140 rfl sizeOf46⟩
instance:cR Tryz.prog 140 1 1:=⟨ae (t:=3) underlying140 rfl sizeOf3⟩
instance:cR Tryz.prog 140 2 2:=⟨ae (t:=119) underlying140 rfl sizeOf119⟩
instance:cR Tryz.prog 140 3 3:=⟨ae (t:=94) underlying140 rfl sizeOf94⟩
instance:cR Tryz.prog 140 4 8:=⟨ae (t:=3) underlying140 rfl sizeOf3⟩
instance:cR Tryz.prog 140 5 9:=⟨ae (t:=57) underlying140 rfl sizeOf57⟩
instance:cR Tryz.prog 140 6 13:=⟨ae (t:=33) underlying140 rfl sizeOf33⟩
instance:cR Tryz.prog 145 0 0:=⟨ae (t:=3) underlying145 rfl sizeOf3⟩
instance:cR Tryz.prog 145 1 1:=⟨ae (t:=3) underlying145 rfl sizeOf3⟩
instance:cR Tryz.prog 145 2 2:=⟨ae (t:=4) underlying145 rfl sizeOf4⟩
instance:cR Tryz.prog 145 3 3:=⟨ae (t:=92) underlying145 rfl sizeOf92⟩
instance:cR Tryz.prog 154 0 0:=⟨ae (t:=50) underlying154 rfl sizeOf50⟩
instance:cR Tryz.prog 154 1 1:=⟨ae (t:=152) underlying154 rfl sizeOf152⟩
instance:cR Tryz.prog 167 0 0:=⟨ae (t:=46) underlying167 rfl sizeOf46⟩
instance:cR Tryz.prog 167 1 1:=⟨ae (t:=163) underlying167 rfl sizeOf163⟩
instance:cR Tryz.prog 167 2 2:=⟨ae (t:=164) underlying167 rfl sizeOf164⟩
instance:cR Tryz.prog 167 3 3:=⟨ae (t:=165) underlying167 rfl sizeOf165⟩
instance:cR Tryz.prog 167 4 4:=⟨ae (t:=4) underlying167 rfl sizeOf4⟩
instance:cR Tryz.prog 171 0 0:=⟨ae (t:=169) underlying171 rfl sizeOf169⟩
instance:cR Tryz.prog 177 0 0:=⟨ae (t:=3) underlying177 rfl sizeOf3⟩
instance:cR Tryz.prog 177 1 1:=⟨ae (t:=108) underlying177 rfl sizeOf108⟩
instance:cR Tryz.prog 189 0 0:=⟨ae (t:=187) underlying189 rfl sizeOf187⟩
instance:cR Tryz.prog 195 0 0:=⟨ae (t:=190) underlying195 rfl sizeOf190⟩
instance:cR Tryz.prog 195 1 1:=⟨ae (t:=192) underlying195 rfl sizeOf192⟩
instance:cR Tryz.prog 195 2 2:=⟨ae (t:=193) underlying195 rfl sizeOf193⟩
instance:cR Tryz.prog 198 0 0:=⟨ae (t:=196) underlying198 rfl sizeOf196⟩
instance:cR Tryz.prog 200 0 0:=⟨ae (t:=198) underlying200 rfl sizeOf198⟩
instance:cR Tryz.prog 200 1 1:=⟨ae (t:=3) underlying200 rfl sizeOf3⟩
instance:cR Tryz.prog 203 0 0:=⟨ae (t:=64) underlying203 rfl sizeOf64⟩
instance:cR Tryz.prog 203 1 1:=⟨ae (t:=201) underlying203 rfl sizeOf201⟩
instance:cR Tryz.prog 206 0 0:=⟨ae (t:=3) underlying206 rfl sizeOf3⟩
instance:cR Tryz.prog 206 1 1:=⟨ae (t:=204) underlying206 rfl sizeOf204⟩
instance:cR Tryz.prog 209 0 0:=⟨ae (t:=3) underlying209 rfl sizeOf3⟩
instance:cR Tryz.prog 209 1 1:=⟨ae (t:=64) underlying209 rfl sizeOf64⟩
instance:cR Tryz.prog 209 2 2:=⟨ae (t:=207) underlying209 rfl sizeOf207⟩
instance:cR Tryz.prog 209 3 3:=⟨ae (t:=50) underlying209 rfl sizeOf50⟩
instance:cR Tryz.prog 228 0 0:=⟨ae (t:=3) underlying228 rfl sizeOf3⟩
instance:cR Tryz.prog 228 1 1:=⟨ae (t:=3) underlying228 rfl sizeOf3⟩
instance:cR Tryz.prog 228 2 2:=⟨ae (t:=165) underlying228 rfl sizeOf165⟩
instance:cR Tryz.prog 232 0 0:=⟨ae (t:=3) underlying232 rfl sizeOf3⟩
instance:cR Tryz.prog 232 1 1:=⟨ae (t:=3) underlying232 rfl sizeOf3⟩
instance:cR Tryz.prog 232 2 2:=⟨ae (t:=3) underlying232 rfl sizeOf3⟩
instance:cR Tryz.prog 240 0 0:=⟨ae (t:=3) underlying240 rfl sizeOf3⟩
instance:cR Tryz.prog 240 1 1:=⟨ae (t:=50) underlying240 rfl sizeOf50⟩
instance:cR Tryz.prog 240 2 2:=⟨ae (t:=50) underlying240 rfl sizeOf50⟩
instance:cR Tryz.prog 240 3 3:=⟨ae (t:=50) underlying240 rfl sizeOf50⟩
instance:cR Tryz.prog 243 1 1:=⟨ae (t:=3) underlying243 rfl sizeOf3⟩
instance:cR Tryz.prog 251 0 0:=⟨ae (t:=249) underlying251 rfl sizeOf249⟩
instance:cR Tryz.prog 258 0 0:=⟨ae (t:=3) underlying258 rfl sizeOf3⟩
instance:cR Tryz.prog 258 1 1:=⟨ae (t:=4) underlying258 rfl sizeOf4⟩
instance:cR Tryz.prog 258 2 2:=⟨ae (t:=3) underlying258 rfl sizeOf3⟩
instance:cR Tryz.prog 258 3 3:=⟨ae (t:=4) underlying258 rfl sizeOf4⟩
instance:cR Tryz.prog 264 0 0:=⟨ae (t:=4) underlying264 rfl sizeOf4⟩
instance:cR Tryz.prog 264 1 1:=⟨ae (t:=92) underlying264 rfl sizeOf92⟩
instance:cR Tryz.prog 268 0 0:=⟨ae (t:=25) underlying268 rfl sizeOf25⟩
instance:cR Tryz.prog 271 0 0:=⟨ae (t:=133) underlying271 rfl sizeOf133⟩
instance:cR Tryz.prog 271 1 10:=⟨ae (t:=64) underlying271 rfl sizeOf64⟩
instance:cR Tryz.prog 284 0 0:=⟨ae (t:=3) underlying284 rfl sizeOf3⟩
instance:cR Tryz.prog 284 1 1:=⟨ae (t:=3) underlying284 rfl sizeOf3⟩
instance:cR Tryz.prog 288 0 0:=⟨ae (t:=198) underlying288 rfl sizeOf198⟩
instance:cR Tryz.prog 288 1 1:=⟨ae (t:=4) underlying288 rfl sizeOf4⟩
instance:cR Tryz.prog 288 2 2:=⟨ae (t:=3) underlying288 rfl sizeOf3⟩
instance:cR Tryz.prog 310 0 0:=⟨ae (t:=50) underlying310 rfl sizeOf50⟩
instance:cR Tryz.prog 360 0 0:=⟨ae (t:=3) underlying360 rfl sizeOf3⟩
instance:cR Tryz.prog 360 1 1:=⟨ae (t:=92) underlying360 rfl sizeOf92⟩
end Go.SLYtpbjdoplfgeliaaGreat
namespace Go.SLYtpbjdoplfgeliaaGreat
open Go Go.RowKit Go.Proofs Go.Proofs.Tryz
attribute [local irreducible] ar aR bm bA bH Y
theorem My{W:World}{A:aa}{v:Value}{xs:List Int}(hr:Rd W [A] aq 1 v xs)(hl:xs.length≤1000000000):Fn Tryz.prog W 197 [v] [A] Value (fun u=>u) (fun _=>True) (fun u=>[sl aq 1 u xs,A]):=by
 refine Fn.intro (N:=8) func197 rfl ntmps197 rfl fun F=>?_
 haveI hRI:∀ (H:List aa) [bE H A],aC W H v aq 1 xs:=fun H h=>⟨hr.at h.has⟩
 show ar _ _ _ _ _ _ [A,F]
 refine J 9 ?_
 refine .p (.zE underlying50 rfl rfl Rd.s) ?_
 refine JD 2 (fun h4=>?_) fun h4=>?_
 ·refine J 7 ?_
  refine .cM (fun w s=>Rd.zL Rd.s h4 w s) fun hn=>?_
  subst hn
  refine .to (A:=sl aq 1 (.slice none 0 0) ([]:List Int)) (Bs:=[]) .nil (fun h e=>.inl ⟨⟨_,rfl⟩,rfl,e⟩) ?_
  refine .aS rfl rfl fun w s=>⟨_,?_,trivial,ak .auto s⟩
  rfl
 ·refine J 4 ?_
  refine .aj rfl (af.gj 3 rfl rfl (by kernel_rfl)) ?_
  rintro _ _ ⟨b5,rfl,rfl⟩
  refine J 1 ?_
  refine .to (A:=sl aq 1 (.slice (some ⟨b5,0,none⟩) 0 0) ([]:List Int)) (Bs:=[]) .nil (fun h e=>.inl ⟨⟨_,rfl⟩,rfl,e⟩) ?_
  refine .aj rfl (af.append rfl underlying50 underlying50 typeInfo3 rfl rfl rfl (by decide) rfl rfl .auto Rd.s (by simp;omega) (py _)) ?_
  rintro _ _ ⟨v7,rfl,rfl⟩
  refine J 4 ?_
  refine .aS rfl rfl fun w s=>⟨_,?_,trivial,ak .auto s⟩
  rfl
theorem NK{W:World}{v:Value}{xs:List Int}:Fn Tryz.prog W 196 [v] [sl aq 1 v xs] Value (fun u=>u) (fun _=>True) (fun u=>[sl aq 1 u xs]):=by
 refine Fn.intro (N:=9) func196 rfl ntmps196 rfl fun F=>?_
 show ar _ _ _ _ _ _ [sl aq 1 v xs,F]
 refine .cM (fun w s=>(Rd.sl (W:=W) .here w s).1) fun hr=>?_
 obtain⟨a,cap,rfl,hle, -⟩:=hr
 refine J 12 ?_
 refine .p (.xW xs.length xs.length underlying50 sizeOf3 rfl rfl rfl rfl rfl (Nat.le_refl _) hle) ?_
 refine J 4 ?_
 refine .fx .auto ya ?_
 rintro J -
 refine .aS rfl rfl fun w s=>⟨_,?_,trivial,ak .auto s⟩
 rfl
theorem rp{W:World}{A:aa}{v:Value}{xs:List Ev}(hr:Rd W [A] cf 3 v xs)(hl:xs.length≤1000000000):Fn Tryz.prog W 153 [v] [A] Value (fun u=>u) (fun _=>True) (fun u=>[sl cf 3 u xs,A]):=by
 refine Fn.intro (N:=8) func153 rfl ntmps153 rfl fun F=>?_
 haveI hRI:∀ (H:List aa) [bE H A],aC W H v cf 3 xs:=fun H h=>⟨hr.at h.has⟩
 show ar _ _ _ _ _ _ [A,F]
 refine J 9 ?_
 refine .p (.zE underlying165 rfl rfl Rd.s) ?_
 refine JD 2 (fun h4=>?_) fun h4=>?_
 ·refine J 7 ?_
  refine .cM (fun w s=>Rd.zL Rd.s h4 w s) fun hn=>?_
  subst hn
  refine .to (A:=sl cf 3 (.slice none 0 0) ([]:List Ev)) (Bs:=[]) .nil (fun h e=>.inl ⟨⟨_,rfl⟩,rfl,e⟩) ?_
  refine .aS rfl rfl fun w s=>⟨_,?_,trivial,ak .auto s⟩
  rfl
 ·refine J 4 ?_
  refine .aj rfl (af.gj 232 rfl rfl (by kernel_rfl)) ?_
  rintro _ _ ⟨b5,rfl,rfl⟩
  refine J 1 ?_
  refine .to (A:=sl cf 3 (.slice (some ⟨b5,0,none⟩) 0 0) ([]:List Ev)) (Bs:=[]) .nil (fun h e=>.inl ⟨⟨_,rfl⟩,rfl,e⟩) ?_
  refine .aj rfl (af.append rfl underlying165 underlying165 typeInfo232 rfl rfl rfl (by decide) rfl rfl .auto Rd.s (by simp;omega) (Dc _)) ?_
  rintro _ _ ⟨v7,rfl,rfl⟩
  refine J 4 ?_
  refine .aS rfl rfl fun w s=>⟨_,?_,trivial,ak .auto s⟩
  rfl
theorem Lm{W:World}{v:Value}{xs:List Ev}:Fn Tryz.prog W 152 [v] [sl cf 3 v xs] Value (fun u=>u) (fun _=>True) (fun u=>[sl cf 3 u xs]):=by
 refine Fn.intro (N:=9) func152 rfl ntmps152 rfl fun F=>?_
 show ar _ _ _ _ _ _ [sl cf 3 v xs,F]
 refine .cM (fun w s=>(Rd.sl (W:=W) .here w s).1) fun hr=>?_
 obtain⟨a,cap,rfl,hle, -⟩:=hr
 refine J 12 ?_
 refine .p (.xW xs.length xs.length underlying165 sizeOf232 rfl rfl rfl rfl rfl (Nat.le_refl _) hle) ?_
 refine J 4 ?_
 refine .fx .auto ya ?_
 rintro J -
 refine .aS rfl rfl fun w s=>⟨_,?_,trivial,ak .auto s⟩
 rfl
theorem Mz{W:World}{A:aa}{v:Value}{xs:List Rec}(hr:Rd W [A] iU 6 v xs)(hl:xs.length≤1000000000):Fn Tryz.prog W 84 [v] [A] Value (fun u=>u) (fun _=>True) (fun u=>[sl iU 6 u xs,A]):=by
 refine Fn.intro (N:=8) func84 rfl ntmps84 rfl fun F=>?_
 haveI hRI:∀ (H:List aa) [bE H A],aC W H v iU 6 xs:=fun H h=>⟨hr.at h.has⟩
 show ar _ _ _ _ _ _ [A,F]
 refine J 9 ?_
 refine .p (.zE underlying33 rfl rfl Rd.s) ?_
 refine JD 2 (fun h4=>?_) fun h4=>?_
 ·refine J 7 ?_
  refine .cM (fun w s=>Rd.zL Rd.s h4 w s) fun hn=>?_
  subst hn
  refine .to (A:=sl iU 6 (.slice none 0 0) ([]:List Rec)) (Bs:=[]) .nil (fun h e=>.inl ⟨⟨_,rfl⟩,rfl,e⟩) ?_
  refine .aS rfl rfl fun w s=>⟨_,?_,trivial,ak .auto s⟩
  rfl
 ·refine J 4 ?_
  refine .aj rfl (af.gj 102 rfl rfl (by kernel_rfl)) ?_
  rintro _ _ ⟨b5,rfl,rfl⟩
  refine J 1 ?_
  refine .to (A:=sl iU 6 (.slice (some ⟨b5,0,none⟩) 0 0) ([]:List Rec)) (Bs:=[]) .nil (fun h e=>.inl ⟨⟨_,rfl⟩,rfl,e⟩) ?_
  refine .aj rfl (af.append rfl underlying33 underlying33 typeInfo102 rfl rfl rfl (by decide) rfl rfl .auto Rd.s (by simp;omega) (zK _)) ?_
  rintro _ _ ⟨v7,rfl,rfl⟩
  refine J 4 ?_
  refine .aS rfl rfl fun w s=>⟨_,?_,trivial,ak .auto s⟩
  rfl
theorem NL{W:World}{v:Value}{xs:List Rec}:Fn Tryz.prog W 83 [v] [sl iU 6 v xs] Value (fun u=>u) (fun _=>True) (fun u=>[sl iU 6 u xs]):=by
 refine Fn.intro (N:=9) func83 rfl ntmps83 rfl fun F=>?_
 show ar _ _ _ _ _ _ [sl iU 6 v xs,F]
 refine .cM (fun w s=>(Rd.sl (W:=W) .here w s).1) fun hr=>?_
 obtain⟨a,cap,rfl,hle, -⟩:=hr
 refine J 12 ?_
 refine .p (.xW xs.length xs.length underlying33 sizeOf102 rfl rfl rfl rfl rfl (Nat.le_refl _) hle) ?_
 refine J 4 ?_
 refine .fx .auto ya ?_
 rintro J -
 refine .aS rfl rfl fun w s=>⟨_,?_,trivial,ak .auto s⟩
 rfl
theorem MA{W:World}{A:aa}{v:Value}{xs:List Ins}(hr:Rd W [A] dM 5 v xs)(hl:xs.length≤1000000000):Fn Tryz.prog W 69 [v] [A] Value (fun u=>u) (fun _=>True) (fun u=>[sl dM 5 u xs,A]):=by
 refine Fn.intro (N:=8) func69 rfl ntmps69 rfl fun F=>?_
 haveI hRI:∀ (H:List aa) [bE H A],aC W H v dM 5 xs:=fun H h=>⟨hr.at h.has⟩
 show ar _ _ _ _ _ _ [A,F]
 refine J 9 ?_
 refine .p (.zE underlying95 rfl rfl Rd.s) ?_
 refine JD 2 (fun h4=>?_) fun h4=>?_
 ·refine J 7 ?_
  refine .cM (fun w s=>Rd.zL Rd.s h4 w s) fun hn=>?_
  subst hn
  refine .to (A:=sl dM 5 (.slice none 0 0) ([]:List Ins)) (Bs:=[]) .nil (fun h e=>.inl ⟨⟨_,rfl⟩,rfl,e⟩) ?_
  refine .aS rfl rfl fun w s=>⟨_,?_,trivial,ak .auto s⟩
  rfl
 ·refine J 4 ?_
  refine .aj rfl (af.gj 94 rfl rfl (by kernel_rfl)) ?_
  rintro _ _ ⟨b5,rfl,rfl⟩
  refine J 1 ?_
  refine .to (A:=sl dM 5 (.slice (some ⟨b5,0,none⟩) 0 0) ([]:List Ins)) (Bs:=[]) .nil (fun h e=>.inl ⟨⟨_,rfl⟩,rfl,e⟩) ?_
  refine .aj rfl (af.append rfl underlying95 underlying95 typeInfo94 rfl rfl rfl (by decide) rfl rfl .auto Rd.s (by simp;omega) (Gv _)) ?_
  rintro _ _ ⟨v7,rfl,rfl⟩
  refine J 4 ?_
  refine .aS rfl rfl fun w s=>⟨_,?_,trivial,ak .auto s⟩
  rfl
theorem Kv{W:World}{A:aa}{v:Value}{xs:List (Value×List Ins)}(hr:Rd W [A] eu 1 v xs)(hl:xs.length≤1000000000)(hone:∀ y∈xs, ∀ c∈eu y,c.oneCell'=true):Fn Tryz.prog W 68 [v] [A] Value (fun u=>u) (fun _=>True) (fun u=>[sl eu 1 u xs,A]):=by
 refine Fn.intro (N:=8) func68 rfl ntmps68 rfl fun F=>?_
 haveI hRI:∀ (H:List aa) [bE H A],aC W H v eu 1 xs:=fun H h=>⟨hr.at h.has⟩
 show ar _ _ _ _ _ _ [A,F]
 refine J 9 ?_
 refine .p (.zE underlying49 rfl rfl Rd.s) ?_
 refine JD 2 (fun h4=>?_) fun h4=>?_
 ·refine J 7 ?_
  refine .cM (fun w s=>Rd.zL Rd.s h4 w s) fun hn=>?_
  subst hn
  refine .to (A:=sl eu 1 (.slice none 0 0) ([]:List (Value×List Ins))) (Bs:=[]) .nil (fun h e=>.inl ⟨⟨_,rfl⟩,rfl,e⟩) ?_
  refine .aS rfl rfl fun w s=>⟨_,?_,trivial,ak .auto s⟩
  rfl
 ·refine J 4 ?_
  refine .aj rfl (af.gj 95 rfl rfl (by kernel_rfl)) ?_
  rintro _ _ ⟨b5,rfl,rfl⟩
  refine J 1 ?_
  refine .to (A:=sl eu 1 (.slice (some ⟨b5,0,none⟩) 0 0) ([]:List (Value×List Ins))) (Bs:=[]) .nil (fun h e=>.inl ⟨⟨_,rfl⟩,rfl,e⟩) ?_
  refine .aj rfl (af.append rfl underlying49 underlying49 typeInfo95 rfl rfl rfl (by decide) rfl rfl .auto Rd.s (by simp;omega) hone) ?_
  rintro _ _ ⟨v7,rfl,rfl⟩
  refine J 4 ?_
  refine .aS rfl rfl fun w s=>⟨_,?_,trivial,ak .auto s⟩
  rfl
theorem MB{W:World}{A:aa}{v:Value}{xs:List Int}{x:Int}(hr:Rd W [A] aq 1 v xs)(hl:xs.length≤1000000000):Fn Tryz.prog W 101 [v,.int .i64 x] [A] Unit (fun _=>.int .i64 (idxOf x xs)) (fun _=>True) (fun _=>[A]):=by
 refine Fn.intro (N:=19) func101 rfl ntmps101 rfl fun F=>?_
 haveI hRI:∀ (H:List aa) [bE H A],aC W H v aq 1 xs:=fun H h=>⟨hr.at h.has⟩
 show ar _ _ _ _ _ _ [A,F]
 refine J 14 ?_
 refine .aZ (X:=Nat) [4,5,8,9,10,11,12,13,14,15,16,17,18] (fun k=>xs.length-k) (fun k=>k≤xs.length∧idxOf x xs=idxFrom x (xs.drop k) k) (fun k=>[(8,some (.int .i64 (k:Int)))]) (fun k=>[A,F]) 0 ?_ ?_ ?_ ?_
 ·exact⟨Nat.zero_le _,by simp[idxOf]⟩
 ·exact⟨rfl,trivial⟩
 ·exact fun w s=>aw.kept .auto w s
 rintro k ⟨hk,hn⟩
 refine JD 6 (fun h9=>?_) fun h9=>?_
 ·refine J 15 ?_
  obtain⟨y,hy⟩:=ai (show k<xs.length by omega)
  refine JD 5 (fun h=>?_) fun h=>?_
  ·refine J 12 ?_
   refine .aS rfl rfl fun w s=>⟨(),?_,trivial,ak .auto s⟩
   rw[hn,JF hy h]
  ·refine J 7 ?_
   refine .ax (k+1) .auto rfl ?_ ?_ ?_ ?_
   ·first | omega | (dsimp only;omega)
   ·exact⟨by omega,hn.trans (GA hy h)⟩
   ·exact⟨rfl,trivial⟩
   ·exact fun w s=>aw.kept .auto w s
 ·refine J 11 ?_
  refine .aS rfl rfl fun w s=>⟨(),?_,trivial,ak .auto s⟩
  rw[hn,JG (by omega)]
theorem nR{W:World}{A:aa}{v:Value}{xs:List Int}{x:Int}(hr:Rd W [A] aq 1 v xs)(hl:xs.length≤1000000000):Fn Tryz.prog W 59 [v,.int .i64 x] [A] Unit (fun _=>.bool (xs.contains x)) (fun _=>True) (fun _=>[A]):=by
 refine Fn.intro (N:=9) func59 rfl ntmps59 rfl fun F=>?_
 show ar _ _ _ _ _ _ [A,F]
 refine J 9 ?_
 refine .c call101 rfl (MB hr hl) fun _ _=>?_
 refine J 5 ?_
 refine .aS rfl rfl fun w s=>⟨(),?_,trivial,ak .auto s⟩
 rw[idxOf,yc]
theorem OJ{W:World}{A:aa}{v:Value}{xs:List Int}(hr:Rd W [A] aq 1 v xs)(hl:xs.length≤1000000000)(h0:0<xs.length):Fn Tryz.prog W 95 [v] [A] Unit (fun _=>.int .i64 (minOf xs)) (fun _=>True) (fun _=>[A]):=by
 refine Fn.intro (N:=25) func95 rfl ntmps95 rfl fun F=>?_
 haveI hRI:∀ (H:List aa) [bE H A],aC W H v aq 1 xs:=fun H h=>⟨hr.at h.has⟩
 obtain⟨y0,ys,rfl⟩:∃ y ys,xs=y::ys:=by cases xs with | nil=>simp at h0 | cons y ys=>exact⟨y,ys,rfl⟩
 show ar _ _ _ _ _ _ [A,F]
 refine JD 13 (fun h7=>?_) fun h7=>?_
 ·exact absurd h7 (by simp;omega)
 ·refine J 5 ?_
  have hy0:(y0::ys)[0]?=some y0:=rfl
  refine .p (.ix 0 rfl rfl rfl (by simp)) ?_
  refine J 11 ?_
  refine .aZ (X:=Nat) [3,4,12,13,14,15,16,17,18,19,20,21,22,23] (fun k=>ys.length-k) (fun k=>k≤ys.length) (fun k=>[(4,some (.int .i64 ((k+1:Nat):Int))),(3,some (.int .i64 ((ys.take k).foldl min y0)))]) (fun k=>[A,F]) 0 ?_ ?_ ?_ ?_
  ·exact Nat.zero_le _
  ·exact⟨rfl,rfl,trivial⟩
  ·exact fun w s=>aw.kept .auto w s
  rintro k hk
  refine JD 9 (fun h15=>?_) fun h15=>?_
  ·refine J 8 ?_
   obtain⟨y,hy⟩:=ai (show k+1<(y0::ys).length by omega)
   refine J 2 ?_
   refine .p (.mi rfl rfl) ?_
   refine J 9 ?_
   refine .ax (k+1) .auto rfl ?_ ?_ ?_ ?_
   ·simp only[List.length_cons] at h15;omega
   ·simp only[List.length_cons] at h15;omega
   ·refine⟨rfl,?_,trivial⟩
    have:ys[k]?=some y:=by simpa using hy
    rw[aW this,List.foldl_append];rfl
   ·exact fun w s=>aw.kept .auto w s
  ·refine J 12 ?_
   obtain rfl:k=ys.length:=by simp only[List.length_cons] at h15;omega
   refine .aS rfl rfl fun w s=>⟨(),?_,trivial,ak .auto s⟩
   rw[List.take_length];rfl
theorem NM{W:World}{n:Nat}(hn:n≤1000000000):Fn Tryz.prog W 226 [.slice none 0 0,.int .i64 (n:Int)] [] Value (fun u=>u) (fun _=>True) (fun u=>[sl cf 3 u ([]:List Ev)]):=by
 refine Fn.intro (N:=27) func226 rfl ntmps226 rfl fun F=>?_
 show ar _ _ _ _ _ _ [F]
 refine JD 12 (fun h6=>?_) fun h6=>?_
 ·omega
 ·refine J 7 ?_
  refine .p (.zD underlying165 rfl) ?_
  refine JD 13 (fun h16=>?_) fun h16=>?_
  ·refine J 3 ?_
   refine .p (.zD underlying165 rfl) ?_
   refine .p (.j5 0 underlying165 sizeOf232 rfl rfl rfl (Nat.le_refl _)) ?_
   refine J 1 ?_
   refine .aj rfl (af.BJ (enc:=cf) (k:=3) ⟨0,0,0⟩ n rfl underlying165 underlying3 typeInfo232 rfl rfl rfl rfl (by decide) (by decide) rfl rfl (by omega) (by omega)) ?_
   rintro _ _ ⟨⟨b22,c22⟩,hc22,rfl,rfl⟩
   refine J 2 ?_
   refine .p (.j5 0 underlying165 sizeOf232 rfl rfl rfl (Nat.zero_le _)) ?_
   refine J 10 ?_
   refine .fr .auto (Em 0 (Nat.zero_le _)) ?_
   refine .aS rfl rfl fun w s=>⟨_,?_,trivial,ak .auto s⟩
   rfl
  ·refine J 9 ?_
   refine .to (A:=sl cf 3 (.slice none 0 0) ([]:List Ev)) (Bs:=[]) .nil (fun h e=>.inl ⟨⟨_,rfl⟩,rfl,e⟩) ?_
   refine .aS rfl rfl fun w s=>⟨_,?_,trivial,ak .auto s⟩
   rfl
theorem DW{W:World}{A:aa}{v:Value}{qs:List (Value×List Ev)}(hr:Rd W [A] eu 1 v qs)(hq:∀ q∈qs,Rd W [A] cf 3 q.1 q.2)(hl:qs.length≤1000000)(hs:(qs.flatMap (·.2)).length≤1000000000):Fn Tryz.prog W 184 [v] [A] Value (fun u=>u) (fun _=>True) (fun u=>[sl cf 3 u (qs.flatMap (·.2)),A]):=by
 refine Fn.intro (N:=36) func184 rfl ntmps184 rfl fun F=>?_
 haveI hRI:∀ (H:List aa) [bE H A],aC W H v eu 1 qs:=fun H h=>⟨hr.at h.has⟩
 show ar _ _ _ _ _ _ [A,F]
 refine J 19 ?_
 refine .aZ (X:=Nat) [3,5,11,12,13,14,15,16,17,18,19,20,21,22] (fun k=>qs.length-k) (fun k=>k≤qs.length) (fun k=>[(11,some (.int .i64 (k:Int))),(3,some (.int .i64 ((((qs.take k).flatMap (·.2)).length:Nat):Int)))]) (fun k=>[A,F]) 0 ?_ ?_ ?_ ?_
 ·exact Nat.zero_le _
 ·exact⟨rfl,rfl,trivial⟩
 ·exact fun w s=>aw.kept .auto w s
 rintro k hk
 refine JD 6 (fun h12=>?_) fun h12=>?_
 ·refine J 6 ?_
  obtain⟨q,hx⟩:=ai (show k<qs.length by omega)
  have hqr:=hq q (List.mem_of_getElem? hx)
  have hRq:∀ (H:List aa) [bE H A],aC W H q.1 cf 3 q.2:=fun H h=>⟨hqr.at h.has⟩
  have hle:=Dd (f:=fun q:Value×List Ev=>q.2) qs (k+1)
  rw[nz hx,List.length_append] at hle
  refine J 10 ?_
  refine .p (.add rfl rfl (by omega)) ?_
  refine JD 9 (fun h20=>?_) fun h20=>?_
  ·omega
  ·refine J 7 ?_
   refine .ax (k+1) .auto rfl ?_ ?_ ?_ ?_
   ·first | omega | (dsimp only;omega)
   ·omega
   ·refine⟨rfl,?_,trivial⟩
    rw[nz hx,List.length_append,Int.natCast_add];rfl
   ·exact fun w s=>aw.kept .auto w s
 ·refine J 8 ?_
  obtain rfl:k=qs.length:=by omega
  rw[List.take_length]
  refine .c call226 rfl (NM hs) fun u _=>?_
  refine J 12 ?_
  refine .aZ (X:=Nat×Value) [6,8,27,28,29,30,31,32,33,34] (fun z=>qs.length-z.1) (fun z=>z.1≤qs.length) (fun z=>[(27,some (.int .i64 (z.1:Int))),(6,some z.2)]) (fun z=>[sl cf 3 z.2 ((qs.take z.1).flatMap (·.2)),A,F]) (0,u) ?_ ?_ ?_ ?_
  ·exact Nat.zero_le _
  ·exact⟨rfl,rfl,trivial⟩
  ·exact fun w s=>aw.kept .auto w s
  rintro⟨k,u⟩ hk
  simp only at hk
  refine JD 6 (fun h28=>?_) fun h28=>?_
  ·refine J 6 ?_
   obtain⟨q,hx⟩:=ai (show k<qs.length by omega)
   have hqr:=hq q (List.mem_of_getElem? hx)
   have hRq:∀ (H:List aa) [bE H A],aC W H q.1 cf 3 q.2:=fun H h=>⟨hqr.at h.has⟩
   have hle:=Dd (f:=fun q:Value×List Ev=>q.2) qs (k+1)
   rw[nz hx,List.length_append] at hle
   refine J 8 ?_
   refine .aj rfl (af.append rfl underlying165 underlying165 typeInfo232 rfl rfl rfl (by decide) rfl rfl .auto Rd.s (by dsimp only;omega) (Dc _)) ?_
   rintro _ _ ⟨v33,rfl,rfl⟩
   refine J 8 ?_
   refine .ax (k+1,v33) .auto rfl ?_ ?_ ?_ ?_
   ·show qs.length-(k+1)<qs.length-k;omega
   ·show k+1≤qs.length;omega
   ·exact⟨rfl,rfl,trivial⟩
   ·show ∀ w,Sat _ w _→Sat _ w (seps [sl cf 3 v33 ((qs.take (k+1)).flatMap (·.2)),A,F])
    rw[nz hx]
    exact fun w s=>aw.kept .auto w s
  ·refine J 12 ?_
   obtain rfl:k=qs.length:=by omega
   rw[List.take_length]
   refine .aS rfl rfl fun w s=>⟨_,?_,trivial,ak .auto s⟩
   rfl
theorem uO{W:World}{A:aa}{va vb:Value}{xs ys:List Ev}(ha:Rd W [A] cf 3 va xs)(hb:Rd W [A] cf 3 vb ys)(hl:xs.length+ys.length≤1000000000):Fn Tryz.prog W 134 [va,vb] [A] Value (fun u=>u) (fun _=>True) (fun u=>[sl cf 3 u (xs++ys),A]):=by
 refine Fn.intro (N:=9) func134 rfl ntmps134 rfl fun F=>?_
 show ar _ _ _ _ _ _ [A,F]
 refine .cM (fun w s=>Rd.shape (ha.at .here) w s) fun e=>?_
 obtain⟨a1,c1,rfl⟩:=e
 refine .cM (fun w s=>Rd.shape (hb.at .here) w s) fun e=>?_
 obtain⟨a2,c2,rfl⟩:=e
 refine J 9 ?_
 refine .aj rfl (af.gj 165 rfl rfl (by kernel_rfl)) ?_
 rintro _ _ ⟨b7,rfl,rfl⟩
 refine .aj rfl (af.eD rfl call184 rfl (DW (A:=seps [arr b7 0 [.slice a1 xs.length c1,.slice a2 ys.length c2],A]) (qs:=[(.slice a1 xs.length c1,xs),(.slice a2 ys.length c2,ys)]) (Rd.eX (Rd.lit .here rfl (fun _ _=>rfl) rfl)) (by
   intro q hq
   simp only[List.mem_cons,List.not_mem_nil,or_false] at hq
   rcases hq with rfl | rfl
   ·exact Rd.eX (Rd.at ha (.there .here))
   ·exact Rd.eX (Rd.at hb (.there .here))) (by simp) (by simpa using hl)) .auto) ?_
 rintro _ _ ⟨u, -,rfl,rfl⟩
 rw[show[(Value.slice a1 xs.length c1,xs),(.slice a2 ys.length c2,ys)].flatMap (fun q:Value×List Ev=>q.2)=xs++ys from by simp]
 refine .dL (by repeat (first | exact Take.here | apply Take.there)) ?_
 refine J 4 ?_
 refine .aS rfl rfl fun w s=>⟨_,?_,trivial,ak .auto s⟩
 rfl
theorem NN{W:World}{n:Int}(hn:0≤n∧n≤64):Fn Tryz.prog W 182 [.int .u64 1,.int .u64 n] [] Unit (fun _=>.tuple #[.int .u64 0,.int .u64 n]) (fun _=>True) (fun _=>[]):=by
 refine Fn.intro (N:=51) func182 rfl ntmps182 rfl fun F=>?_
 show ar _ _ _ _ _ _ [F]
 refine J 9 ?_
 refine .p (.fa (Y.LL rfl rfl) (qD (by omega))) ?_
 refine J 6 ?_
 refine .p (.fa (Y.Gt rfl rfl (by omega)) (jz (by omega))) ?_
 refine J 6 ?_
 refine .p (.fa (Y.LL rfl rfl) (qD (by omega))) ?_
 refine J 6 ?_
 refine .p (.fa (Y.Gt rfl rfl (by omega)) (jz (by omega))) ?_
 refine J 7 ?_
 refine .p (.Eh rfl rfl (by omega)) ?_
 refine J 7 ?_
 refine .p (.Eh rfl rfl (by omega)) ?_
 refine J 1 ?_
 refine .p (.fa (Y.Gt rfl rfl (by omega)) (jz (by omega))) ?_
 refine .p (.Bv rfl rfl (by omega)) ?_
 refine J 6 ?_
 refine .p (.fa (Y.LL rfl rfl) (qD (by omega))) ?_
 refine J 6 ?_
 refine .p (.fa (Y.Gt rfl rfl (by omega)) (jz (by omega))) ?_
 refine J 8 ?_
 refine .p (.Eh rfl rfl (by omega)) ?_
 refine .p (.Bv rfl rfl (by omega)) ?_
 refine J 7 ?_
 refine .p (.Eh rfl rfl (by omega)) ?_
 refine J 1 ?_
 refine .p (.Bv rfl rfl (by omega)) ?_
 refine J 1 ?_
 refine .p (.fa (Y.Gt rfl rfl (by omega)) (jz (by omega))) ?_
 refine .p (.Bv rfl rfl (by omega)) ?_
 refine J 7 ?_
 refine .p (.Eh rfl rfl (by omega)) ?_
 refine J 4 ?_
 refine .eE rfl rfl rfl fun w s=>⟨(),?_,trivial,ak .auto s⟩
 simp
theorem OK{W:World}{n:Int}(hn:0≤n∧n≤64):Fn Tryz.prog W 129 [.int .u64 1,.int .u64 n] [] Unit (fun _=>.tuple #[.int .u64 0,.int .u64 n]) (fun _=>True) (fun _=>[]):=by
 refine Fn.intro (N:=30) func129 rfl ntmps129 rfl fun F=>?_
 show ar _ _ _ _ _ _ [F]
 refine J 7 ?_
 refine .ep rfl ?_
 refine J 6 ?_
 refine .c call182 rfl (NN hn) fun _ _=>?_
 exact JR 16 ()
theorem Kw{W:World}{A:aa}{v:Value}{a:Int}{n:Nat}(hr:Rd W [A] aq 1 v [a])(hn:1≤n∧n≤64):Fn Tryz.prog W 87 [v,.int .i64 (n:Int)] [A] Value (fun u=>u) (fun _=>True) (fun u=>[sl aq 1 u (List.replicate n a),A]):=by
 refine Fn.intro (N:=48) func87 rfl ntmps87 rfl fun F=>?_
 haveI hRI:∀ (H:List aa) [bE H A],aC W H v aq 1 [a]:=fun H h=>⟨hr.at h.has⟩
 show ar _ _ _ _ _ _ [A,F]
 refine .s (.r (.p (.a rfl) (.n (.t (.s (.s (.r (.p (.m rfl) (.p (.lss rfl rfl) (.n (.t (.da rfl (fun h10=>?_) (fun h10=>?_)))))))))))))
 ·omega
 ·refine .v (.t (.s (.r (.p (.m rfl) (.p (.len rfl) ?_)))))
  refine .p (.conv underlying3 underlying222 rfl) ?_
  refine .p (.m rfl) ?_
  refine .p (.tq underlying3 underlying222 rfl (by omega)) ?_
  refine .aj rfl (af.eD rfl call129 rfl (OK (n:=(n:Int)) (by omega)) .auto) ?_
  rintro _ _ ⟨⟨⟩, -,rfl,rfl⟩
  refine .p (.m rfl) (.p (.extract rfl rfl) (.p (.extract rfl rfl) (.p (.a rfl) (.p (.a rfl) (.n (.t (.s (.s (.r (.p (.m rfl) (.p (.gtr rfl rfl) (.p (.m rfl) ?_))))))))))))
  refine .mE (t:=23) rfl (fun h22=>?_) (fun h22=>?_)
  ·omega
  ·refine .g (.m rfl) (.g (.gtr rfl rfl) (.p (.u rfl rfl) (.n (.t (.da rfl (fun h26=>?_) (fun h26=>?_))))))
   ·omega
   ·refine .v (.t (.s (.r (.p (.m rfl) ?_))))
    refine .p (.jZ underlying222 underlying3 rfl (by omega)) ?_
    refine .aj rfl (af.Ek (enc:=aq) (k:=1) 0 n rfl underlying50 typeInfo3 rfl rfl rfl rfl (by decide) (by decide) rfl rfl rfl rfl (by omega)) ?_
    rintro _ _ ⟨b30,rfl,rfl⟩
    refine .p (.a rfl) (.n (.t (.s (.r (.p (.m rfl) (.p (.m rfl) ?_))))))
    refine .aj rfl (af.BK (i:=0) rfl underlying50 sizeOf3 rfl rfl Rd.s .auto (by simp) (Nat.zero_le _) (by omega) (py _)) ?_
    rintro _ _ ⟨rfl,rfl⟩
    rw[show min [a].length (n-0)=1 from by simp;omega,show(List.replicate n (0:Int)).take 0++([a].take 1++(List.replicate n 0).drop (0+1))=List.replicate 1 a++List.replicate (n-1) 0 from by simp]
    refine .p (.a rfl) (.n (.t (.s (.b ?_))))
    refine .aZ (X:=Nat) [8,34,35,36,37,38,39,40,41,42,43,44,45,46] (fun j=>n-j) (fun j=>1≤j∧j≤n) (fun j=>[(8,some (.int .i64 (j:Int)))]) (fun j=>[sl aq 1 (.slice (some ⟨b30,0,none⟩) n n) (List.replicate j a++List.replicate (n-j) 0),A,F]) 1 ?_ ?_ ?_ ?_
    ·exact⟨Nat.le_refl _,hn.1⟩
    ·exact⟨rfl,trivial⟩
    ·exact fun w s=>aw.kept .auto w s
    rintro j hj
    refine .s (.s (.r (.p (.m rfl) (.p (.m rfl) (.p (.lens rfl) (.p (.lss rfl rfl) (.n (.t (.da rfl (fun h37=>?_) (fun h37=>?_))))))))))
    ·refine .v (.t (.b ?_))
     refine .draw [] [0,1,1,1,1,1,1,2,1,1] rfl (by kernel_rfl) ?_
     refine .q (.m rfl) (.p (.m rfl) (.p (.m rfl) ?_))
     refine .p (.Gs j underlying50 sizeOf3 rfl rfl rfl (by omega) (by omega)) ?_
     refine .p (.m rfl) (.p (.m rfl) ?_)
     refine .p (.j5 j underlying50 sizeOf3 rfl rfl rfl (by omega)) ?_
     refine .d2 rfl Kept.auto (af.BK (enc:=aq) (i:=j) (ys:=List.replicate j a) rfl underlying50 sizeOf3 rfl rfl (Rd.rep hj.2 Rd.s) .auto (by simp;omega) (by omega) (by omega) (py _)) (by rintro _ _ ⟨rfl,rfl⟩;exact Kept.auto) ?_
     rintro _ _ ⟨rfl,rfl⟩
     refine .p (.add rfl rfl (by omega)) ?_
     refine .p (.a rfl) (.n (.b ?_))
     refine .ax (j+min j (n-j)) .auto rfl ?_ ?_ ?_ ?_
     ·omega
     ·omega
     ·refine⟨?_,trivial⟩
      rw[show(List.replicate j a).length=j from by simp];rfl
     ·show ∀ w,Sat _ w _→Sat _ w (seps [sl aq 1 _ (List.replicate (j+min j (n-j)) a++List.replicate (n-(j+min j (n-j))) 0),A,F])
      rw[← Gz j n a hj.2]
      exact fun w s=>aw.kept .auto w s
    ·refine .x (.tx (.tx (.bh (.t (.s (.r (.p (.m rfl) (.p (.a rfl) (.n (.t (.e ?_)))))))))))
     obtain rfl:j=n:=by omega
     rw[Nat.sub_self,List.replicate_zero,List.append_nil]
     refine .aS rfl rfl fun w s=>⟨_,?_,trivial,ak .auto s⟩
     rfl
end Go.SLYtpbjdoplfgeliaaGreat
