/- Walks. Conditions: none. -/
import Derived.Test.YtpbjdoplfgeliaaGreatU19
import Derived.Test.YtpbjdoplfgeliaaGreatU18
namespace Go.SLYtpbjdoplfgeliaaGreat
open Go Go.RowKit
end Go.SLYtpbjdoplfgeliaaGreat
namespace Go.SLYtpbjdoplfgeliaaGreat
open Go Go.RowKit
structure Ec(n m:Nat)(s:Sy):Prop where
 k:SI n m s.k
 log:s.log.length≤n
 prio:s.prio.length≤8
theorem zq.j{i:Nat}{s:Sy}(h:zq i s):Ec (i+1) (2100+2048 * i) s:=⟨h.k,Nat.le_succ_of_le h.log,h.prio⟩
theorem Ec.le{n m n' m':Nat}{s:Sy}(h:Ec n m s)(hn:n≤n')(hm:m≤m'):Ec n' m' s:=⟨h.k.le hn hm,Nat.le_trans h.log hn,h.prio⟩
theorem Ec.step{n m:Nat}{s:Sy}(h:Ec n m s)(hn:n≤1980)(p c:Int):Ec (n+1) (m+40) (s.do ⟨1,p,c⟩).2:=by
 rw[do_1 rfl]
 refine⟨h.k.step hn p c,?_,h.prio⟩
 show(s.log++ko (s.k.step p c).1 c).length≤_
 have:=rY (s.k.step p c).1 c
 have:=h.log
 rw[List.length_append];omega
theorem C2{n m:Nat}{s:Sy}(h:Ec n m s)(p c:Int):(s.do ⟨1,p,c⟩).2.k.owner=s.k.owner:=by
 rw[do_1 rfl]
 show(s.k.step p c).2.owner=_
 by_cases e:dx s.k p=0
 ·obtain⟨i,j,l,rfl,ho,hl, -⟩:=dz h.k.ok e
  rw[iP ho hl]
 ·rw[gF e]
def Sy.turns(s:Sy):Nat→Sy
 | 0=>s
 | p+1=>((s.turns p).do ⟨1,(p:Int),0⟩).2
def Sy.round(s:Sy):Sy:=s.turns s.k.owner.length
def Sy.rounds(s:Sy):Nat→Sy
 | 0=>s
 | n+1=>(s.rounds n).round
theorem Ec.turns{n m:Nat}{s:Sy}(h:Ec n m s):∀ p,n+p≤1980→Ec (n+p) (m+40 * p) (s.turns p)∧(s.turns p).k.owner=s.k.owner
 | 0,_=>⟨h,rfl⟩
 | p+1,hp=>by
  have ih:=h.turns p (by omega)
  refine⟨(ih.1.step (by omega) _ _).le (by omega) (by omega),?_⟩
  exact(C2 ih.1 _ _).trans ih.2
theorem Ec.rounds{n m:Nat}{s:Sy}(h:Ec n m s):∀ r,n+r * s.k.owner.length≤1980→Ec (n+r * s.k.owner.length) (m+40 * (r * s.k.owner.length)) (s.rounds r)∧(s.rounds r).k.owner=s.k.owner
 | 0,_=>⟨h.le (by omega) (by omega),rfl⟩
 | r+1,hr=>by
  have e:(r+1) * s.k.owner.length=r * s.k.owner.length+s.k.owner.length:=by rw[Nat.add_mul,Nat.one_mul]
  rw[e] at hr ⊢
  have ih:=h.rounds r (by omega)
  have hl:(s.rounds r).k.owner.length=s.k.owner.length:=by rw[ih.2]
  have ht:=ih.1.turns (s.rounds r).k.owner.length (by omega)
  refine⟨ht.1.le (by omega) (by omega),ht.2.trans ih.2⟩
def Jk(l:List k7)(space:Int)(behind:Nat):Bool:=(l.drop (min behind l.length)).any fun a=>decide (a.kind=1) && decide (a.space=space)
def Sy.MV(s:Sy)(space:Int):Bool:=decide (0<(s.round.log.length:Int)-(s.log.length:Int)) && Jk s.round.log space s.log.length
def Sy.found(s:Sy)(space:Int):Nat→Nat→Int×Bool
 | 0,k=>((k:Int),false)
 | f+1,k=>if (s.rounds k).MV space=true then ((k:Int)+1,true) else s.found space f (k+1)
/-! law 23's own fact -/
def PX:Sy:=Sy.new 1 [HP]
theorem Jl{m:Nat}{s:Sy}(hi:Inv m s.k)(x:oo):(s.do x).2.k.owner.length=s.k.owner.length:=by
 unfold Sy.do
 split
 ·show(s.k.step x.a x.b).2.owner.length=_
  by_cases e:dx s.k x.a=0
  ·obtain⟨i,j,l,hn,ho,hl, -⟩:=dz hi.ok e
   rw[hn,iP ho hl]
  ·rw[gF e]
 ·split
  ·rfl
  ·split
   ·show(s.k.done x.a x.b).2.owner.length=_
    unfold Krn.done
    split <;> rfl
   ·split
    ·show(s.k.preempt x.a).2.owner.length=_
     by_cases e:dx s.k x.a=0
     ·obtain⟨i,j,l,hn,ho,hl, -⟩:=dz hi.ok e
      rw[hn,qj ho hl]
     ·rw[ng e]
    ·split
     ·rfl
     ·split
      ·exact(dH hi _ _).2.ol
      ·rfl
def PY(x y z:Nat):aa:=seps [arr z 0 (eT (jT x y)),arr y 0 [.slice (some ⟨x,0,none⟩) 1 1],arr x 0 (dM ⟨1,1,0,0,5⟩)]
end Go.SLYtpbjdoplfgeliaaGreat
