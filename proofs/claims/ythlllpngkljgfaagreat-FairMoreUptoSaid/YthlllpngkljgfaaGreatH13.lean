/- Walks of functions, and what they compute. Conditions: none, this text proves no statement. -/
import Derived.Test.YthlllpngkljgfaaGreatH12
import Derived.Test.YthlllpngkljgfaaGreatH07
import Derived.Test.YthlllpngkljgfaaGreatProg
import Derived.KernelRfl
set_option maxRecDepth 20000
set_option maxHeartbeats 4000000
namespace Go.SLYthlllpngkljgfaaGreat
open Go Go.RowKit
structure AO(n m:Nat)(s:Sy):Prop where
 k:SI n m s.k
 log:s.log.length≤n
 prio:s.prio.length≤8
theorem wF.j{i:Nat}{s:Sy}(h:wF i s):AO (i+1) (2100+2048 * i) s:=⟨h.k,Nat.le_succ_of_le h.log,h.prio⟩
theorem AO.le{n m n' m':Nat}{s:Sy}(h:AO n m s)(hn:n≤n')(hm:m≤m'):AO n' m' s:=⟨h.k.le hn hm,Nat.le_trans h.log hn,h.prio⟩
theorem AO.step{n m:Nat}{s:Sy}(h:AO n m s)(hn:n≤1980)(p c:Int):AO (n+1) (m+40) (s.do ⟨1,p,c⟩).2:=by
 rw[do_1 rfl]
 refine⟨h.k.step hn p c,?_,h.prio⟩
 show(s.log++jQ (s.k.step p c).1 c).length≤_
 have:=ry (s.k.step p c).1 c
 have:=h.log
 rw[List.length_append];omega
theorem Cu{n m:Nat}{s:Sy}(h:AO n m s)(p c:Int):(s.do ⟨1,p,c⟩).2.k.owner=s.k.owner:=by
 rw[do_1 rfl]
 show(s.k.step p c).2.owner=_
 by_cases e:du s.k p=0
 ·obtain⟨i,j,l,rfl,ho,hl, -⟩:=dy h.k.ok e
  rw[iG ho hl]
 ·rw[gF e]
def Sy.turns(s:Sy):Nat→Sy
 | 0=>s
 | p+1=>((s.turns p).do ⟨1,(p:Int),0⟩).2
def Sy.round(s:Sy):Sy:=s.turns s.k.owner.length
def Sy.rounds(s:Sy):Nat→Sy
 | 0=>s
 | n+1=>(s.rounds n).round
theorem AO.turns{n m:Nat}{s:Sy}(h:AO n m s):∀ p,n+p≤1980→AO (n+p) (m+40 * p) (s.turns p)∧(s.turns p).k.owner=s.k.owner
 | 0,_=>⟨h,rfl⟩
 | p+1,hp=>by
  have ih:=h.turns p (by omega)
  refine⟨(ih.1.step (by omega) _ _).le (by omega) (by omega),?_⟩
  exact(Cu ih.1 _ _).trans ih.2
theorem AO.rounds{n m:Nat}{s:Sy}(h:AO n m s):∀ r,n+r * s.k.owner.length≤1980→AO (n+r * s.k.owner.length) (m+40 * (r * s.k.owner.length)) (s.rounds r)∧(s.rounds r).k.owner=s.k.owner
 | 0,_=>⟨h.le (by omega) (by omega),rfl⟩
 | r+1,hr=>by
  have e:(r+1) * s.k.owner.length=r * s.k.owner.length+s.k.owner.length:=by rw[Nat.add_mul,Nat.one_mul]
  rw[e] at hr ⊢
  have ih:=h.rounds r (by omega)
  have hl:(s.rounds r).k.owner.length=s.k.owner.length:=by rw[ih.2]
  have ht:=ih.1.turns (s.rounds r).k.owner.length (by omega)
  refine⟨ht.1.le (by omega) (by omega),ht.2.trans ih.2⟩
def AP(l:List gw)(space:Int)(behind:Nat):Bool:=(l.drop (min behind l.length)).any fun a=>decide (a.kind=1) && decide (a.space=space)
def Sy.Cv(s:Sy)(space:Int):Bool:=decide (0<(s.round.log.length:Int)-(s.log.length:Int)) && AP s.round.log space s.log.length
def Sy.found(s:Sy)(space:Int):Nat→Nat→Int×Bool
 | 0,k=>((k:Int),false)
 | f+1,k=>if (s.rounds k).Cv space=true then ((k:Int)+1,true) else s.found space f (k+1)
theorem ni{s:Sy}{space:Int}{f k:Nat}(h:(s.rounds k).Cv space=true):s.found space (f+1) k=((k:Int)+1,true):=by rw[Sy.found,if_pos h]
theorem mL{s:Sy}{space:Int}{f k:Nat}(h:(s.rounds k).Cv space=false):s.found space (f+1) k=s.found space f (k+1):=by rw[Sy.found,if_neg (by rw[h];simp)]
theorem ow{s:Sy}{space:Int}:∀ (f g k:Nat),((s.found space f k).2=true→s.found space (f+g) k=s.found space f k∧(k:Int)+1≤(s.found space f k).1)∧((s.found space f k).2=false→(s.found space f k).1=((k+f:Nat):Int)∧((s.found space (f+g) k).2=true→(s.found space f k).1<(s.found space (f+g) k).1))
 | 0,g,k=>by
  refine⟨fun h=>(by cases h),fun _=>⟨rfl,?_⟩⟩
  rw[Nat.zero_add]
  show _→(k:Int)<_
  have key:∀ (g k:Nat),(s.found space g k).2=true→(k:Int)<(s.found space g k).1:=fun g=>by
   induction g with
   | zero=>intro k h;cases h
   | succ g ih =>
    intro k h
    by_cases e:(s.rounds k).Cv space=true
    ·rw[ni e];show(k:Int)<(k:Int)+1;omega
    ·rw[mL (Bool.not_eq_true _ ▸ e)] at h ⊢
     have:=ih (k+1) h
     omega
  exact key g k
 | f+1,g,k=>by
  by_cases e:(s.rounds k).Cv space=true
  ·rw[show f+1+g=f+g+1 by omega,ni e,ni e]
   exact⟨fun _=>⟨rfl,Int.le_refl _⟩,fun h=>by cases h⟩
  ·have e:=Bool.not_eq_true _ ▸ e
   rw[show f+1+g=f+g+1 by omega,mL e,mL e]
   have ih:=ow (s:=s) (space:=space) f g (k+1)
   refine⟨fun h=>⟨(ih.1 h).1,by have:=(ih.1 h).2;omega⟩,fun h=>⟨?_,(ih.2 h).2⟩⟩
   rw[(ih.2 h).1]
   omega
theorem Rd.KC{W:World}{H:List aa}{α:Type}{enc:α→List Value}{k:Nat}{v:Value}{xs:List α}{n:Nat}(h2:n≤xs.length)(h:Rd W H enc k v xs):Rd W H enc k (Go.SLYthlllpngkljgfaaGreat.cut k n xs.length v) (xs.drop n):=by
 have:=h.cut h2 (Nat.le_refl _)
 rwa [List.take_length] at this
/-! law 23's own fact -/
def DR:Sy:=Sy.new 1 [I5]
theorem su{q r:Int}(h:1≤q∧q≤64)(hr:r=72+2 * q) : -9223372036854775808≤q * 20 * r∧q * 20 * r≤9223372036854775807:=by
 subst hr
 have h1:q * 20 * (72+2 * q)≤1280 * 200:=Int.mul_le_mul (by omega) (by omega) (by omega) (by omega)
 have h2:0≤q * 20 * (72+2 * q):=Int.mul_nonneg (by omega) (by omega)
 omega
theorem IX{m:Nat}{s:Sy}(hi:Inv m s.k)(x:uf):(s.do x).2.k.owner.length=s.k.owner.length:=by
 unfold Sy.do
 split
 ·show(s.k.step x.a x.b).2.owner.length=_
  by_cases e:du s.k x.a=0
  ·obtain⟨i,j,l,hn,ho,hl, -⟩:=dy hi.ok e
   rw[hn,iG ho hl]
  ·rw[gF e]
 ·split
  ·rfl
  ·split
   ·show(s.k.done x.a x.b).2.owner.length=_
    unfold Krn.done
    split <;> rfl
   ·split
    ·show(s.k.preempt x.a).2.owner.length=_
     by_cases e:du s.k x.a=0
     ·obtain⟨i,j,l,hn,ho,hl, -⟩:=dy hi.ok e
      rw[hn,pM ho hl]
     ·rw[my e]
    ·split
     ·rfl
     ·split
      ·exact(fF hi _ _).2.ol
      ·rfl
def N7(x y z:Nat):aa:=seps [arr z 0 (ed (mi x y)),arr y 0 [.slice (some ⟨x,0,none⟩) 1 1],arr x 0 (dH ⟨1,1,0,0,5⟩)]
theorem IY{W:World}{x y z:Nat}:Rd W [N7 x y z] ed 8 (wb z 1) [mi x y]:=Rd.ez (Rd.lit .here rfl (fun _ _=>rfl) rfl)
theorem KD{W:World}{x y z:Nat}:∀ p∈ [mi x y],eM W [N7 x y z] p:=fun p hp=>by
 have e:p=mi x y:=by simpa using hp
 subst e
 exact JT (JU (.there (.there .here)) (.there .here))
theorem Mq{x y:Nat}:[mi x y].length≤1000000000∧ ∀ p∈ [mi x y],p.fs.length≤1000000000∧p.bI.length≤1000000000∧p.aZ.length≤1000000000:=⟨by simp,fun p hp=>by
 have e:p=mi x y:=by simpa using hp
 subst e
 exact⟨by simp[mi],by simp[mi],by simp[mi]⟩⟩
theorem Oq:ec 1 [I5]=0:=by decide +kernel
theorem i23:AO 1 2100 DR:=(wF.new Oq fun p hp f hf i hi=>by
 have e:p=I5:=by simpa using hp
 subst e
 have:i=⟨1,1,0,0,5⟩:=by
  have:f=[⟨1,1,0,0,5⟩]:=by simpa [I5] using hf
  subst this
  simpa using hi
 subst this
 unfold fL;decide).j
theorem Ot:DR.k.owner.length=1:=by decide +kernel
theorem f23:∃ n:Nat,n<18∧0<n∧DR.found 0 1480 0=((n:Int)+1,true):=by
 have h:DR.found 0 18 0=DR.found 0 1480 0:=by
  have:=(ow (s:=DR) (space:=0) 18 1462 0).1 (by decide +kernel)
  exact this.1.symm
 rw[← h]
 have h1:((DR.found 0 18 0).2 && decide (1<(DR.found 0 18 0).1) && decide ((DR.found 0 18 0).1<19))=true:=by decide +kernel
 simp only[Bool.and_eq_true,decide_eq_true_eq] at h1
 refine⟨((DR.found 0 18 0).1-1).toNat,by omega,by omega,Prod.ext ?_ h1.1.1⟩
 show(DR.found 0 18 0).1=_
 omega
end Go.SLYthlllpngkljgfaaGreat
namespace Go.SLYthlllpngkljgfaaGreat
open Go Go.RowKit Go.Proofs Go.Proofs.Tryz
attribute [local irreducible] aq aS bc bx bC Y
theorem qS{W:World}{b kb:Nat}{bl:List Nat}{s:Sy}:Fn Tryz.prog W 113 [ptr b] [fb b kb bl s] Unit (fun _=>.int .i64 (s.log.length:Int)) (fun _=>True) (fun _=>[fb b kb bl s]):=by
 refine Fn.intro (N:=10) func113 rfl ntmps113 rfl fun F=>?_
 show aq _ _ _ _ _ _ [fb b kb bl s,F]
 refine .o2 (C:=fb b kb bl s) .auto rfl ?_
 rintro v vl -
 refine J 12 ?_
 refine .ew rfl ?_
 exact JR 13 ()
theorem uO{W:World}  : Fn Tryz.prog W 113 [.pointer none] [] Unit (fun _=>.int .i64 0) (fun _=>True) (fun _=>[]):=by
 refine Fn.intro (N:=10) func113 rfl ntmps113 rfl fun F=>?_
 show aq _ _ _ _ _ _ [F]
 refine J 12 ?_
 refine .fu rfl ?_
 exact JR 7 ()
theorem FH{W:World}{b kb:Nat}{bl:List Nat}{s:Sy}{n:Nat}(hl:s.log.length≤1000000):Fn Tryz.prog W 157 [ptr b,.int .i64 (n:Int)] [fb b kb bl s] Value (fun u=>u) (fun _=>True) (fun u=>[sl fG 4 u (s.log.drop (min n s.log.length)),fb b kb bl s]):=by
 refine Fn.intro (N:=21) func157 rfl ntmps157 rfl fun F=>?_
 show aq _ _ _ _ _ _ [fb b kb bl s,F]
 refine .o2 (C:=fb b kb bl s) .auto rfl ?_
 rintro v vl -
 refine J 12 ?_
 refine .ew rfl ?_
 refine J 3 ?_
 refine .draw [] [1,1,1,1,1,1,1,1,1,1,1,1,3,3,1] rfl (by kernel_rfl) ?_
 refine J 10 ?_
 refine .p (.jK rfl rfl) ?_
 refine .p (.sliceFrom (min n s.log.length) underlying30 sizeOf42 rfl rfl Rd.s (by omega) (by omega)) ?_
 refine .c call63 rfl (Ie (A:=sl fG 4 vl s.log) (xs:=s.log.drop (min n s.log.length)) (Rd.KC (by omega) (Rd.sl .here)) (by rw[List.length_drop];omega)) fun u19 _=>?_
 refine .c call62 rfl KS fun u20 _=>?_
 exact JR 4 u20
theorem Cw{W:World}{A:aa}{v:Value}{xs:List gw}{p:gw→Bool}{g:Nat}{c:Value}(hr:Rd W [A] fG 4 v xs)(hl:xs.length≤1000000000)(hg:∀ args w,(callFunc g args).run Tryz.prog w = .ok (.enter g args) w)(hf:∀ x∈xs,Fn Tryz.prog W g [.agg (fG x).toArray,c] [A] Unit (fun _=>.bool (p x)) (fun _=>True) (fun _=>[A])):Fn Tryz.prog W 183 [v,.func (.func g) #[] #[c]] [A] Unit (fun _=>.int .i64 (idxP p xs 0)) (fun _=>True) (fun _=>[A]):=by
 refine Fn.intro (N:=19) func183 rfl ntmps183 rfl fun F=>?_
 haveI hRI:∀ (H:List aa) [bf H A],aw W H v fG 4 xs:=fun H h=>⟨hr.at h.has⟩
 show aq _ _ _ _ _ _ [A,F]
 refine J 14 ?_
 refine .bn (X:=Nat) [4,5,8,9,10,11,12,13,14,15,16,17,18] (fun k=>xs.length-k) (fun k=>k≤xs.length∧idxP p xs 0=idxP p (xs.drop k) k) (fun k=>[(8,some (.int .i64 (k:Int)))]) (fun k=>[A,F]) 0 ?_ ?_ ?_ ?_
 ·exact⟨Nat.zero_le _,by simp⟩
 ·exact⟨rfl,trivial⟩
 ·exact fun w s=>ax.kept .auto w s
 rintro k ⟨hk,hn⟩
 refine JD 6 (fun h9=>?_) fun h9=>?_
 ·refine J 15 ?_
  obtain⟨x,hx⟩:=ak (show k<xs.length by omega)
  refine .p (.ix k rfl rfl rfl (by omega)) ?_
  refine .p (.la rfl (Cells.rd Rd.s hx)) ?_
  refine .aj rfl (af.jU rfl rfl hg rfl (hf x (List.mem_of_getElem? hx)) .auto) ?_
  rintro _ _ ⟨⟨⟩, -,rfl,rfl⟩
  refine JD 2 (fun h16=>?_) fun h16=>?_
  ·refine J 12 ?_
   refine .aG rfl rfl fun w s=>⟨(),?_,trivial,ai .auto s⟩
   rw[hn,iy hx h16]
  ·refine J 7 ?_
   refine .aL (k+1) .auto rfl ?_ ?_ ?_ ?_
   ·first | omega | (dsimp only;omega)
   ·exact⟨by omega,hn.trans (gA hx h16)⟩
   ·exact⟨rfl,trivial⟩
   ·exact fun w s=>ax.kept .auto w s
 ·refine J 11 ?_
  refine .aG rfl rfl fun w s=>⟨(),?_,trivial,ai .auto s⟩
  rw[hn,iz (by omega)]
theorem vq{W:World}{A:aa}{v:Value}{xs:List gw}{p:gw→Bool}{g:Nat}{c:Value}(hr:Rd W [A] fG 4 v xs)(hl:xs.length≤1000000000)(hg:∀ args w,(callFunc g args).run Tryz.prog w = .ok (.enter g args) w)(hf:∀ x∈xs,Fn Tryz.prog W g [.agg (fG x).toArray,c] [A] Unit (fun _=>.bool (p x)) (fun _=>True) (fun _=>[A])):Fn Tryz.prog W 156 [v,.func (.func g) #[] #[c]] [A] Unit (fun _=>.bool (xs.any p)) (fun _=>True) (fun _=>[A]):=by
 refine Fn.intro (N:=9) func156 rfl ntmps156 rfl fun F=>?_
 show aq _ _ _ _ _ _ [A,F]
 refine J 9 ?_
 refine .c call183 rfl (Cw hr hl hg hf) fun _ _=>?_
 refine J 5 ?_
 refine .aG rfl rfl fun w s=>⟨(),?_,trivial,ai .auto s⟩
 rw[← iA xs 0]
theorem Mr{W:World}{A:aa}{x:gw}{c:Nat}{space:Int}:Fn Tryz.prog W 158 [.agg (fG x).toArray,ptr c] [seps [arr c 0 [.int .i64 space],A]] Unit (fun _=>.bool (decide (x.kind=1) && decide (x.space=space))) (fun _=>True) (fun _=>[seps [arr c 0 [.int .i64 space],A]]):=by
 refine Fn.intro (N:=13) func158 rfl ntmps158 rfl fun F=>?_
 show aq _ _ _ _ _ _ [seps [arr c 0 [.int .i64 space],A],F]
 refine .dq .auto ?_
 refine J 2 ?_
 refine .aj rfl (af.box rfl rfl rfl) ?_
 rintro _ _ ⟨b2,rfl,rfl⟩
 refine .mem (H':=[arr b2 0 (fG x),arr c 0 [.int .i64 space],A,F]) (fun w s=>s) ?_
 refine J 9 ?_
 apply aS.gz 5 12 7 [7,8,9,10,11,12] rfl
 ·intro h7
  exact JS 6
 ·intro h7
  exact JS 6
 exact JR 4 ()
theorem yC{W:World}{b kb:Nat}{bl:List Nat}{s:Sy}{space:Int}{n:Nat}(hl:s.log.length≤1000000):Fn Tryz.prog W 114 [ptr b,.int .i64 space,.int .i64 (n:Int)] [fb b kb bl s] Unit (fun _=>.bool (AP s.log space n)) (fun _=>True) (fun _=>[fb b kb bl s]):=by
 refine Fn.intro (N:=12) func114 rfl ntmps114 rfl fun F=>?_
 show aq _ _ _ _ _ _ [fb b kb bl s,F]
 refine J 2 ?_
 refine .aj rfl (af.box rfl rfl rfl) ?_
 rintro _ _ ⟨b4,rfl,rfl⟩
 refine J 7 ?_
 refine .c call157 rfl (FH (s:=s) hl) fun u9 _=>?_
 refine .p (.makeFunc rfl rfl) ?_
 refine .c call156 rfl (vq (A:=seps [arr b4 0 [.int .i64 space],sl fG 4 u9 (s.log.drop (min n s.log.length))]) (p:=fun x=>(decide (x.kind=1) && decide (x.space=space))) (Rd.ez (Rd.sl (.there .here))) (by rw[List.length_drop];omega) call158 (fun x _=>Mr)) fun _ _=>?_
 refine .dq .auto ?_
 exact JR 4 ()
theorem Cx{W:World}{b kb:Nat}{bl:List Nat}{s:Sy}{n m:Nat}(h:AO n m s)(hn:n+s.k.owner.length≤1980)(hm:m+40 * s.k.owner.length≤1000000):Fn Tryz.prog W 112 [ptr b] [fb b kb bl s] Unit (fun _=>.int .i64 ((s.round.log.length:Int)-(s.log.length:Int))) (fun _=>True) (fun _=>[fb b kb bl s.round]):=by
 refine Fn.intro (N:=22) func112 rfl ntmps112 rfl fun F=>?_
 show aq _ _ _ _ _ _ [fb b kb bl s,F]
 refine J 8 ?_
 refine .c call113 rfl (qS (s:=s)) fun _ _=>?_
 refine J 7 ?_
 refine .c call20 rfl (fc (s:=s)) fun _ _=>?_
 refine .o2 (C:=fb b kb bl s) .auto rfl ?_
 rintro v vl -
 refine .c call71 rfl (lx (b:=kb) (bl:=bl) (k:=s.k)) fun _ _=>?_
 refine J 4 ?_
 refine .bn (X:=Nat) [4,10,11,12,13,14,15,16,17] (fun p=>s.k.owner.length-p) (fun p=>p≤s.k.owner.length) (fun p=>[(10,some (.int .i64 (p:Int)))]) (fun p=>[fb b kb bl (s.turns p),F]) 0 ?_ ?_ ?_ ?_
 ·exact Nat.zero_le _
 ·exact⟨rfl,trivial⟩
 ·exact fun w s=>ax.kept .auto w s
 rintro p hp
 refine JD 6 (fun h11=>?_) fun h11=>?_
 ·have ht:=(h.turns p (by omega)).1
  have htl:=ht.log
  refine J 13 ?_
  refine .p (.gr (fun v1 v2=>[v1,v2,.int .i64 0]) rfl rfl (by kernel_rfl)) ?_
  refine .c call18 rfl (yy (b:=b) (kb:=kb) (bl:=bl) (s:=(s.turns p)) (x:=⟨1,(p:Int),0⟩) (ht.k.rn (by omega) (by omega)) ht.k.inv (by omega) (by have:=ht.log;omega) (Nat.le_trans ht.prio (by decide))) fun _ _=>?_
  refine J 7 ?_
  refine .aL (p+1) .auto rfl ?_ ?_ ?_ ?_
  ·omega
  ·show p+1≤_;omega
  ·exact⟨rfl,trivial⟩
  ·exact fun w s=>ax.kept .auto w s
 ·obtain rfl:p=s.k.owner.length:=by omega
  have ht:=(h.turns s.k.owner.length (by omega)).1.log
  have hl0:=h.log
  refine J 8 ?_
  refine .c call113 rfl (qS (s:=s.turns s.k.owner.length)) fun _ _=>?_
  exact JR 6 ()
theorem AQ{W:World}  : Fn Tryz.prog W 112 [.pointer none] [] Unit (fun _=>.int .i64 0) (fun _=>True) (fun _=>[]):=by
 refine Fn.intro (N:=22) func112 rfl ntmps112 rfl fun F=>?_
 show aq _ _ _ _ _ _ [F]
 refine J 8 ?_
 refine .c call113 rfl uO fun _ _=>?_
 refine J 7 ?_
 refine .c call20 rfl w9 fun _ _=>?_
 refine .c call71 rfl AG fun _ _=>?_
 refine J 4 ?_
 refine .bn (X:=Nat) [4,10,11,12,13,14,15,16,17] (fun z=>0) (fun z=>True) (fun z=>[(10,some (.int .i64 0))]) (fun z=>[F]) 0 ?_ ?_ ?_ ?_
 ·trivial
 ·exact⟨rfl,trivial⟩
 ·exact fun w s=>ax.kept .auto w s
 rintro n -
 refine JD 6 (fun h11=>?_) fun h11=>?_
 ·exact absurd h11 (by decide)
 ·refine J 8 ?_
  refine .c call113 rfl uO fun _ _=>?_
  exact JR 6 ()
theorem mM{W:World}{b kb:Nat}{bl:List Nat}{s:Sy}{n m:Nat}(h:AO n m s){space most:Int}(hn:n+(max most 0).toNat * s.k.owner.length≤1980)(hm:m+40 * ((max most 0).toNat * s.k.owner.length)≤1000000)(ho:most≤1000000):Fn Tryz.prog W 54 [ptr b,.int .i64 space,.int .i64 most] [fb b kb bl s] Sy (fun _=>.tuple #[.int .i64 (s.found space (max most 0).toNat 0).1,.bool (s.found space (max most 0).toNat 0).2]) (fun _=>True) (fun s2=>[fb b kb bl s2]):=by
 refine Fn.intro (N:=31) func54 rfl ntmps54 rfl fun F=>?_
 show aq _ _ _ _ _ _ [fb b kb bl s,F]
 refine J 10 ?_
 refine .p (.oK rfl rfl) ?_
 refine J 4 ?_
 refine .bn (X:=Nat) [6,7,8,9,12,13,14,15,16,17,18,19,20,21,22,23,24,25,26,27,28] (fun r=>(max most 0).toNat-r) (fun r=>r≤(max most 0).toNat∧(s.found space (max most 0).toNat 0)=s.found space ((max most 0).toNat-r) r) (fun r=>[(12,some (.int .i64 (r:Int)))]) (fun r=>[fb b kb bl (s.rounds r),F]) 0 ?_ ?_ ?_ ?_
 ·exact⟨Nat.zero_le _,rfl⟩
 ·exact⟨rfl,trivial⟩
 ·exact fun w s=>ax.kept .auto w s
 rintro r ⟨hr,hf⟩
 refine JD 6 (fun h13=>?_) fun h13=>?_
 ·have hrm:r+1≤(max most 0).toNat:=by omega
  have hmul:=Nat.mul_le_mul_right s.k.owner.length hrm
  rw[Nat.add_mul,Nat.one_mul] at hmul
  have hj:=h.rounds r (by omega)
  have hjl:(s.rounds r).k.owner.length=s.k.owner.length:=by rw[hj.2]
  have hjn:=hj.1.log
  have hj2:=h.rounds (r+1) (by rw[Nat.add_mul,Nat.one_mul];omega)
  have hjn2:=hj2.1.log
  rw[Nat.add_mul,Nat.one_mul] at hjn2
  have hrl:(s.rounds r).round.log.length≤1000000:=by show(s.rounds (r+1)).log.length≤_;omega
  have hfu:(max most 0).toNat-r=((max most 0).toNat-(r+1))+1:=by omega
  rw[hfu] at hf
  refine J 13 ?_
  refine .c call113 rfl (qS (s:=s.rounds r)) fun _ _=>?_
  refine J 6 ?_
  refine .c call112 rfl (Cx (s:=s.rounds r) hj.1 (by omega) (by omega)) fun _ _=>?_
  refine J 2 ?_
  refine .ns (t:=20) rfl (fun h20=>?_) (fun h20=>?_)
  ·refine J 3 ?_
   refine .cg call114 rfl (yC (s:=(s.rounds r).round) (space:=space) (n:=(s.rounds r).log.length) hrl) fun _ _=>?_
   refine JD 3 (fun h25=>?_) fun h25=>?_
   ·refine J 14 ?_
    have hh:(s.rounds r).Cv space=true:=by unfold Sy.Cv;rw[decide_eq_true h20,h25];rfl
    rw[hf,ni hh]
    refine .ey rfl rfl rfl fun w s=>⟨_,?_,trivial,ai .auto s⟩
    rfl
   ·refine J 7 ?_
    refine .aL (r+1) .auto rfl ?_ ?_ ?_ ?_
    ·omega
    ·exact⟨by omega,by rw[hf,mL (by unfold Sy.Cv;rw[h25,Bool.and_false])]⟩
    ·exact⟨rfl,trivial⟩
    ·exact fun w s=>ax.kept .auto w s
  ·refine J 7 ?_
   refine .ew rfl ?_
   refine J 7 ?_
   refine .aL (r+1) .auto rfl ?_ ?_ ?_ ?_
   ·omega
   ·exact⟨by omega,by rw[hf,mL (by unfold Sy.Cv;rw[decide_eq_false h20,Bool.false_and])]⟩
   ·exact⟨rfl,trivial⟩
   ·exact fun w s=>ax.kept .auto w s
 ·have hre:r=(max most 0).toNat:=by omega
  subst hre
  rw[Nat.sub_self] at hf
  refine J 8 ?_
  refine .p (.oK rfl rfl) ?_
  refine J 5 ?_
  rw[hf]
  refine .ey rfl rfl rfl fun w s=>⟨_,?_,trivial,ai .auto s⟩
  show Ending.returned (.tuple #[.int .i64 (max most 0),.bool false])=_
  rw[show max most 0=(((max most 0).toNat:Nat):Int) by omega];rfl
theorem jz{W:World}{procs:Int}:Fn Tryz.prog W 52 [.int .i64 procs] [] Unit (fun _=>.int .i64 ((min (max procs 1) 64) * 20 * (72+2 * (min (max procs 1) 64)))) (fun _=>True) (fun _=>[]):=by
 refine Fn.intro (N:=14) func52 rfl ntmps52 rfl fun F=>?_
 show aq _ _ _ _ _ _ [F]
 obtain⟨q,hq⟩:∃ q,q=min (max procs 1) 64:=⟨_,rfl⟩
 have hq1:1≤q∧q≤64:=by omega
 rw[← hq]
 refine J 8 ?_
 refine .p (.oK rfl rfl) ?_
 refine .p (.fq (Y.jK rfl rfl) hq.symm) ?_
 refine J 6 ?_
 refine .p (.mul rfl rfl (by omega)) ?_
 refine J 1 ?_
 refine .p (.mul rfl rfl (by omega)) ?_
 refine .p (.add rfl rfl (by omega)) ?_
 refine .p (.add rfl rfl (by omega)) ?_
 refine .p (.fq (Y.mul rfl rfl (su hq1 (by omega))) (show q * 20 * (64+2 * q+8)=q * 20 * (72+2 * q) by rw[show 64+2 * q+8=72+2 * q by omega])) ?_
 exact JR 4 ()
theorem AR{W:World}{A:aa}{v:Value}{xs:List uf}(hr:Rd W [A] mB 3 v xs)(hl:xs.length≤1000000000):Fn Tryz.prog W 53 [v] [A] Value (fun u=>u) (fun u=>Rd W [A] mB 3 u (xs.take 250)) (fun _=>[A]):=by
 refine Fn.intro (N:=9) func53 rfl ntmps53 rfl fun F=>?_
 haveI hRI:∀ (H:List aa) [bf H A],aw W H v mB 3 xs:=fun H h=>⟨hr.at h.has⟩
 show aq _ _ _ _ _ _ [A,F]
 refine JD 13 (fun h5=>?_) fun h5=>?_
 ·refine J 3 ?_
  refine .p (.sliceTo 250 underlying23 sizeOf34 rfl rfl Rd.s rfl (by omega)) ?_
  refine J 5 ?_
  refine .aG rfl rfl fun w s=>⟨_,?_,Rd.DJ (n:=250) (by omega) hr,ai .auto s⟩
  rfl
 ·refine J 9 ?_
  refine .aG rfl rfl fun w s=>⟨_,?_,by rw[List.take_of_length_le (by omega)];exact hr,ai .auto s⟩
  rfl
theorem gH{W:World}  : Fn Tryz.prog W 51 [] [] Unit (fun _=>.bool true) (fun _=>True) (fun _=>[]):=by
 refine Fn.intro (N:=45) func51 rfl ntmps51 rfl fun F=>?_
 show aq _ _ _ _ _ _ [F]
 refine J 7 ?_
 refine .p (.xk (fun v1 v2 v3=>[v1,v2,(.int .i64 0),(.int .i64 0),v3]) rfl rfl rfl (by kernel_rfl)) ?_
 refine .aj rfl (af.gI 112 rfl rfl (by kernel_rfl)) ?_
 rintro _ _ ⟨b7,rfl,rfl⟩
 refine .aj rfl (af.gI 113 rfl rfl (by kernel_rfl)) ?_
 rintro _ _ ⟨b8,rfl,rfl⟩
 refine .p (.hG (fun _=>ed (mi b7 b8)) rfl (by kernel_rfl)) ?_
 refine .aj rfl (af.alloc rfl zeroValue56 rfl) ?_
 rintro _ _ ⟨b1,rfl,rfl⟩
 refine J 6 ?_
 refine .aj rfl (af.gI 56 rfl rfl (by kernel_rfl)) ?_
 rintro _ _ ⟨b12,rfl,rfl⟩
 refine .c call14 rfl (mI (A:=N7 b7 b8 b12) (v:=wb b12 1) (ps:=[mi b7 b8]) (procs:=1) IY KD Mq) fun o ho=>?_
 rw[show[mi b7 b8].map aN.p=[I5] from rfl,Oq] at ho ⊢
 obtain⟨sb,rfl⟩:=Option.isSome_iff_exists.1 ho
 refine .fr (A:=optH (fun b=>AX b (Sy.new 1 [I5])) (some sb)) (Bs:=[AX sb DR]) .auto eV ?_
 refine .o2 (C:=AX sb DR) .auto rfl ?_
 rintro kb bl -
 refine JD 18 (fun h21=>?_) fun h21=>?_
 ·cases h21
 ·refine J 5 ?_
  refine .c call52 rfl (jz (procs:=1)) fun _ _=>?_
  rw[show(min (max (1:Int) 1) 64) * 20 * (72+2 * (min (max (1:Int) 1) 64))=1480 from by decide]
  refine .c call54 rfl (mM (b:=sb) (kb:=kb) (bl:=bl) (s:=DR) (space:=0) (most:=1480) i23 (by rw[Ot];decide) (by rw[Ot];decide) (by decide)) fun s2 _=>?_
  obtain⟨n,hn1,hn2,hfo⟩:=f23
  rw[show(max (1480:Int) 0).toNat=1480 from by decide,hfo]
  refine J 15 ?_
  refine .ns (t:=33) rfl (fun h31=>?_) (fun h31=>?_)
  ·refine J 4 ?_
   refine .ns (t:=37) rfl (fun h35=>?_) (fun h35=>?_)
   ·refine .cg call52 rfl (jz (procs:=0)) fun _ _=>?_
    rw[show(min (max (0:Int) 1) 64) * 20 * (72+2 * (min (max (0:Int) 1) 64))=1480 from by decide]
    refine J 3 ?_
    refine .cg call112 rfl AQ fun _ _=>?_
    exact JR 6 ()
   ·exact absurd h35 (by dsimp only;omega)
  ·exact absurd h31 (by dsimp only;omega)
theorem yD{W:World}{procs:Int}:Fn Tryz.prog W 10 [.int .i64 procs] [] Unit (fun _=>.bool true) (fun _=>True) (fun _=>[]):=by
 refine Fn.intro (N:=21) func10 rfl ntmps10 rfl fun F=>?_
 show aq _ _ _ _ _ _ [F]
 refine JD 18 (fun h6=>?_) fun h6=>?_
 ·refine JD 11 (fun h8=>?_) fun h8=>?_
  ·omega
  ·refine J 4 ?_
   refine .c call51 rfl gH fun _ _=>?_
   refine J 2 ?_
   refine .cg call52 rfl (jz (procs:=procs)) fun _ _=>?_
   refine J 1 ?_
   refine .g (.mul rfl rfl (by omega)) ?_
   refine J 1 ?_
   refine .g (.mul rfl rfl (by omega)) ?_
   refine .g (.add rfl rfl (by omega)) ?_
   refine .g (.mul rfl rfl (by first | omega | exact su (by omega) (by omega))) ?_
   refine J 6 ?_
   refine .aG rfl rfl fun w s=>⟨(),?_,trivial,ai .auto s⟩
   exact congrArg (fun b=>Ending.returned (.bool b)) (decide_eq_true (by rw[show min (max procs 1) 64=1 by omega]))
 ·refine JD 9 (fun h8=>?_) fun h8=>?_
  ·refine J 6 ?_
   refine .c call51 rfl gH fun _ _=>?_
   refine J 2 ?_
   refine .cg call52 rfl (jz (procs:=procs)) fun _ _=>?_
   refine J 1 ?_
   refine .g (.mul rfl rfl (by omega)) ?_
   refine J 1 ?_
   refine .g (.mul rfl rfl (by omega)) ?_
   refine .g (.add rfl rfl (by omega)) ?_
   refine .g (.mul rfl rfl (by first | omega | exact su (by omega) (by omega))) ?_
   refine J 6 ?_
   refine .aG rfl rfl fun w s=>⟨(),?_,trivial,ai .auto s⟩
   exact congrArg (fun b=>Ending.returned (.bool b)) (decide_eq_true (by rw[show min (max procs 1) 64=64 by omega]))
  ·refine J 4 ?_
   refine .c call51 rfl gH fun _ _=>?_
   refine J 2 ?_
   refine .cg call52 rfl (jz (procs:=procs)) fun _ _=>?_
   refine J 1 ?_
   refine .g (.mul rfl rfl (by omega)) ?_
   refine J 1 ?_
   refine .g (.mul rfl rfl (by omega)) ?_
   refine .g (.add rfl rfl (by omega)) ?_
   refine .g (.mul rfl rfl (by first | omega | exact su (by omega) (by omega))) ?_
   refine J 6 ?_
   refine .aG rfl rfl fun w s=>⟨(),?_,trivial,ai .auto s⟩
   exact congrArg (fun b=>Ending.returned (.bool b)) (decide_eq_true (by rw[show min (max procs 1) 64=procs by omega]))
theorem Cy{W:World}{A:aa}{v:Value}{ps:List aN}(hr:Rd W [A] ed 8 v ps)(hp:∀ p∈ps,eM W [A] p)(hb:ps.length≤1000000000∧ ∀ p∈ps,p.fs.length≤1000000000∧p.bI.length≤1000000000∧p.aZ.length≤1000000000)(hw:∀ p∈ps.map aN.p, ∀ f∈p.funcs, ∀ i∈f,fL i.n){np:Int}{u:Value}{xs:List uf}(hst:Rd W [A] mB 3 u xs)(hsl:xs.length≤1000000000)(hnp:0≤np∧np≤255){space mo me:Int}(hmo:0≤mo∧mo≤255)(hme:0≤me∧me≤255):Fn Tryz.prog W 11 [.int .u8 np,v,u,.int .i64 space,.int .u8 mo,.int .u8 me] [A] Unit (fun _=>.bool true) (fun _=>True) (fun _=>[A]):=by
 refine Fn.intro (N:=119) func11 rfl ntmps11 rfl fun F=>?_
 haveI hRI:∀ (H:List aa) [bf H A],aw W H v ed 8 ps:=fun H h=>⟨hr.at h.has⟩
 haveI hRJ:∀ (H:List aa) [bf H A],aw W H u mB 3 xs:=fun H h=>⟨hst.at h.has⟩
 show aq _ _ _ _ _ _ [A,F]
 obtain⟨mk,mkd⟩:∃ mk,mk=np.toNat % (5):=⟨_,rfl⟩
 have mkl:mk<5:=by rw[mkd];exact Nat.mod_lt _ (by decide)
 have mkt:np.tmod (5)=(mk:Int):=by
  obtain⟨m,rfl⟩:∃ m:Nat,np=(m:Int):=⟨np.toNat,by omega⟩
  rw[mkd,Int.toNat_natCast];exact(Int.ofNat_tmod m (5)).symm
 obtain⟨qa,qad⟩:∃ qa,qa=mo.toNat % (60):=⟨_,rfl⟩
 have qal:qa<60:=by rw[qad];exact Nat.mod_lt _ (by decide)
 have qat:mo.tmod (60)=(qa:Int):=by
  obtain⟨m,rfl⟩:∃ m:Nat,mo=(m:Int):=⟨mo.toNat,by omega⟩
  rw[qad,Int.toNat_natCast];exact(Int.ofNat_tmod m (60)).symm
 obtain⟨qb,qbd⟩:∃ qb,qb=me.toNat % (60):=⟨_,rfl⟩
 have qbl:qb<60:=by rw[qbd];exact Nat.mod_lt _ (by decide)
 have qbt:me.tmod (60)=(qb:Int):=by
  obtain⟨m,rfl⟩:∃ m:Nat,me=(m:Int):=⟨me.toNat,by omega⟩
  rw[qbd,Int.toNat_natCast];exact(Int.ofNat_tmod m (60)).symm
 refine J 8 ?_
 refine .p (.fq (Y.rem rfl rfl (by omega)) mkt) ?_
 refine .p (.gW underlying5 underlying3 rfl (by omega)) ?_
 refine .p (.add rfl rfl (by omega)) ?_
 refine J 7 ?_
 refine .c call14 rfl (mI (procs:=(mk:Int)+1) hr hp hb) fun o ho=>?_
 refine J 11 ?_
 refine .c call14 rfl (mI (procs:=(mk:Int)+1) hr hp hb) fun o2 ho2=>?_
 refine J 13 ?_
 apply aS.gf 3 44 41 [41,42,43,44] rfl
 ·intro h41
  refine J 4 ?_
  refine .oy .auto rfl (by first | exact fun _ h=>h | exact ax.kept .auto)
 ·intro h41
  refine J 4 ?_
  refine .oy .auto rfl (by first | exact fun _ h=>h | exact ax.kept .auto)
 refine JD 2 (fun h44=>?_) fun h44=>?_
 ·simp only[Bool.or_eq_true,decide_eq_true_eq] at h44
  refine J 2 ?_
  refine .c call51 rfl gH fun _ _=>?_
  exact JR 5 ()
 ·simp only[Bool.or_eq_false_iff,decide_eq_false_iff_not] at h44
  have hc:(ec ((mk:Int)+1) (ps.map aN.p))=0:=by omega
  obtain⟨sb,rfl⟩:=Option.isSome_iff_exists.1 (ho.trans (decide_eq_true hc))
  refine .fr (A:=optH (fun b=>AX b (Sy.new ((mk:Int)+1) (ps.map aN.p))) (some sb)) (Bs:=[AX sb (Sy.new ((mk:Int)+1) (ps.map aN.p))]) .auto eV ?_
  refine .o2 (C:=AX sb (Sy.new ((mk:Int)+1) (ps.map aN.p))) .auto rfl ?_
  rintro kb bl -
  obtain⟨sb2,rfl⟩:=Option.isSome_iff_exists.1 (ho2.trans (decide_eq_true hc))
  refine .fr (A:=optH (fun b=>AX b (Sy.new ((mk:Int)+1) (ps.map aN.p))) (some sb2)) (Bs:=[AX sb2 (Sy.new ((mk:Int)+1) (ps.map aN.p))]) .auto eV ?_
  refine .o2 (C:=AX sb2 (Sy.new ((mk:Int)+1) (ps.map aN.p))) .auto rfl ?_
  rintro kb2 bl2 -
  have hI0:=wF.new hc hw
  have h250:(xs.take 250).length≤250:=List.length_take_le ..
  have hni:=iW hc
  have how0:(Sy.new ((mk:Int)+1) (ps.map aN.p)).k.owner.length=mk+1:=((fF (iW hc).1 _ _).2.ol.trans hni.2.2.1).trans (by omega)
  refine J 5 ?_
  refine .c call53 rfl (AR hst hsl) fun u47 hsm=>?_
  haveI hRK:∀ (H:List aa) [bf H A],aw W H u47 mB 3 (xs.take 250):=fun H h=>⟨hsm.at h.has⟩
  refine J 10 ?_
  refine .bn (X:=Nat×Sy) [18,48,49,50,51,52,53,54,55,56,57,58,59,60,61,62,63,64,65] (fun z=>(xs.take 250).length-z.1) (fun z=>z.1≤(xs.take 250).length∧wF z.1 z.2∧z.2.k.owner.length=mk+1) (fun z=>[(18,some (.int .i64 (z.1:Int)))]) (fun z=>[fb sb kb bl z.2,fb sb2 kb2 bl2 z.2,A,F]) (0,(Sy.new ((mk:Int)+1) (ps.map aN.p))) ?_ ?_ ?_ ?_
  ·exact⟨Nat.zero_le _,hI0,how0⟩
  ·exact⟨rfl,trivial⟩
  ·exact fun w s=>ax.kept .auto w s
  rintro⟨i,s⟩ ⟨hi,hI,how⟩
  simp only at hi hI how
  refine JD 9 (fun h51=>?_) fun h51=>?_
  ·refine J 9 ?_
   obtain⟨x,hx⟩:=ak (show i<(xs.take 250).length by omega)
   refine .p (.ix i rfl rfl rfl (by omega)) ?_
   refine .p (.la rfl (Cells.rd Rd.s hx)) ?_
   refine .c call18 rfl (yy (b:=sb) (kb:=kb) (bl:=bl) (s:=s) (x:=x) (hI.rn (by omega)) hI.k.inv (by omega) (by have:=hI.log;omega) (Nat.le_trans hI.prio (by decide))) fun _ _=>?_
   refine J 6 ?_
   refine .p (.ix i rfl rfl rfl (by omega)) ?_
   refine .p (.la rfl (Cells.rd Rd.s hx)) ?_
   refine .c call18 rfl (yy (b:=sb2) (kb:=kb2) (bl:=bl2) (s:=s) (x:=x) (hI.rn (by omega)) hI.k.inv (by omega) (by have:=hI.log;omega) (Nat.le_trans hI.prio (by decide))) fun _ _=>?_
   refine J 8 ?_
   refine .aL (i+1,(s.do x).2) .auto rfl ?_ ?_ ?_ ?_
   ·show(xs.take 250).length-(i+1)<(xs.take 250).length-i;omega
   ·exact⟨by show i+1≤_;omega,hI.do (by omega) x,(IX hI.k.inv x).trans how⟩
   ·exact⟨rfl,trivial⟩
   ·exact fun w s=>ax.kept .auto w s
  ·have hmx1:(max (qa:Int) 0).toNat=qa:=by omega
   have hmx2:(max ((qa:Int)+(qb:Int)) 0).toNat=qa+qb:=by omega
   have hm1:qa * (mk+1)≤59 * 5:=Nat.mul_le_mul (by omega) (by omega)
   have hm2:(qa+qb) * (mk+1)≤118 * 5:=Nat.mul_le_mul (by omega) (by omega)
   have hfm:=ow (s:=s) (space:=space) qa qb 0
   refine J 10 ?_
   refine .p (.fq (Y.rem rfl rfl (by omega)) qat) ?_
   refine .p (.gW underlying5 underlying3 rfl (by omega)) ?_
   refine .c call54 rfl (mM (b:=sb) (kb:=kb) (bl:=bl) (s:=s) (space:=space) (most:=(qa:Int)) hI.j (by rw[hmx1,how];omega) (by rw[hmx1,how];omega) (by omega)) fun s2 _=>?_
   rw[hmx1]
   refine J 1 ?_
   refine .p (.extract (v:=.int .i64 (s.found space qa 0).1) rfl rfl) ?_
   refine .p (.extract (v:=.bool (s.found space qa 0).2) rfl rfl) ?_
   refine J 9 ?_
   refine .p (.fq (Y.rem rfl rfl (by omega)) qat) ?_
   refine .p (.gW underlying5 underlying3 rfl (by omega)) ?_
   refine J 1 ?_
   refine .p (.fq (Y.rem rfl rfl (by omega)) qbt) ?_
   refine .p (.gW underlying5 underlying3 rfl (by omega)) ?_
   refine .p (.add rfl rfl (by omega)) ?_
   refine .c call54 rfl (mM (b:=sb2) (kb:=kb2) (bl:=bl2) (s:=s) (space:=space) (most:=(qa:Int)+(qb:Int)) hI.j (by rw[hmx2,how];omega) (by rw[hmx2,how];omega) (by omega)) fun s3 _=>?_
   rw[hmx2]
   refine J 1 ?_
   refine .p (.extract (v:=.int .i64 (s.found space (qa+qb) 0).1) rfl rfl) ?_
   refine .p (.extract (v:=.bool (s.found space (qa+qb) 0).2) rfl rfl) ?_
   refine JD 10 (fun h88=>?_) fun h88=>?_
   ·have hfb:=hfm.1 h88
    rw[hfb.1]
    refine J 2 ?_
    refine .c call51 rfl gH fun _ _=>?_
    refine J 1 ?_
    apply aS.gd 2 92 90 [90,91,92] rfl
    ·intro h90
     refine J 3 ?_
     refine .oy .auto rfl (by first | exact fun _ h=>h | exact ax.kept .auto)
    ·intro h90
     refine J 3 ?_
     refine .oy .auto rfl (by first | exact fun _ h=>h | exact ax.kept .auto)
    refine J 1 ?_
    apply aS.gd 4 97 93 [93,94,95,96,97] rfl
    ·intro h93
     refine J 5 ?_
     refine .oy .auto rfl (by first | exact fun _ h=>h | exact ax.kept .auto)
    ·intro h93
     refine J 5 ?_
     refine .oy .auto rfl (by first | exact fun _ h=>h | exact ax.kept .auto)
    refine J 1 ?_
    apply aS.gd 3 101 98 [98,99,100,101] rfl
    ·intro h98
     refine J 4 ?_
     refine .oy .auto rfl (by first | exact fun _ h=>h | exact ax.kept .auto)
    ·intro h98
     refine J 4 ?_
     refine .oy .auto rfl (by first | exact fun _ h=>h | exact ax.kept .auto)
    refine J 5 ?_
    refine .aG rfl rfl fun w s=>⟨(),?_,trivial,ai .auto s⟩
    refine congrArg (fun b=>Ending.returned (.bool b)) ?_
    simp[h88]
    have:=hfb.2
    omega
   ·have hfb:=hfm.2 h88
    have hfc:(s.found space (qa+qb) 0).2=false∨(qa:Int)<(s.found space (qa+qb) 0).1:=by
     cases h9:(s.found space (qa+qb) 0).2 with
     | false=>exact .inl rfl
     | true =>
      have h10:=hfb.2 h9
      have h11:=hfb.1
      exact .inr (by omega)
    refine J 4 ?_
    refine .c call51 rfl gH fun _ _=>?_
    refine J 1 ?_
    apply aS.gd 6 109 103 [103,104,105,106,107,108,109] rfl
    ·intro h103
     refine J 2 ?_
     refine .g (.fq (Y.rem rfl rfl (by omega)) qat) ?_
     refine .g (.gW underlying5 underlying3 rfl (by omega)) ?_
     refine J 3 ?_
     refine .oy .auto rfl (by first | exact fun _ h=>h | exact ax.kept .auto)
    ·intro h103
     refine J 7 ?_
     refine .oy .auto rfl (by first | exact fun _ h=>h | exact ax.kept .auto)
    refine J 1 ?_
    apply aS.gz 8 118 110 [110,111,112,113,114,115,116,117,118] rfl
    ·intro h110
     refine J 3 ?_
     apply aS.iw 4 117 113 [113,114,115,116,117] rfl
     ·intro h113
      refine J 5 ?_
      refine .oy .auto rfl (by first | exact fun _ h=>h | exact ax.kept .auto)
     ·intro h113
      refine J 5 ?_
      refine .oy .auto rfl (by first | exact fun _ h=>h | exact ax.kept .auto)
     refine J 2 ?_
     refine .oy .auto rfl (by first | exact fun _ h=>h | exact ax.kept .auto)
    ·intro h110
     refine J 9 ?_
     refine .oy .auto rfl (by first | exact fun _ h=>h | exact ax.kept .auto)
    refine J 4 ?_
    refine .aG rfl rfl fun w s=>⟨(),?_,trivial,ai .auto s⟩
    refine congrArg (fun b=>Ending.returned (.bool b)) ?_
    simpa [hfb.1] using hfc
end Go.SLYthlllpngkljgfaaGreat
