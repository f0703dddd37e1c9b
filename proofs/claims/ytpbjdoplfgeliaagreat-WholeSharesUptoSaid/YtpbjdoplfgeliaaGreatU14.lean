/- Walks. Conditions: none. -/
import Derived.Test.YtpbjdoplfgeliaaGreatU05
namespace Go.SLYtpbjdoplfgeliaaGreat
open Go Go.RowKit
def Deal.pk(d:Deal)(i:Nat)(b:Int):Int :=
 if d.demand.getD i 0≤d.out.getD i 0 then b
 else if b<0∨d.prio.getD b.toNat 0<d.prio.getD i 0∨(d.prio.getD i 0=d.prio.getD b.toNat 0∧d.out.getD i 0<d.out.getD b.toNat 0) then (i:Int) else b
def Deal.bst(d:Deal)(first:Nat):Nat→Nat→Int→Int
 | 0,_,b=>b
 | m+1,k,b=>Deal.bst d first m (k+1) (d.pk ((first+k) % d.demand.length) b)
def Deal.plus(d:Deal)(n:Nat):Deal:={d with out:=d.out.set n (d.out.getD n 0+1),left:=d.left-1 }
def Deal.next(d:Deal)(first:Nat):Int:=d.bst first d.demand.length 0 (-1)
def Deal.grd(first:Nat):Nat→Deal→Deal
 | 0,d=>d
 | f+1,d=>if d.next first<0 then d else Deal.grd first f (d.plus (d.next first).toNat)
def Deal.Wt(d:Deal)(i:Nat):Prop:=d.out.getD i 0<d.demand.getD i 0
theorem qw{d:Deal}{i:Nat}{b:Int}(h:¬d.Wt i):d.pk i b=b:=by unfold Deal.pk;unfold Deal.Wt at h;rw[if_pos (by omega)]
theorem qx{d:Deal}{i:Nat}{b:Int}(h:d.Wt i)(hb:b<0∨d.prio.getD b.toNat 0<d.prio.getD i 0∨(d.prio.getD i 0=d.prio.getD b.toNat 0∧d.out.getD i 0<d.out.getD b.toNat 0)):d.pk i b=(i:Int):=by
 unfold Deal.pk;unfold Deal.Wt at h;rw[if_neg (by omega),if_pos hb]
theorem qy{d:Deal}{i:Nat}{b:Int}(hb:¬(b<0∨d.prio.getD b.toNat 0<d.prio.getD i 0∨(d.prio.getD i 0=d.prio.getD b.toNat 0∧d.out.getD i 0<d.out.getD b.toNat 0))):d.pk i b=b:=by
 unfold Deal.pk
 split
 ·rfl
 ·first
  | rfl
  | exact if_neg hb
theorem I0{d:Deal}{f j0:Nat}(hj:j0<d.demand.length)(hw:d.Wt ((f+j0) % d.demand.length))
  (hp:∀ j,j<d.demand.length→d.Wt ((f+j) % d.demand.length)→d.prio.getD ((f+j) % d.demand.length) 0≤d.prio.getD ((f+j0) % d.demand.length) 0)
  (ho:∀ j,j<d.demand.length→d.Wt ((f+j) % d.demand.length)→d.prio.getD ((f+j) % d.demand.length) 0=d.prio.getD ((f+j0) % d.demand.length) 0→d.out.getD ((f+j0) % d.demand.length) 0≤d.out.getD ((f+j) % d.demand.length) 0∧(j<j0→d.out.getD ((f+j0) % d.demand.length) 0<d.out.getD ((f+j) % d.demand.length) 0)) :
  ∀ (m k:Nat) (b:Int),m+k=d.demand.length→(k≤j0→b<0∨ ∃ j,j<k∧b=(((f+j) % d.demand.length:Nat):Int)∧d.Wt ((f+j) % d.demand.length))→(j0<k→b=(((f+j0) % d.demand.length:Nat):Int))→d.bst f m k b=(((f+j0) % d.demand.length:Nat):Int)
 | 0,k,b,hm,_,h2=>h2 (by omega)
 | m+1,k,b,hm,h1,h2=>by
  rw[Deal.bst]
  refine I0 hj hw hp ho m (k+1) _ (by omega) (fun hk=>?_) (fun hk=>?_)
  ·have h1:=h1 (by omega)
   by_cases g:d.Wt ((f+k) % d.demand.length)
   ·by_cases c:b<0∨d.prio.getD b.toNat 0<d.prio.getD ((f+k) % d.demand.length) 0∨(d.prio.getD ((f+k) % d.demand.length) 0=d.prio.getD b.toNat 0∧d.out.getD ((f+k) % d.demand.length) 0<d.out.getD b.toNat 0)
    ·rw[qx g c];exact .inr ⟨k,by omega,rfl,g⟩
    ·rw[qy c]
     rcases h1 with h1 | ⟨j,hj,e,w⟩
     ·exact .inl h1
     ·exact .inr ⟨j,by omega,e,w⟩
   ·rw[qw g]
    rcases h1 with h1 | ⟨j,hj,e,w⟩
    ·exact .inl h1
    ·exact .inr ⟨j,by omega,e,w⟩
  ·by_cases e:k=j0
   ·subst e
    refine qx hw ?_
    rcases h1 (Nat.le_refl _) with h1 | ⟨j,hjk,e,w⟩
    ·exact .inl h1
    ·right
     rw[e,Int.toNat_natCast]
     have a1:=hp j (by omega) w
     by_cases a2:d.prio.getD ((f+j) % d.demand.length) 0=d.prio.getD ((f+k) % d.demand.length) 0
     ·exact .inr ⟨a2.symm,(ho j (by omega) w a2).2 hjk⟩
     ·exact .inl (by omega)
   ·have hb:=h2 (by omega)
    by_cases g:d.Wt ((f+k) % d.demand.length)
    ·rw[qy,hb]
     rw[hb,Int.toNat_natCast]
     have a1:=hp k (by omega) g
     rintro(c | c | ⟨c1,c2⟩)
     ·omega
     ·omega
     ·have:=(ho k (by omega) g c1).1;omega
    ·rw[qw g,hb]
theorem A7{d:Deal}{f:Nat}(h:∀ i,¬d.Wt i):∀ (m k:Nat),d.bst f m k (-1) = -1
 | 0,_=>rfl
 | m+1,k=>by rw[Deal.bst,qw (h _)];exact A7 h m (k+1)
def Deal.G(d:Deal)(f:Nat):Deal:=Deal.grd f d.left.toNat d
theorem I1{d:Deal}{f i:Nat}(h0:0<d.left)(h:d.next f=(i:Int)):(d.plus i).G f=d.G f:=by
 unfold Deal.G
 have e:d.left.toNat=(d.left-1).toNat+1:=by omega
 rw[e,Deal.grd,h,if_neg (by omega),Int.toNat_natCast];rfl
theorem I2{d:Deal}{f:Nat}(h:¬ 0<d.left):d.G f=d:=by
 unfold Deal.G;rw[show d.left.toNat=0 by omega];rfl
theorem MP{d:Deal}{f:Nat}(h:∀ i,¬d.Wt i):d.G f=d:=by
 unfold Deal.G
 cases d.left.toNat with
 | zero=>rfl
 | succ n=>rw[Deal.grd,if_pos (by unfold Deal.next;rw[A7 h];decide)]
structure Rn(dem pri:List Int)(f:Nat)(p:Int)(k:Nat)(r:Int)(d:Deal):Prop where
 de:d.demand=dem
 pr:d.prio=pri
 ol:d.out.length=dem.length
 hi:0<d.left→ ∀ i,d.Wt i→pri.getD i 0≤p
 eq:0<d.left→ ∀ j,j<dem.length→d.Wt ((f+j) % dem.length)→pri.getD ((f+j) % dem.length) 0=p→d.out.getD ((f+j) % dem.length) 0=if j<k then r+1 else r
 lo:∀ i,pri.getD i 0<p→d.out.getD i 0=0
theorem KS{f n j k:Nat}(hj:j<n)(hk:k<n)(h:(f+j) % n=(f+k) % n):j=k:=by
 have e1:=Nat.div_add_mod (f+j) n
 have e2:=Nat.div_add_mod (f+k) n
 rw[h] at e1
 rcases Nat.lt_trichotomy ((f+j) / n) ((f+k) / n) with g | g | g
 ·have:=Nat.mul_le_mul_left n (show(f+j) / n+1≤(f+k) / n from g)
  rw[Nat.mul_add] at this;omega
 ·rw[g] at e1;omega
 ·have:=Nat.mul_le_mul_left n (show(f+k) / n+1≤(f+j) / n from g)
  rw[Nat.mul_add] at this;omega
theorem vn{l:List Int}{i j:Nat}{v:Int}(hi:i<l.length):(l.set i v).getD j 0=if i=j then v else l.getD j 0:=by
 rw[List.getD_eq_getElem?_getD,List.getD_eq_getElem?_getD,List.getElem?_set]
 by_cases e:i=j
 ·rw[if_pos e,if_pos e,if_pos hi];rfl
 ·rw[if_neg e,if_neg e]
theorem Rn.step{dem pri:List Int}{f k:Nat}{p r:Int}{d:Deal}(h:Rn dem pri f p k r d)(hk:k<dem.length):Rn dem pri f p (k+1) r (d.step p ((f+k) % dem.length)).1∧(d.step p ((f+k) % dem.length)).1.G f=d.G f:=by
 by_cases c:0<d.left∧d.hD ((f+k) % dem.length) p=true
 ·have hn:(f+k) % dem.length<dem.length:=Nat.mod_lt _ (by omega)
  have hw:=c.2
  unfold Deal.hD at hw
  simp only[Bool.and_eq_true,decide_eq_true_eq] at hw
  rw[h.pr] at hw
  have hW:d.Wt ((f+k) % dem.length):=hw.2
  have hr:=h.eq c.1 k hk hW hw.1
  rw[if_neg (by omega)] at hr
  rw[kL c]
  refine⟨⟨h.de,h.pr,?_,fun hl i hi=>?_,fun hl j hj hi hq=>?_,fun i hi=>?_⟩,?_⟩
  ·show(d.out.set _ _).length=_
   rw[List.length_set];exact h.ol
  ·unfold Deal.Wt at hi
   simp only at hi
   rw[vn (by rw[h.ol];exact hn)] at hi
   by_cases e:(f+k) % dem.length=i
   ·rw[← e,hw.1];exact Int.le_refl _
   ·rw[if_neg e] at hi;exact h.hi c.1 i hi
  ·unfold Deal.Wt at hi
   simp only at hi ⊢
   rw[vn (by rw[h.ol];exact hn)] at hi ⊢
   by_cases e:(f+k) % dem.length=(f+j) % dem.length
   ·have:=KS hk hj e
    subst this
    rw[if_pos rfl,if_pos (by omega),hr]
   ·rw[if_neg e] at hi ⊢
    have hjk:j≠k:=fun g=>e (by rw[g])
    rw[h.eq c.1 j hj hi hq]
    by_cases g:j<k
    ·rw[if_pos g,if_pos (by omega)]
    ·rw[if_neg g,if_neg (by omega)]
  ·show(d.out.set _ _).getD i 0=0
   rw[vn (by rw[h.ol];exact hn)]
   by_cases e:(f+k) % dem.length=i
   ·rw[← e,hw.1] at hi;exact absurd hi (Int.lt_irrefl _)
   ·rw[if_neg e];exact h.lo i hi
  ·refine I1 (i:=(f+k) % dem.length) c.1 ?_
   unfold Deal.next
   have hd:=h.de
   have:=I0 (d:=d) (f:=f) (j0:=k) (by rw[hd];exact hk) (by rw[hd];exact hW)
    (fun j hj hwj=>by rw[hd] at hj hwj ⊢;rw[h.pr,hw.1];exact h.hi c.1 _ hwj)
    (fun j hj hwj hq=>by
     rw[hd] at hj hwj hq ⊢
     rw[h.pr,hw.1] at hq
     rw[h.eq c.1 j hj hwj hq,hr]
     by_cases g:j<k
     ·rw[if_pos g];exact⟨by omega,fun _=>by omega⟩
     ·rw[if_neg g];exact⟨Int.le_refl _,fun x=>absurd x g⟩)
    d.demand.length 0 (-1) (by omega) (fun _=>.inl (by decide)) (fun x=>absurd x (by omega))
   rw[this,hd]
 ·rw[j6 c]
  refine⟨⟨h.de,h.pr,h.ol,h.hi,fun hl j hj hi hq=>?_,h.lo⟩,rfl⟩
  have hjk:j≠k:=fun g=>c ⟨hl,by
   unfold Deal.hD
   rw[h.pr, ← g,hq,decide_eq_true rfl,decide_eq_true (p:=d.out.getD ((f+j) % dem.length) 0<d.demand.getD ((f+j) % dem.length) 0) hi];rfl⟩
  rw[h.eq hl j hj hi hq]
  by_cases g:j<k
  ·rw[if_pos g,if_pos (by omega)]
  ·rw[if_neg g,if_neg (by omega)]
theorem Rn.go{dem pri:List Int}{f:Nat}{p r:Int}:∀ (m k:Nat) {d:Deal} (any:Bool),m+k=dem.length→Rn dem pri f p k r d→Rn dem pri f p dem.length r (Deal.go p f m k d any).1∧(Deal.go p f m k d any).1.G f=d.G f∧((Deal.go p f m k d any).2=false→(Deal.go p f m k d any).1=d∧(0<d.left→ ∀ j,k≤j→j<dem.length→¬d.hD ((f+j) % dem.length) p=true))
 | 0,k,d,any,hm,h=>by
  have:k=dem.length:=by omega
  subst this
  exact⟨h,rfl,fun _=>⟨rfl,fun _ j h1 h2=>absurd h1 (by omega)⟩⟩
 | m+1,k,d,any,hm,h=>by
  obtain⟨h1,h2⟩:=h.step (by omega)
  rw[Deal.go,h.de]
  obtain⟨g1,g2,g3⟩:=Rn.go m (k+1) (any || (d.step p ((f+k) % dem.length)).2) (by omega) h1
  refine⟨g1,g2.trans h2,fun hf=>?_⟩
  obtain⟨e1,e2⟩:=g3 hf
  have hany:(Deal.go p f m (k+1) (d.step p ((f+k) % dem.length)).1 (any || (d.step p ((f+k) % dem.length)).2)).2=false→(d.step p ((f+k) % dem.length)).2=false:=fun x=>by
   have key:∀ (m k:Nat) (d:Deal) (any:Bool),(Deal.go p f m k d any).2=false→any=false:=by
    intro m
    induction m with
    | zero=>intro k d any h;exact h
    | succ m ih =>
     intro k d any h
     rw[Deal.go] at h
     have:=ih _ _ _ h
     rw[Bool.or_eq_false_iff] at this
     exact this.1
   have:=key _ _ _ _ x
   rw[Bool.or_eq_false_iff] at this
   exact this.2
  have hs:=hany hf
  by_cases c:0<d.left∧d.hD ((f+k) % dem.length) p=true
  ·rw[kL c] at hs;cases hs
  ·rw[j6 c] at e1 e2
   simp only at e1 e2
   rw[j6 c]
   refine⟨e1,fun hl j hj hjn=>?_⟩
   by_cases e:j=k
   ·subst e;exact fun x=>c ⟨hl,x⟩
   ·exact e2 hl j (by omega) hjn
theorem Rn.turn{dem pri:List Int}{f:Nat}{p r:Int}{d:Deal}(h:Rn dem pri f p dem.length r d):Rn dem pri f p 0 (r+1) d:=⟨h.de,h.pr,h.ol,h.hi,fun hl j hj hi hq=>by rw[h.eq hl j hj hi hq,if_pos hj,if_neg (by omega)],h.lo⟩
theorem KT{f n i:Nat}(hi:i<n):∃ j,j<n∧(f+j) % n=i:=by
 have hf:=Nat.mod_lt f (show 0<n by omega)
 by_cases g:f % n≤i
 ·refine⟨i-f % n,by omega,?_⟩
  rw[Nat.add_mod,Nat.mod_eq_of_lt (show i-f % n<n by omega),show f % n+(i-f % n)=i by omega,Nat.mod_eq_of_lt hi]
 ·refine⟨i+n-f % n,by omega,?_⟩
  rw[Nat.add_mod,Nat.mod_eq_of_lt (show i+n-f % n<n by omega),show f % n+(i+n-f % n)=i+n by omega,Nat.add_mod_right,Nat.mod_eq_of_lt hi]
theorem NT{d:Deal}{dem:List Int}(hd:d.demand=dem)(ol:d.out.length=dem.length){i:Nat}(h:d.Wt i):i<dem.length:=by
 unfold Deal.Wt at h
 rw[hd] at h
 refine Decidable.of_not_not fun g=>?_
 rw[List.getD_eq_getElem?_getD,List.getD_eq_getElem?_getD,List.getElem?_eq_none (by omega),List.getElem?_eq_none (by omega)] at h
 exact absurd h (Int.lt_irrefl _)
theorem Rn.rounds{dem pri:List Int}{f:Nat}{p:Int}:∀ (a:Nat) {r:Int} {d:Deal},0≤d.left→d.left.toNat<a→Rn dem pri f p 0 r d→Rn dem pri f (p-1) 0 0 (Deal.rounds p f a d)∧(Deal.rounds p f a d).G f=d.G f
 | 0,_,_,_,h,_=>absurd h (by omega)
 | a+1,r,d,h0,ha,h=>by
  obtain⟨g1,g2,g3⟩:=h.go dem.length 0 false (by omega)
  obtain⟨f1,f2,f3,f4,f5⟩:=round_facts d p f
  rw[Deal.rounds]
  have e:d.round p f=Deal.go p f dem.length 0 d false:=by unfold Deal.round;rw[h.de]
  rw[e] at f1 f2 f3 f4 f5 ⊢
  by_cases c:(Deal.go p f dem.length 0 d false).2=true
  ·rw[if_pos c]
   have l1:=f2 h0
   have l2:=f3 c
   obtain⟨r1,r2⟩:=Rn.rounds a (by omega) (by omega) g1.turn
   exact⟨r1,r2.trans g2⟩
  ·rw[if_neg c]
   obtain⟨e1,e2⟩:=g3 (Bool.not_eq_true _ ▸ c)
   rw[e1]
   refine⟨⟨h.de,h.pr,h.ol,fun hl i hi=>?_,fun hl j hj hi hq=>?_,fun i hi=>h.lo i (by omega)⟩,rfl⟩
   ·have h1:=h.hi hl i hi
    have hlt:=NT h.de h.ol hi
    obtain⟨j,hj,hji⟩:=KT (f:=f) hlt
    have h2:=e2 hl j (Nat.zero_le _) hj
    rw[hji] at h2
    refine Decidable.of_not_not fun g=>h2 ?_
    unfold Deal.hD
    rw[h.pr,decide_eq_true (show pri.getD i 0=p by omega),decide_eq_true (p:=d.out.getD i 0<d.demand.getD i 0) hi];rfl
   ·rw[if_neg (by omega)];exact h.lo _ (by omega)
theorem Rn.tB{dem pri:List Int}{f:Nat}:∀ (p:Nat) {d:Deal},0≤d.left→Rn dem pri f ((p:Int)-1) 0 0 d→Rn dem pri f (-1) 0 0 (priosN f p d)∧(priosN f p d).G f=d.G f
 | 0,_,_,h=>⟨h,rfl⟩
 | p+1,d,h0,h=>by
  rw[show((p+1:Nat):Int)-1=(p:Int) by omega] at h
  obtain⟨g1,g2⟩:=h.rounds (d.left.toNat+1) h0 (by omega)
  rw[priosN]
  have hl:0≤(dr (p:Int) f d).left:=by
   have key:∀ (a:Nat) (d:Deal),0≤d.left→0≤(Deal.rounds (p:Int) f a d).left:=by
    intro a
    induction a with
    | zero=>intro d h;exact h
    | succ a ih =>
     intro d h
     have hr:=(round_facts d (p:Int) f).2.1 h
     rw[Deal.rounds]
     split
     ·exact ih _ hr
     ·exact hr
   exact key _ _ h0
  obtain⟨r1,r2⟩:=Rn.tB p hl g1
  exact⟨r1,r2.trans g2⟩
theorem I3{procs:Int}{demand prio:List Int}(f:Nat)(h0:0≤procs)(hp:∀ x∈prio,0≤x∧x≤7):priosN f 8 (vK procs demand prio)=(vK procs demand prio).G f∧(0<(priosN f 8 (vK procs demand prio)).left→ ∀ i,¬(priosN f 8 (vK procs demand prio)).Wt i):=by
 have hz:∀ i,(vK procs demand prio).out.getD i 0=0:=fun i=>by
  show(List.replicate demand.length (0:Int)).getD i 0=0
  rw[List.getD_eq_getElem?_getD,List.getElem?_replicate]
  split <;> rfl
 have hpr:∀ i,0≤prio.getD i 0∧prio.getD i 0≤7:=fun i=>by
  rw[List.getD_eq_getElem?_getD]
  cases e:prio[i]? with
  | none=>exact⟨by decide,by decide⟩
  | some x=>exact hp x (List.mem_of_getElem? e)
 have hR:Rn demand prio f (((8:Nat):Int)-1) 0 0 (vK procs demand prio):=⟨rfl,rfl,List.length_replicate ..,fun _ i _=>by have:=(hpr i).2;omega,fun _ j _ _ _=>by rw[hz,if_neg (by omega)],fun i _=>hz i⟩
 obtain⟨h1,h2⟩:=hR.tB 8 h0
 have hw:0<(priosN f 8 (vK procs demand prio)).left→ ∀ i,¬(priosN f 8 (vK procs demand prio)).Wt i:=fun hl i hi=>by
  have:=h1.hi hl i hi
  have:=(hpr i).1
  omega
 refine⟨?_,hw⟩
 rw[← h2]
 by_cases c:0<(priosN f 8 (vK procs demand prio)).left
 ·exact(MP (hw c)).symm
 ·exact(I2 c).symm
end Go.SLYtpbjdoplfgeliaaGreat
namespace Go.SLYtpbjdoplfgeliaaGreat
open Go Go.RowKit
theorem A8{procs:Int}{demand prio:List Int}{turn:Int}(h:¬(demand.length=prio.length∧demand.length≤8∧0≤procs∧procs≤64)):fm procs demand prio turn=none:=by
 by_cases hw:within procs 64=true
 ·have hw2:=hw
  unfold within at hw2
  simp only[Bool.and_eq_true,decide_eq_true_eq] at hw2
  exact sF (.inl (by omega))
 ·exact sF (.inr (Bool.not_eq_true _ ▸ hw))
theorem nT{x n:Int}(h0:0≤x)(h1:x≤n):within x n=true:=by unfold within;rw[decide_eq_true h0,decide_eq_true h1];rfl
theorem CU{x n:Int}(h:¬(0≤x∧x≤n)):within x n=false:=by
 refine Bool.eq_false_iff.2 fun e=>h ?_
 unfold within at e
 simpa using e
theorem I4{t:Int}{n:Nat}(hn:0<n)(h:t.tmod n<0):t.tmod n+n=((pick t n:Nat):Int):=by
 have h1:=Int.lt_tmod_of_pos t (show(0:Int)<n by omega)
 exact(Int.tmod_eq_of_lt (a:=t.tmod n+n) (by omega) (by omega)).symm.trans (kM hn)
theorem I5{t:Int}{n:Nat}(hn:0<n)(h:¬t.tmod n<0):t.tmod n=((pick t n:Nat):Int):=by
 have h2:=Int.tmod_lt_of_pos t (show(0:Int)<n by omega)
 have e:(t.tmod n+n).tmod n=t.tmod n:=by
  rw[Int.tmod_eq_emod_of_nonneg (by omega)]
  simp only[Int.add_emod_right]
  exact Int.emod_eq_of_lt (by omega) h2
 exact e.symm.trans (kM hn)
theorem KU{d:Deal}(h:vJ d)(h0:0<d.left)(n:Nat):vJ (d.plus n):=by
 refine⟨by show 0≤d.left-1∧d.left-1≤64;have:=h.left;omega,h.pl,by show(d.out.set _ _).length=_;rw[List.length_set];exact h.ol,h.dm,fun y hy=>?_,h.dl⟩
 rcases List.mem_or_eq_of_mem_set hy with e | e
 ·exact h.om y e
 ·subst e
  rw[List.getD_eq_getElem?_getD]
  cases e:d.out[n]? with
  | none=>simp
  | some x=>have:=h.om x (List.mem_of_getElem? e);simp;omega
structure CV(d:Deal)(f k:Nat)(b:Int):Prop where
 kl:k≤d.demand.length
 n:d.bst f (d.demand.length-k) k b=d.next f
 b:b = -1∨ ∃ i:Nat,b=(i:Int)∧i<d.demand.length∧d.Wt i
theorem CV.new(d:Deal)(f:Nat):CV d f 0 (-1):=⟨Nat.zero_le _,rfl,.inl rfl⟩
theorem CV.step{d:Deal}{f k:Nat}{b:Int}(h:CV d f k b)(hk:k<d.demand.length)(c:Int)(hc:d.pk ((f+k) % d.demand.length) b=c):CV d f (k+1) c:=by
 refine⟨by omega,?_,?_⟩
 ·rw[← h.n,show d.demand.length-k=(d.demand.length-(k+1))+1 by omega,Deal.bst,hc]
 ·by_cases g:d.Wt ((f+k) % d.demand.length)
  ·unfold Deal.pk at hc
   unfold Deal.Wt at g
   rw[if_neg (by omega)] at hc
   split at hc
   ·exact .inr ⟨_,hc.symm,Nat.mod_lt _ (by omega),g⟩
   ·rw[← hc];exact h.b
  ·rw[qw g] at hc;rw[← hc];exact h.b
theorem NU{d:Deal}{f:Nat}(h:d.next f<0):d.G f=d:=by
 unfold Deal.G
 cases d.left.toNat with
 | zero=>rfl
 | succ n=>rw[Deal.grd,if_pos h]
theorem I6{d:Deal}{i:Nat}{x y:Int}(hx:d.out[i]?=some x)(hy:d.demand[i]?=some y):d.Wt i↔x<y:=by unfold Deal.Wt;rw[aP hx,aP hy]
theorem OM{d:Deal}{i:Nat}{b:Int}(h:d.Wt i)(hb:b<0):d.pk i b=(i:Int):=qx h (.inl hb)
theorem ON{d:Deal}{i j:Nat}{p q:Int}(h:d.Wt i)(hp:d.prio[i]?=some p)(hq:d.prio[j]?=some q)(hc:q<p):d.pk i (j:Int)=(i:Int):=qx h (.inr (.inl (by rw[Int.toNat_natCast,aP hp,aP hq];exact hc)))
theorem OO{d:Deal}{i j:Nat}{p q x y:Int}(h:d.Wt i)(hp:d.prio[i]?=some p)(hq:d.prio[j]?=some q)(hx:d.out[i]?=some x)(hy:d.out[j]?=some y)(he:p=q)(hc:x<y):d.pk i (j:Int)=(i:Int):=qx h (.inr (.inr (by rw[Int.toNat_natCast,aP hp,aP hq,aP hx,aP hy];exact⟨he,hc⟩)))
theorem OP{d:Deal}{i j:Nat}{p q:Int}(hp:d.prio[i]?=some p)(hq:d.prio[j]?=some q)(h1:¬q<p)(h2:¬p=q):d.pk i (j:Int)=(j:Int):=qy (by
 rw[Int.toNat_natCast,aP hp,aP hq]
 rintro(c | c | ⟨c, -⟩)
 ·omega
 ·exact h1 c
 ·exact h2 c)
theorem OQ{d:Deal}{i j:Nat}{p q x y:Int}(hp:d.prio[i]?=some p)(hq:d.prio[j]?=some q)(hx:d.out[i]?=some x)(hy:d.out[j]?=some y)(h1:¬q<p)(h2:¬x<y):d.pk i (j:Int)=(j:Int):=qy (by
 rw[Int.toNat_natCast,aP hp,aP hq,aP hx,aP hy]
 rintro(c | c | ⟨-,c⟩)
 ·omega
 ·exact h1 c
 ·exact h2 c)
end Go.SLYtpbjdoplfgeliaaGreat
