/- Walks of functions, and what they compute. Conditions: none, this text proves no statement. -/
import Derived.Test.YthlllpngkljgfaaGreatG14
import Derived.Test.YthlllpngkljgfaaGreatG06
import Derived.Test.YthlllpngkljgfaaGreatG12
import Derived.Test.YthlllpngkljgfaaGreatG07
import Derived.Test.YthlllpngkljgfaaGreatProg
import Derived.KernelRfl
set_option maxRecDepth 20000
set_option maxHeartbeats 4000000
namespace Go.SLYthlllpngkljgfaaGreat
open Go Go.RowKit
theorem A2{w:Int}(hw:0≤w)(l:List Ev):iY l w=l.countP (may w):=by
 unfold iY
 rw[← List.countP_eq_length_filter]
 refine List.countP_congr fun e _=>?_
 unfold yw may dG
 simp only[Bool.and_eq_true,Bool.or_eq_true,decide_eq_true_eq]
 constructor
 ·rintro⟨h,(⟨-,g⟩ | g)⟩
  ·exact⟨h,g.elim (fun x=>.inl (.inr x)) .inr⟩
  ·exact⟨h,.inl (.inl g)⟩
 ·rintro⟨h,g⟩
  refine⟨h,?_⟩
  by_cases hm:0<e.mode
  ·exact .inr hm
  ·exact .inl ⟨⟨by omega,by omega⟩,by omega⟩
theorem A3{t:Int}:∀ {rows:List (List Int)},rowN t rows≤1→(if yt rows t=true then 1 else 0)=rowN t rows
 | [],_=>rfl
 | r::rows,h=>by
  unfold rowN at h ⊢
  have h2:=A3 (t:=t) (rows:=rows) (by omega)
  unfold yt at h2 ⊢
  rw[List.any_cons]
  by_cases hc:t∈r
  ·have:=List.count_pos_iff.2 hc
   rw[List.contains_eq_mem,decide_eq_true hc]
   simp only[Bool.true_or,if_true]
   omega
  ·have hz:=List.count_eq_zero.2 hc
   rw[List.contains_eq_mem,decide_eq_false hc,hz,Bool.false_or,h2,Nat.zero_add]
theorem vj{l:Lib}{w:Int}(hw:0≤w)(p:Int):(dj l w p).length=iV w (bS l p):=by
 unfold dj iV
 rw[List.length_append,List.length_replicate,A2 hw]
 split <;> simp
theorem xu{l:Lib}{w:Int}(hw:0≤w)(hz:∀ v∈l.vs,v.mode=0→iV w v=0):∀ (k:Nat),k≤l.vs.length→((procsFrom (l.vs.drop (l.vs.length-k)) (l.vs.length-k)).flatMap (dj l w)).length=sumP w (l.vs.drop (l.vs.length-k))
 | 0,_=>by rw[Nat.sub_zero,List.drop_length];rfl
 | k+1,hk=>by
  obtain⟨v,hv⟩:=ak (show l.vs.length - (k+1)<l.vs.length by omega)
  have ih:=xu hw hz k (by omega)
  have e:l.vs.length-k=l.vs.length-(k+1)+1:=by omega
  rw[e] at ih
  rw[drop_cons hv,procsFrom]
  show _=iV w v+sumP w _
  by_cases hm:v.mode=0
  ·rw[if_pos hm,ih,hz v (List.mem_of_getElem? hv) hm];omega
  ·rw[if_neg hm,List.flatMap_cons,List.length_append,ih,vj hw]
   have:bS l ((l.vs.length-(k+1):Nat):Int)=v:=uk (by unfold Lib.has;rw[bf,hv];simp[hm]) hv
   rw[this]
theorem nT{l:Lib}(h:Pk l)(hl:Lk l){w:Int}(hw:0≤w):(placeOf l w).length=cS l.aK w:=by
 have hn:=h.n w hw
 have hr:=oV l.aK w
 have hs:=xu (l:=l) hw (fun v hv hm=>by
  obtain⟨i,hi⟩:=List.mem_iff_getElem?.1 hv
  rw[dC (eS (v:=v) (by omega)),hl.run hi (by omega) (by omega)];rfl) l.vs.length (Nat.le_refl _)
 rw[Nat.sub_self,List.drop_zero] at hs
 unfold placeOf
 rw[List.length_append,List.length_append,List.length_replicate,A2 hw,kP]
 unfold vL at hn
 have hrow:=A3 (t:=w) (rows:=l.rows) (by omega)
 have hw2:(if yt l.rows w=true then [(⟨2,(whereFrom w l.rows 0).1⟩:mf)] else []).length=rowN w l.rows:=by
  rw[← hrow];split <;> rfl
 rw[hw2]
 show(l.procs.flatMap (dj l w)).length+_+_=_
 rw[show l.procs=procsFrom l.vs 0 from rfl,hs]
 omega
/-! the whole system -/
structure yZ(i:Nat)(s:Sy):Prop where
 b:wV i s
 k:∀ l∈s.k.libs,Lk l
 p:∀ l∈s.k.libs,Pk l
theorem vk{Q:Lib→Prop}{ls:List Lib}{j:Nat}{x:Lib}(h:∀ l∈ls,Q l)(hx:Q x):∀ l∈ls.set j x,Q l:=fun l hl=>by
 rcases List.mem_or_eq_of_mem_set hl with hl | rfl
 ·exact h l hl
 ·exact hx
theorem FC{Q:Lib→Prop}{m:Nat}{k:Krn}(hk:nZ m k)(p c:Int)(h:∀ l∈k.libs,Q l)(hs:∀ l∈k.libs, ∀ p,Q (l.step p c).2.2):∀ l∈(k.step p c).2.libs,Q l:=by
 by_cases e:dp k p=0
 ·obtain⟨i,j,l,rfl,ho,hl, -⟩:=dE hk e
  rw[jO ho hl]
  exact vk h (hs l (List.mem_of_getElem? hl) _)
 ·rw[gI e];exact h
theorem IS{Q:Lib→Prop}{m:Nat}{k:Krn}(hk:nZ m k)(p:Int)(h:∀ l∈k.libs,Q l)(hs:∀ l∈k.libs, ∀ p,Q (l.preempt p).2):∀ l∈(k.preempt p).2.libs,Q l:=by
 by_cases e:dp k p=0
 ·obtain⟨i,j,l,rfl,ho,hl, -⟩:=dE hk e
  rw[sK ho hl]
  exact vk h (hs l (List.mem_of_getElem? hl) _)
 ·rw[qn e];exact h
theorem FD{Q:Lib→Prop}{k:Krn}(n c:Int)(h:∀ l∈k.libs,Q l)(hs:∀ l∈k.libs,Q (l.eW c)):∀ l∈(k.done n c).2.libs,Q l:=by
 unfold Krn.done
 cases e:aU k.libs n with
 | none=>exact h
 | some l=>exact vk h (hs l (List.mem_of_getElem? (cB e).2.2))
theorem yZ.do{i:Nat}{s:Sy}(h:yZ i s)(hi:i≤400)(x:qC):yZ (i+1) (s.do x).2:=by
 have hb:=h.b.do hi x
 have ho:∀ l∈s.k.libs,gZ (i+2) l.aK:=fun l hl=>(h.b.k.gE l hl).sp
 have key:(∀ l∈(s.do x).2.k.libs,Lk l∧Pk l):=by
  have hq:∀ l∈s.k.libs,Lk l∧Pk l:=fun l hl=>⟨h.k l hl,h.p l hl⟩
  unfold Sy.do
  split
  ·exact FC (Q:=fun l=>Lk l∧Pk l) h.b.k.ok x.a x.b hq fun l hl p=>⟨(h.k l hl).step p x.b,(h.p l hl).step (h.k l hl) (ho l hl) (by omega) p x.b⟩
  ·split
   ·intro l hl
    obtain⟨y,hy,rfl⟩:=List.mem_map.1 hl
    exact⟨(h.k y hy).cv,(h.p y hy).cv (ho y hy)⟩
   ·split
    ·exact FD (Q:=fun l=>Lk l∧Pk l) x.a x.b hq fun l hl=>⟨(h.k l hl).eW _,(h.p l hl).eW (ho l hl) _⟩
    ·split
     ·exact IS (Q:=fun l=>Lk l∧Pk l) h.b.k.ok x.a hq fun l hl p=>⟨(h.k l hl).preempt p,(h.p l hl).preempt p⟩
     ·split
      ·exact hq
      ·split
       ·exact nP (Q:=fun l=>Lk l∧Pk l) (fun l p g=>⟨g.1.cy p,g.2.cy g.1 p⟩) (fun l p g=>⟨g.1.ck p,g.2.ck p⟩) _ _ hq
       ·exact hq
 exact⟨hb,fun l hl=>(key l hl).1,fun l hl=>(key l hl).2⟩
theorem yZ.new{procs:Int}{ps:List gY}(h:ee procs ps=0)(hw:∀ p∈ps, ∀ f∈p.funcs, ∀ i∈f,fj i.n):yZ 0 (Sy.new procs ps):=by
 have key:∀ l∈(Sy.new procs ps).k.libs,Lk l∧Pk l:=nP (Q:=fun l=>Lk l∧Pk l) (fun l p g=>⟨g.1.cy p,g.2.cy g.1 p⟩) (fun l p g=>⟨g.1.ck p,g.2.ck p⟩) _ _ fun l hl=>by
  obtain⟨p, -,rfl⟩:=List.mem_map.1 hl
  exact⟨Lk.new _ _,Pk.new _ _⟩
 exact⟨wV.new h hw,fun l hl=>(key l hl).1,fun l hl=>(key l hl).2⟩
theorem yZ.Mr{i:Nat}{s:Sy}(h:yZ i s)(hi:i≤400):Om s.k:=⟨fun l hl=>by
 have:=(h.b.k.gE l hl).sz (by omega) (by omega)
 exact⟨this.ev,this.wt,this.rl,this.rw⟩⟩
theorem A4{l:Lib}(h:Pk l)(hl:Lk l):∀ n,rightIn l n=true
 | 0=>rfl
 | n+1=>by
  rw[rightIn,A4 h hl n,Bool.true_and,nT h hl (by omega)]
  refine decide_eq_true ?_
  by_cases hr:(n:Int)∈l.aK.ready
  ·rw[if_pos (by rw[List.contains_eq_mem];exact decide_eq_true hr)];exact mem_ready.1 hr
  ·rw[if_neg (by rw[List.contains_eq_mem,decide_eq_false hr];simp)];exact kL.1 hr
theorem A5{k:Krn}(h:∀ l∈k.libs,Pk l)(hl:∀ l∈k.libs,Lk l):∀ n,n≤k.libs.length→iy k n=true
 | 0,_=>rfl
 | n+1,hn=>by
  obtain⟨l,hln⟩:=ak (show n<k.libs.length by omega)
  rw[iy,A5 h hl n (by omega),aY hln,A4 (h l (List.mem_of_getElem? hln)) (hl l (List.mem_of_getElem? hln))];rfl
theorem sj{n:Int}:∀ {o:List Int} {k i:Nat},o[i]?=some n→((k+i:Nat):Int)∈posFrom n o k
 | [],_,_,h=>by simp at h
 | x::o,k,i,h=>by
  unfold posFrom
  cases i with
  | zero =>
   obtain rfl:x=n:=by simpa using h
   rw[if_pos rfl];exact List.mem_cons_self ..
  | succ i =>
   have:=sj (o:=o) (k:=k+1) (i:=i) (by simpa using h)
   rw[show k+1+i=k+(i+1) by omega] at this
   split
   ·exact List.mem_cons_of_mem _ this
   ·exact this
theorem IT{k:Krn}(ha:gS k){p:Nat}(hp:p<k.owner.length)(hov:∀ v∈k.owner,v = -1∨(0≤v∧v<(k.libs.length:Int))):∀ n,n≤k.libs.length→oe k p n=true
 | 0,_=>rfl
 | n+1,hn=>by
  obtain⟨l,hln⟩:=ak (show n<k.libs.length by omega)
  obtain⟨o,hop⟩:=ak hp
  rw[oe,IT ha hp hov n (by omega),aY hln,Bool.true_and]
  refine decide_eq_true ?_
  have hm:l.procs.contains (p:Int)=decide (o=(n:Int)):=by
   rw[List.contains_eq_mem,ha.procs hln]
   refine decide_eq_decide.2 ⟨fun h=>?_,fun h=>?_⟩
   ·obtain⟨i,hi,hi2⟩:=yC h
    have:i=p:=by omega
    subst this
    rw[hop] at hi2
    exact Option.some.inj hi2
   ·have:=sj (k:=0) (show k.owner[p]?=some (n:Int) by rw[hop,h])
    rwa [Nat.zero_add] at this
  rw[hm]
  rcases hov o (List.mem_of_getElem? hop) with h1 | h1
  ·rw[tA (.inr (by unfold CW;rw[Int.toNat_natCast,aY hop,h1]))]
   rw[decide_eq_false (by omega)];rfl
  ·rw[jr hop (by omega)]
   simp only[Bool.true_and]
   exact decide_eq_decide.2 ⟨fun h=>h.symm,fun h=>h.symm⟩
theorem IU{k:Krn}(ha:gS k)(hov:∀ v∈k.owner,v = -1∨(0≤v∧v<(k.libs.length:Int))):∀ p,p≤k.owner.length→og k p=true
 | 0,_=>rfl
 | p+1,hp=>by rw[og,IU ha hov p (by omega),IT ha (by omega) hov _ (Nat.le_refl _)];rfl
theorem yZ.right{i:Nat}{s:Sy}(h:yZ i s):kO s.k=true:=by
 unfold kO q5
 rw[A5 h.p h.k _ (Nat.le_refl _),IU h.b.k.ag h.b.k.own _ (Nat.le_refl _)];rfl
end Go.SLYthlllpngkljgfaaGreat
namespace Go.SLYthlllpngkljgfaaGreat
open Go Go.RowKit
theorem Kz{l:Lib}{p:Int}(h:l.has p=true):∃ (i:Nat) (v:aH),p=(i:Int)∧l.vs[i]?=some v:=by
 obtain⟨i,v,rfl,hv⟩:=lx (qL h)
 exact⟨i,v,rfl,hv⟩
theorem CI{l:Lib}(hP:Pk l){p c:Int}(hc:(l.step p c).1.aL=true):∃ (i:Nat) (v:aH),p=(i:Int)∧l.vs[i]?=some v∧l.has p=true∧0≤(l.step p c).1.slot∧1≤iV (l.step p c).1.slot v:=by
 unfold Lib.step at hc ⊢
 by_cases hh:l.has p=true
 ·rw[if_pos hh] at hc ⊢
  obtain⟨i,v,rfl,hv⟩:=Kz hh
  have hvv:l.v (i:Int)=v:=eY hv
  have hg:=hP.v v (List.mem_of_getElem? hv)
  rw[hvv] at hc ⊢
  have run:∀ {d:gk×Lib},d.1.slot=v.ab→(v.mode=5∨v.mode=6∨v.mode=7)→0≤d.1.slot∧1≤iV d.1.slot v:=fun {d} h1 h2=>by
   rw[h1]
   exact⟨hg.t h2,Kr (iP hg h2)⟩
  refine⟨i,v,rfl,hv,hh,?_⟩
  by_cases h1:v.mode=1
  ·simp only[h1,if_true] at hc ⊢
   unfold Lib.upcall at hc ⊢
   rw[hvv] at hc ⊢
   cases he:evWithin v.evs with
   | none=>rw[he] at hc;cases hc
   | some x =>
    obtain⟨x,r⟩:=x
    rw[he] at hc
    simp only at hc ⊢
    have hw:=rp (p:=may x.ab) he
    have hgx:=hg.e x hw.2.1
    unfold Lib.recover at hc ⊢
    by_cases hm:x.mode=7
    ·simp only[hm,if_true]
     show 0≤x.ab∧1≤iV x.ab v
     have h0:0≤x.ab:=by
      rcases hgx (by omega) with h | h
      ·exact h.2
      ·exact absurd hm h.1
     refine⟨h0,?_⟩
     have:may x.ab x=true:=by unfold may;simp[hm]
     rw[if_pos this] at hw
     unfold iV
     omega
    ·simp only[hm,if_false] at hc
     cases hc
  ·simp only[h1,if_false] at hc ⊢
   by_cases h2:v.mode=2
   ·simp only[h2,if_true] at hc;cases hc
   ·simp only[h2,if_false] at hc ⊢
    by_cases h3:v.mode=3
    ·simp only[h3,if_true] at hc;cases hc
    ·simp only[h3,if_false] at hc ⊢
     by_cases h4:v.mode=4
     ·simp only[h4,if_true] at hc;cases hc
     ·simp only[h4,if_false] at hc ⊢
      by_cases h5:v.mode=5
      ·simp only[h5,if_true] at hc ⊢
       refine run ?_ (.inl h5)
       unfold Lib.hJ at hc ⊢
       rw[hvv] at hc ⊢
       simp only at hc ⊢
       split at hc
       ·cases hc
       ·rename_i hcl
        rw[if_neg hcl];rfl
      ·simp only[h5,if_false] at hc ⊢
       by_cases h6:v.mode=6
       ·simp only[h6,if_true] at hc;cases hc
       ·simp only[h6,if_false] at hc ⊢
        by_cases h7:v.mode=7
        ·simp only[h7,if_true] at hc ⊢
         refine run ?_ (.inr (.inr h7))
         unfold Lib.inside
         rw[hvv];rfl
        ·simp only[h7,if_false] at hc
         by_cases h8:v.mode=8
         ·simp only[h8,if_true] at hc;cases hc
         ·simp only[h8,if_false] at hc;cases hc
 ·rw[if_neg hh] at hc;cases hc
theorem vM{vs:List aH}:∀ {k i:Nat} {v:aH},vs[i]?=some v→v.mode≠0→((k+i:Nat):Int)∈procsFrom vs k:=by
 induction vs with
 | nil=>intro k i v h;simp at h
 | cons x vs ih =>
  intro k i v h hm
  unfold procsFrom
  cases i with
  | zero =>
   obtain rfl:x=v:=by simpa using h
   rw[if_neg hm];exact List.mem_cons_self ..
  | succ i =>
   have:=ih (k:=k+1) (i:=i) (by simpa using h) hm
   rw[show k+1+i=k+(i+1) by omega] at this
   split
   ·exact this
   ·exact List.mem_cons_of_mem _ this
theorem vn{l:Lib}{w p:Int}:∀ q∈dj l w p,q.at_=p∧(q.kind=1∨q.kind=3):=fun q hq=>by
 unfold dj at hq
 rcases List.mem_append.1 hq with h | h
 ·split at h
  ·obtain rfl:=List.mem_singleton.1 h;exact⟨rfl,.inl rfl⟩
  ·cases h
 ·obtain rfl:=(List.mem_replicate.1 h).2;exact⟨rfl,.inr rfl⟩
theorem FE{l:Lib}(hP:Pk l)(hK:Lk l)(ho:l.aK.aF.length=16){p c:Int}(hc:(l.step p c).1.aL=true):∃ (w:Nat) (q:mf),(l.step p c).1.slot=(w:Int)∧w<16∧placeOf l (w:Int)=[q]∧q.at_=p∧(q.kind=1∨q.kind=3):=by
 obtain⟨i,v,rfl,hv,hh,h0,hpl⟩:=CI hP hc
 obtain⟨w,hw⟩:∃ w:Nat,(l.step (i:Int) c).1.slot=(w:Int):=⟨((l.step (i:Int) c).1.slot).toNat,by omega⟩
 rw[hw] at hpl
 have hlen:=nT hP hK (w:=(w:Int)) (by omega)
 have hr:=oV l.aK (w:Int)
 have hat:=vj (l:=l) (w:=(w:Int)) (by omega) (i:Int)
 rw[uk hh hv] at hat
 have hmode:v.mode≠0:=by
  unfold Lib.has at hh
  rw[bf,hv] at hh
  simpa using hh
 have hin:(i:Int)∈l.procs:=by
  have:=vM (k:=0) hv hmode
  rwa [Nat.zero_add] at this
 obtain⟨q,hq⟩:∃ q,q∈dj l (w:Int) (i:Int):=by
  cases e:dj l (w:Int) (i:Int) with
  | nil=>rw[e] at hat;simp only[List.length_nil] at hat;omega
  | cons q _=>exact⟨q,List.mem_cons_self ..⟩
 have hmem:q∈placeOf l (w:Int):=by
  unfold placeOf
  exact List.mem_append_left _ (List.mem_append_left _ (List.mem_flatMap.2 ⟨_,hin,hq⟩))
 have h1:placeOf l (w:Int)=[q]:=by
  cases e:placeOf l (w:Int) with
  | nil=>rw[e] at hmem;cases hmem
  | cons a t =>
   rw[e] at hlen hmem
   simp only[List.length_cons] at hlen
   have:t=[]:=List.eq_nil_of_length_eq_zero (by omega)
   subst this
   obtain rfl:=List.mem_singleton.1 hmem
   rfl
 refine⟨w,q,hw,?_,h1,(vn q hq).1,(vn q hq).2⟩
 rw[h1] at hlen
 have hm:cS l.aK (w:Int)=1:=hlen.symm
 rcases Nat.lt_or_ge w 16 with g | g
 ·exact g
 ·have:l.aK.at (w:Int)=none:=by
   unfold Spc.at
   rw[bf,List.getElem?_eq_none_iff.2 (by omega)];rfl
  unfold cS at hm
  rw[this] at hm
  cases hm
end Go.SLYthlllpngkljgfaaGreat
namespace Go.SLYthlllpngkljgfaaGreat
open Go Go.RowKit
def y8:Sy:=⟨Nd,[0,0],0,[]⟩
theorem KA:Sy.new 1 [A9,A9]=y8:=rfl
theorem Mm:∀ p∈ [A9,A9], ∀ f∈p.funcs, ∀ i∈f,fj i.n:=fun p hp f hf i hi=>by
 have e:p=A9:=by simpa using hp
 subst e
 have:i=⟨1,1,0,0,5⟩:=by
  have:f=[⟨1,1,0,0,5⟩]:=by simpa [A9] using hf
  subst this
  simpa using hi
 subst this
 unfold fj;decide
theorem IV:yZ 0 y8:=yZ.new (procs:=1) (ps:=[A9,A9]) KP Mm
theorem yZ.kG{i:Nat}{s:Sy}(h:yZ i s)(x:qC):(s.do x).2.k.libs.length=s.k.libs.length:=sN h.b.k.inv x
theorem xv{l:Lib}(hP:Pk l)(hK:Lk l)(w:Nat):(placeOf l (w:Int)).length=if (w:Int)∈l.aK.ready then 1 else 0:=by
 rw[nT hP hK (by omega)]
 split
 ·rename_i h;exact mem_ready.1 h
 ·rename_i h;exact kL.1 h
end Go.SLYthlllpngkljgfaaGreat
namespace Go.SLYthlllpngkljgfaaGreat
open Go Go.RowKit Go.Proofs Go.Proofs.Tryz
attribute [local irreducible] ar aM bm bA bE Y
theorem gW{W:World}{b:Nat}{bl:List Nat}{k:Krn}{n:Nat}{slot:Int}{l:Lib}(hl:k.libs[n]?=some l)(hlo:l.vs.length≤64)(hev:(∀ v∈l.vs,v.evs.length≤1000000)∧l.waiting.length≤1000000∧l.rows.length≤64∧ ∀ r∈l.rows,r.length≤1000000):Fn Tryz.prog W 50 [ptr b,.int .i64 (n:Int),.int .i64 slot] [bu b bl k] Value (fun u=>u) (fun _=>True) (fun u=>[sl gr 2 u (placeOf l slot),bu b bl k]):=by
 refine Fn.intro (N:=54) func50 rfl ntmps50 rfl fun F=>?_
 show ar _ _ _ _ _ _ [bu b bl k,F]
 have hwl:=yx l.waiting slot
 refine J 9 ?_
 refine .c call48 rfl ff fun _ _=>?_
 refine .o3 (C:=bu b bl k) .auto rfl ?_
 rintro vo vl xs ⟨hxb,hxs⟩
 have hxl:=ay hxs
 have hbl:=ay hxb
 have hxx:=And.intro hxb hxs
 obtain⟨x,hx,rfl,hbx⟩:=dU hxb hxs hl
 rw[bf,hbx]
 refine .fr .auto (cc (f:=fun x:Nat×Lib=>cn x.1 x.2) hx) ?_
 refine .o2 (C:=cn x.1 x.2) .auto rfl ?_
 rintro bs br -
 have hpl64:x.2.procs.length≤64:=Nat.le_trans (jk _ _) hlo
 refine JD 10 (fun h17=>?_) fun h17=>?_
 ·cases h17
 ·refine J 5 ?_
  refine .p (.hZ (fun v1=>[v1,(.slice none 0 0)]) rfl (by kernel_rfl)) ?_
  refine .ai rfl (ae.box rfl rfl rfl) ?_
  rintro _ _ ⟨b20,rfl,rfl⟩
  refine J 7 ?_
  refine .c call81 rfl (jt (l:=x.2) (by omega)) fun u22 _=>?_
  refine J 5 ?_
  refine .aX (X:=Nat×Value) [10,24,25,26,27,28,29,30,31,32] (fun z=>x.2.procs.length-z.1) (fun z=>z.1≤x.2.procs.length) (fun z=>[(24,some (.int .i64 (z.1:Int)))]) (fun z=>[arr b20 0 [.int .i64 slot,z.2],sl gr 2 z.2 ((x.2.procs.take z.1).flatMap (dj x.2 slot)),sl au 1 u22 x.2.procs,aW x.1 bs br x.2,arr b 0 [vo,vl],sl au 1 vo k.owner,sl cQ 1 vl xs,aO (fun x:Nat×Lib=>cn x.1 x.2) (xs.eraseIdx n),F]) (0,.slice none 0 0) ?_ ?_ ?_ ?_
  ·exact Nat.zero_le _
  ·exact⟨rfl,trivial⟩
  ·exact fun w s=>aq.kept .auto w s
  rintro⟨j,u⟩ hj
  simp only at hj
  refine JD 6 (fun h25=>?_) fun h25=>?_
  ·refine J 6 ?_
   obtain⟨p,hp⟩:=ak (show j<x.2.procs.length by omega)
   have hfl:=wM hlo hev.1 slot j
   refine J 1 ?_
   refine .p (.lr rfl hp) ?_
   refine J 7 ?_
   refine .c call108 rfl (Cd (slot:=slot) (l:=x.2) (p:=p) (ys:=((x.2.procs.take j).flatMap (dj x.2 slot))) (fun v hv=>Nat.le_trans (hev.1 v hv) (by decide)) (by omega)) fun u31 _=>?_
   refine J 7 ?_
   refine .aw (j+1,u31) .auto rfl ?_ ?_ ?_ ?_
   ·show x.2.procs.length-(j+1)<x.2.procs.length-j;omega
   ·show j+1≤_;omega
   ·exact⟨rfl,trivial⟩
   ·show ∀ w,Sat _ w _→Sat _ w (seps [_,sl gr 2 u31 ((x.2.procs.take (j+1)).flatMap (dj x.2 slot)),_,_,_,_,_,_,F])
    rw[HF hp]
    exact fun w s=>aq.kept .auto w s
  ·obtain rfl:x.2.procs.length=j:=by omega
   rw[List.take_length]
   refine J 8 ?_
   have hfl:=wM hlo hev.1 slot x.2.procs.length
   rw[List.take_length] at hfl
   refine J 1 ?_
   refine .c call42 rfl (Ay (l:=x.2)) fun _ _=>?_
   refine .o2 (C:=aW x.1 bs br x.2) .auto rfl ?_
   rintro vv vw -
   refine J 1 ?_
   refine .c call109 rfl (uH (rs:=x.2.rows) ⟨hev.2.2.1,fun r hr=>Nat.le_trans (hev.2.2.2 r hr) (by decide)⟩) fun _ _=>?_
   refine .to (A:=aW x.1 bs br x.2) .auto rS ?_
   refine JD 12 (fun h40=>?_) fun h40=>?_
   ·refine J 3 ?_
    refine .c call110 rfl (ju (n:=1) (slot:=slot) (ys:=x.2.procs.flatMap (dj x.2 slot)) (by omega)) fun u43 _=>?_
    refine J 6 ?_
    refine .c call40 rfl (ng (l:=x.2) (by omega)) fun u46 _=>?_
    refine J 1 ?_
    refine .c call111 rfl (lY (A:=sl bP 3 u46 x.2.waiting) (Rd.sl .here) (by omega)) fun _ _=>?_
    refine .c call110 rfl (ju (slot:=slot) (ys:=x.2.procs.flatMap (dj x.2 slot)++List.replicate 1 ⟨2,(whereFrom slot x.2.rows 0).1⟩) (by rw[List.length_append,List.length_replicate];omega)) fun u49 _=>?_
    refine .to (A:=cn x.1 x.2) .auto rS ?_
    refine .to (A:=aO (fun x:Nat×Lib=>cn x.1 x.2) xs) .auto (cK (f:=fun x:Nat×Lib=>cn x.1 x.2) hx) ?_
    refine J 12 ?_
    rw[um,show kN x.2 slot=List.replicate 1 ⟨2,(whereFrom slot x.2.rows 0).1⟩ from by unfold kN;rw[if_pos h40];rfl]
    refine .aJ rfl rfl fun w s=>⟨_,?_,trivial,aj .auto s⟩
    rfl
   ·refine J 6 ?_
    refine .c call40 rfl (ng (l:=x.2) (by omega)) fun u46 _=>?_
    refine J 1 ?_
    refine .c call111 rfl (lY (A:=sl bP 3 u46 x.2.waiting) (Rd.sl .here) (by omega)) fun _ _=>?_
    refine .c call110 rfl (ju (slot:=slot) (ys:=x.2.procs.flatMap (dj x.2 slot)) (by omega)) fun u49 _=>?_
    refine .to (A:=cn x.1 x.2) .auto rS ?_
    refine .to (A:=aO (fun x:Nat×Lib=>cn x.1 x.2) xs) .auto (cK (f:=fun x:Nat×Lib=>cn x.1 x.2) hx) ?_
    refine J 12 ?_
    rw[um,show kN x.2 slot=[] from by unfold kN;rw[if_neg (by rw[h40];simp)],List.append_nil]
    refine .aJ rfl rfl fun w s=>⟨_,?_,trivial,aj .auto s⟩
    rfl
theorem yX{W:World}{b:Nat}{bl:List Nat}{k:Krn}{m:Nat}(hk:nZ m k):Fn Tryz.prog W 107 [ptr b] [bu b bl k] Unit (fun _=>.bool (q5 k)) (fun _=>True) (fun _=>[bu b bl k]):=by
 refine Fn.intro (N:=38) func107 rfl ntmps107 rfl fun F=>?_
 show ar _ _ _ _ _ _ [bu b bl k,F]
 have hll:=hk.ll
 have hol:=hk.ol
 refine J 9 ?_
 refine .c call71 rfl l5 fun _ _=>?_
 refine J 4 ?_
 refine .aX (X:=Nat) [2,3,4,5,6,9,10,11,12,13,14,15,16,17,18,19,20,21,22,23,24,25,26,27,28,29,30,31,32,33,34,35,36,37] (fun z=>k.owner.length-z) (fun z=>z≤k.owner.length∧og k z=true) (fun z=>[(9,some (.int .i64 (z:Int)))]) (fun z=>[bu b bl k,F]) 0 ?_ ?_ ?_ ?_
 ·exact⟨Nat.zero_le _,rfl⟩
 ·exact⟨rfl,trivial⟩
 ·exact fun w s=>aq.kept .auto w s
 rintro p ⟨hp,hpt⟩
 refine JD 6 (fun h10=>?_) fun h10=>?_
 ·have hp1:p<k.owner.length:=by omega
  refine J 14 ?_
  refine .c call21 rfl l6 fun _ _=>?_
  refine J 10 ?_
  refine .c call105 rfl kl fun _ _=>?_
  refine J 4 ?_
  refine .aX (X:=Nat) [3,4,5,6,20,21,22,23,24,25,26,27,28,29,30,31,32,33,34,35,36] (fun z=>k.libs.length-z) (fun z=>z≤k.libs.length∧oe k p z=true) (fun z=>[(20,some (.int .i64 (z:Int))),(3,some (.int .i64 (p:Int))),(4,some (.int .i64 (k.ownerOf (p:Int)).1)),(5,some (.bool (k.ownerOf (p:Int)).2))]) (fun z=>[bu b bl k,F]) 0 ?_ ?_ ?_ ?_
  ·exact⟨Nat.zero_le _,rfl⟩
  ·exact⟨rfl,rfl,rfl,rfl,trivial⟩
  ·exact fun w s=>aq.kept .auto w s
  rintro n ⟨hn,hnt⟩
  refine JD 6 (fun h21=>?_) fun h21=>?_
  ·obtain⟨l,hl⟩:=ak (show n<k.libs.length by omega)
   have hlo:=hk.gE l (List.mem_of_getElem? hl)
   refine J 14 ?_
   refine .c call48 rfl ff fun _ _=>?_
   refine .o3 (C:=bu b bl k) .auto rfl ?_
   rintro vo vl xs ⟨hxb,hxs⟩
   have hxl:=ay hxs
   have hbl:=ay hxb
   have hxx:=And.intro hxb hxs
   obtain⟨x,hx,hxe,hbx⟩:=dU hxb hxs hl
   rw[bf,hbx]
   subst hxe
   refine .fr .auto (cc (f:=fun x:Nat×Lib=>cn x.1 x.2) hx) ?_
   refine .o2 (C:=cn x.1 x.2) .auto rfl ?_
   rintro bs br -
   refine .c call81 rfl (jt (l:=x.2) (Nat.le_trans hlo.vl (by decide))) fun u26 _=>?_
   refine .to (A:=aO (fun x:Nat×Lib=>cn x.1 x.2) xs) .auto (cK (f:=fun x:Nat×Lib=>cn x.1 x.2) hx) ?_
   refine .to (A:=bu b bl k) .auto rS ?_
   refine J 1 ?_
   refine .c call106 rfl (nQ (A:=sl au 1 u26 x.2.procs) (xs:=x.2.procs) (x:=(p:Int)) (Rd.sl .here) (by have:=jk x.2.vs 0;have:x.2.procs.length≤x.2.vs.length:=this;have:=hlo.vl;omega)) fun _ _=>?_
   refine J 2 ?_
   apply aM.fI 4 34 30 [30,31,32,33,34] rfl
   ·intro h30
    exact JS 5
   ·intro h30
    exact JS 5
   refine .p (.CP underlying4 rfl rfl) ?_
   refine JD 2 (fun h35=>?_) fun h35=>?_
   ·have h35:¬x.2.procs.contains (p:Int)=((k.ownerOf (p:Int)).2 && decide ((n:Int)=(k.ownerOf (p:Int)).1)):=fun e=>by rw[e] at h35;simp at h35
    rw[JL hp1 (by omega) hl h35]
    exact JR 15 ()
   ·refine J 7 ?_
    refine .aw (n+1) .auto rfl ?_ ?_ ?_ ?_
    ·omega
    ·exact⟨by omega,by rw[oe,hnt,aY hl,Bool.true_and];simpa using h35⟩
    ·exact⟨rfl,rfl,rfl,rfl,trivial⟩
    ·exact fun w s=>aq.kept .auto w s
  ·obtain rfl:k.libs.length=n:=by omega
   refine J 10 ?_
   refine .aw (p+1) .auto rfl ?_ ?_ ?_ ?_
   ·omega
   ·exact⟨by omega,by rw[og,hpt,hnt];rfl⟩
   ·exact⟨rfl,trivial⟩
   ·exact fun w s=>aq.kept .auto w s
 ·obtain rfl:p=k.owner.length:=by omega
  refine J 11 ?_
  refine .aJ rfl rfl fun w s=>⟨(),?_,trivial,aj .auto s⟩
  rw[show q5 k=true from hpt]
theorem nr{W:World}{b:Nat}{bl:List Nat}{k:Krn}{m:Nat}(hk:nZ m k)(hpk:Om k):Fn Tryz.prog W 47 [ptr b] [bu b bl k] Unit (fun _=>.bool (kO k)) (fun _=>True) (fun _=>[bu b bl k]):=by
 refine Fn.intro (N:=38) func47 rfl ntmps47 rfl fun F=>?_
 show ar _ _ _ _ _ _ [bu b bl k,F]
 have hll:=hk.ll
 refine J 9 ?_
 refine .c call105 rfl kl fun _ _=>?_
 refine J 4 ?_
 refine .aX (X:=Nat) [2,3,4,5,6,9,10,11,12,13,14,15,16,17,18,19,20,21,22,23,24,25,26,27,28,29,30,31] (fun z=>k.libs.length-z) (fun z=>z≤k.libs.length∧iy k z=true) (fun z=>[(9,some (.int .i64 (z:Int)))]) (fun z=>[bu b bl k,F]) 0 ?_ ?_ ?_ ?_
 ·exact⟨Nat.zero_le _,rfl⟩
 ·exact⟨rfl,trivial⟩
 ·exact fun w s=>aq.kept .auto w s
 rintro n ⟨hn,hnt⟩
 refine JD 6 (fun h10=>?_) fun h10=>?_
 ·have hn1:n<k.libs.length:=by omega
  obtain⟨l,hl⟩:=ak hn1
  have hlo:=hk.gE l (List.mem_of_getElem? hl)
  have hpo:=hpk.ev l (List.mem_of_getElem? hl)
  refine J 14 ?_
  refine .c call48 rfl ff fun _ _=>?_
  refine .o3 (C:=bu b bl k) .auto rfl ?_
  rintro vo vl xs ⟨hxb,hxs⟩
  have hxl:=ay hxs
  have hbl:=ay hxb
  have hxx:=And.intro hxb hxs
  obtain⟨x,hx,hxe,hbx⟩:=dU hxb hxs hl
  rw[bf,hbx]
  subst hxe
  refine .fr .auto (cc (f:=fun x:Nat×Lib=>cn x.1 x.2) hx) ?_
  refine .o2 (C:=cn x.1 x.2) .auto rfl ?_
  rintro bs br -
  refine .c call49 rfl ir fun _ _=>?_
  refine .o2 (C:=aW x.1 bs br x.2) .auto rfl ?_
  rintro vv vw -
  refine .o1 (C:=eT bs x.2.aK) .auto rfl ?_
  rintro pt -
  refine .c call44 rfl (iq hlo.th) fun u16 _=>?_
  refine .to (A:=aO (fun x:Nat×Lib=>cn x.1 x.2) xs) .auto (cK (f:=fun x:Nat×Lib=>cn x.1 x.2) hx) ?_
  refine .to (A:=bu b bl k) .auto rS ?_
  refine J 9 ?_
  refine .aX (X:=Nat) [3,4,5,6,17,18,19,20,21,22,23,24,25,26,27,28,29,30] (fun z=>16-z) (fun z=>z≤16∧rightIn x.2 z=true) (fun z=>[(17,some (.int .i64 (z:Int))),(3,some (.int .i64 (n:Int))),(4,some u16)]) (fun z=>[sl au 1 u16 x.2.aK.ready,bu b bl k,F]) 0 ?_ ?_ ?_ ?_
  ·exact⟨Nat.zero_le _,rfl⟩
  ·exact⟨rfl,rfl,rfl,trivial⟩
  ·exact fun w s=>aq.kept .auto w s
  rintro s ⟨hs,hst⟩
  refine JD 6 (fun h18=>?_) fun h18=>?_
  ·refine J 20 ?_
   refine .c call106 rfl (nQ (A:=sl au 1 u16 x.2.aK.ready) (xs:=x.2.aK.ready) (x:=(s:Int)) (Rd.sl .here) (by have:=fi x.2.aK.aF 0;have:x.2.aK.ready.length≤x.2.aK.aF.length:=this;have:=hlo.th;omega)) fun _ _=>?_
   refine JD 2 (fun h22=>?_) fun h22=>?_
   ·refine J 9 ?_
    refine .c call50 rfl (gW (n:=n) (slot:=(s:Int)) hl hlo.vl hpo) fun u26 _=>?_
    refine JD 5 (fun h29=>?_) fun h29=>?_
    ·rw[wN (show s<16 by omega) hn1 hl (by rw[if_pos h22];omega)]
     exact JR 15 ()
    ·refine J 7 ?_
     refine .aw (s+1) .auto rfl ?_ ?_ ?_ ?_
     ·omega
     ·exact⟨by omega,by rw[rightIn,hst,Bool.true_and,if_pos h22];exact decide_eq_true (by omega)⟩
     ·exact⟨rfl,rfl,rfl,trivial⟩
     ·exact fun w s=>aq.kept .auto w s
   ·refine J 7 ?_
    refine .c call50 rfl (gW (n:=n) (slot:=(s:Int)) hl hlo.vl hpo) fun u26 _=>?_
    refine JD 5 (fun h29=>?_) fun h29=>?_
    ·rw[wN (show s<16 by omega) hn1 hl (by rw[if_neg (by rw[h22];simp)];omega)]
     exact JR 15 ()
    ·refine J 7 ?_
     refine .aw (s+1) .auto rfl ?_ ?_ ?_ ?_
     ·omega
     ·exact⟨by omega,by rw[rightIn,hst,Bool.true_and,if_neg (by rw[h22];simp)];exact decide_eq_true (by omega)⟩
     ·exact⟨rfl,rfl,rfl,trivial⟩
     ·exact fun w s=>aq.kept .auto w s
  ·obtain rfl:s=16:=by omega
   refine J 10 ?_
   refine .aw (n+1) .auto rfl ?_ ?_ ?_ ?_
   ·omega
   ·exact⟨by omega,by rw[iy,hnt,aY hl,hst];rfl⟩
   ·exact⟨rfl,trivial⟩
   ·exact fun w s=>aq.kept .auto w s
 ·obtain rfl:n=k.libs.length:=by omega
  refine J 11 ?_
  refine .cg call107 rfl (yX hk) fun _ _=>?_
  refine J 5 ?_
  refine .aJ rfl rfl fun w s=>⟨(),?_,trivial,aj .auto s⟩
  unfold kO;rw[hnt];rfl
theorem Oa:rC Tryz.prog 97 4 (.agg #[.int .i64 3,.int .i64 0]) (.agg #[.int .i64 3,.int .i64 0]) true:=fun d w=>by kernel_rfl
theorem Ob:rC Tryz.prog 97 4 (.agg #[.int .i64 4,.int .i64 (-1)]) (.agg #[.int .i64 4,.int .i64 (-1)]) true:=fun d w=>by kernel_rfl
theorem km{W:World}  : Fn Tryz.prog W 46 [] [] Unit (fun _=>.bool true) (fun _=>True) (fun _=>[]):=by
 refine Fn.intro (N:=63) func46 rfl ntmps46 rfl fun F=>?_
 show ar _ _ _ _ _ _ [F]
 refine J 7 ?_
 refine .p (.sk (fun v1 v2 v3=>[v1,v2,(.int .i64 0),(.int .i64 0),v3]) rfl rfl rfl (by kernel_rfl)) ?_
 refine .ai rfl (ae.gC 112 rfl rfl (by kernel_rfl)) ?_
 rintro _ _ ⟨b7,rfl,rfl⟩
 refine .ai rfl (ae.gC 113 rfl rfl (by kernel_rfl)) ?_
 rintro _ _ ⟨b8,rfl,rfl⟩
 refine .p (.hZ (fun v1=>[v1,(.int .i64 0),(.int .i64 0),(.int .i64 0),(.slice none 0 0),(.slice none 0 0),(.int .i64 0),(.int .i64 0)]) rfl (by kernel_rfl)) ?_
 refine .ai rfl (ae.alloc rfl zeroValue56 rfl) ?_
 rintro _ _ ⟨b1,rfl,rfl⟩
 refine J 7 ?_
 refine .ai rfl (ae.gC 56 rfl rfl (by kernel_rfl)) ?_
 rintro _ _ ⟨b13,rfl,rfl⟩
 refine .c call14 rfl (iO (A:=NK b7 b8 b13) (ps:=[ku b7 b8,ku b7 b8]) (procs:=1) HA HB HC) fun o ho=>?_
 rw[show[ku b7 b8,ku b7 b8].map aS.p=[A9,A9] from rfl] at *
 rw[KP,KA] at *
 obtain⟨sb,rfl⟩:=Option.isSome_iff_exists.1 ho
 refine .fr (A:=optH (fun b=>sr b y8) (some sb)) (Bs:=[sr sb y8]) .auto fc ?_
 refine .o2 (C:=sr sb y8) .auto rfl ?_
 rintro kb bl -
 have hi:Inv _ y8.k:=IV.b.k.inv
 have hpo:=IV.Mr (by decide)
 refine JD 18 (fun h22=>?_) fun h22=>?_
 ·cases h22
 ·refine J 5 ?_
  refine .c call20 rfl (cE (b:=sb) (kb:=kb) (bl:=bl) (s:=y8)) fun _ _=>?_
  refine .o2 (C:=fD sb kb bl y8) .auto rfl ?_
  rintro pv lv -
  refine .c call50 rfl (gW (b:=kb) (bl:=bl) (k:=y8.k) (l:=ID) (n:=0) (slot:=0) xo ((hi.ok.gE _ (List.mem_of_getElem? xo)).vl) (hpo.ev _ (List.mem_of_getElem? xo))) fun u25 _=>?_
  rw[Nf]
  refine J 1 ?_
  refine .c call20 rfl (cE (b:=sb) (kb:=kb) (bl:=bl) (s:=y8)) fun _ _=>?_
  refine .o2 (C:=fD sb kb bl y8) .auto rfl ?_
  rintro pv lv -
  refine .c call50 rfl (gW (b:=kb) (bl:=bl) (k:=y8.k) (l:=Mf) (n:=1) (slot:=0) IE ((hi.ok.gE _ (List.mem_of_getElem? IE)).vl) (hpo.ev _ (List.mem_of_getElem? IE))) fun u28 _=>?_
  rw[Ng]
  refine J 11 ?_
  refine .g (.ix 0 rfl rfl rfl (by decide)) ?_
  refine .g (.la rfl (Cells.rd Rd.s (show([⟨3,0⟩]:List mf)[0]?=some ⟨3,0⟩ from rfl))) ?_
  refine .g (.hZ (fun v1=>[v1,(.int .i64 0)]) rfl (by kernel_rfl)) ?_
  refine .g (.FU (by kernel_rfl) Oa rfl rfl rfl) ?_
  refine J 8 ?_
  refine .g (.ix 0 rfl rfl rfl (by decide)) ?_
  refine .g (.la rfl (Cells.rd Rd.s (show([⟨4, -1⟩]:List mf)[0]?=some ⟨4, -1⟩ from rfl))) ?_
  refine .g (.fF (fun v1 v2=>[v1,v2]) rfl rfl (by kernel_rfl)) ?_
  refine .g (.FU (by kernel_rfl) Ob rfl rfl rfl) ?_
  refine J 3 ?_
  refine .cg call20 rfl (cE (b:=sb) (kb:=kb) (bl:=bl) (s:=y8)) fun _ _=>?_
  refine .o2 (C:=fD sb kb bl y8) .auto rfl ?_
  rintro pv lv -
  refine .cg call50 rfl (gW (b:=kb) (bl:=bl) (k:=y8.k) (l:=ID) (n:=0) (slot:=1) xo ((hi.ok.gE _ (List.mem_of_getElem? xo)).vl) (hpo.ev _ (List.mem_of_getElem? xo))) fun u54 _=>?_
  rw[Nh]
  refine J 5 ?_
  refine .cg call20 rfl (cE (b:=sb) (kb:=kb) (bl:=bl) (s:=y8)) fun _ _=>?_
  refine .o2 (C:=fD sb kb bl y8) .auto rfl ?_
  rintro pv lv -
  refine .cg call47 rfl (nr (b:=kb) (bl:=bl) (k:=y8.k) hi.ok hpo) fun _ _=>?_
  rw[IV.right]
  exact JR 5 ()
theorem A6{W:World}{A:aa}{v:Value}{ps:List aS}(hr:Rd W [A] ez 8 v ps)(hp:∀ p∈ps,eE W [A] p)(hb:ps.length≤1000000000∧ ∀ p∈ps,p.fs.length≤1000000000∧p.bF.length≤1000000000∧p.bb.length≤1000000000)(hw:∀ p∈ps.map aS.p, ∀ f∈p.funcs, ∀ i∈f,fj i.n){np:Int}{u:Value}{xs:List qC}(hst:Rd W [A] ga 3 u xs)(hsl:xs.length≤1000000000)(hnp:0≤np∧np≤255):Fn Tryz.prog W 8 [.int .u8 np,v,u] [A] Unit (fun _=>.bool true) (fun _=>True) (fun _=>[A]):=by
 refine Fn.intro (N:=80) func8 rfl ntmps8 rfl fun F=>?_
 haveI hRI:∀ (H:List aa) [bj H A],ax W H v ez 8 ps:=fun H h=>⟨hr.at h.has⟩
 haveI hRJ:∀ (H:List aa) [bj H A],ax W H u ga 3 xs:=fun H h=>⟨hst.at h.has⟩
 show ar _ _ _ _ _ _ [A,F]
 obtain⟨mk,mkd⟩:∃ mk,mk=np.toNat % (12):=⟨_,rfl⟩
 have mkl:mk<12:=by rw[mkd];exact Nat.mod_lt _ (by decide)
 have mkt:np.tmod (12)=(mk:Int):=by
  obtain⟨m,rfl⟩:∃ m:Nat,np=(m:Int):=⟨np.toNat,by omega⟩
  rw[mkd,Int.toNat_natCast];exact(Int.ofNat_tmod m (12)).symm
 refine J 8 ?_
 refine .p (.fm (Y.rem rfl rfl (by omega)) mkt) ?_
 refine .p (.iD underlying5 underlying3 rfl (by omega)) ?_
 refine .p (.add rfl rfl (by omega)) ?_
 refine J 1 ?_
 refine .c call14 rfl (iO (procs:=(mk:Int)+1) hr hp hb) fun o ho=>?_
 refine JD 14 (fun h24=>?_) fun h24=>?_
 ·refine J 2 ?_
  refine .c call46 rfl km fun _ _=>?_
  exact JR 5 ()
 ·have hc:ee ((mk:Int)+1) (ps.map aS.p)=0:=Decidable.not_not.mp h24
  obtain⟨sb,rfl⟩:=Option.isSome_iff_exists.1 (ho.trans (decide_eq_true hc))
  refine .fr (A:=optH (fun b=>sr b (Sy.new ((mk:Int)+1) (ps.map aS.p))) (some sb)) (Bs:=[sr sb (Sy.new ((mk:Int)+1) (ps.map aS.p))]) .auto fc ?_
  refine .o2 (C:=sr sb (Sy.new ((mk:Int)+1) (ps.map aS.p))) .auto rfl ?_
  rintro kb bl -
  have hP0:=yZ.new hc hw
  have hI0:=hP0.b
  have hni:=iw hc
  have hkl0:(Sy.new ((mk:Int)+1) (ps.map aS.p)).k.libs.length=ps.length:=((im (iw hc).1 _ _).2.ll.trans hni.2.1).trans (List.length_map ..)
  refine J 2 ?_
  refine .zg (X:=Value) [2,26,27,28,29,30] (fun u2=>Rd W [A] ga 3 u2 (xs.take 60)) (fun u2=>[(2,some u2)]) (fun _=>[fD sb kb bl (Sy.new ((mk:Int)+1) (ps.map aS.p)),A,F]) ?_ ?_
  ·refine JD 7 (fun h28=>?_) fun h28=>?_
   ·refine J 2 ?_
    refine .p (.sliceTo 60 underlying23 sizeOf34 rfl rfl Rd.s rfl (by omega)) ?_
    refine J 2 ?_
    refine .jW (cut 3 0 60 u) .auto ?_ ?_ ?_
    ·exact Rd.DJ (n:=60) (by omega) hst
    ·exact⟨rfl,trivial⟩
    ·exact fun w s=>aq.kept .auto w s
   ·refine J 1 ?_
    refine .jW u .auto ?_ ?_ ?_
    ·rw[List.take_of_length_le (by omega)];exact hst
    ·exact⟨rfl,trivial⟩
    ·exact fun w s=>aq.kept .auto w s
  ·rintro u2 hsm
   haveI hRK:∀ (H:List aa) [bj H A],ax W H u2 ga 3 (xs.take 60):=fun H h=>⟨hsm.at h.has⟩
   have hxs2:(xs.take 60).length≤60:=List.length_take_le ..
   refine J 7 ?_
   refine .aX (X:=Nat×Sy) [6,9,31,32,33,34,35,36,37,38,39,40,41,42,43,44,45,46] (fun z=>(xs.take 60).length-z.1) (fun z=>z.1≤(xs.take 60).length∧yZ z.1 z.2∧z.2.k.libs.length=ps.length) (fun z=>[(9,some (.int .i64 (z.1:Int)))]) (fun z=>[fD sb kb bl z.2,A,F]) (0,(Sy.new ((mk:Int)+1) (ps.map aS.p))) ?_ ?_ ?_ ?_
   ·exact⟨Nat.zero_le _,hP0,hkl0⟩
   ·exact⟨rfl,trivial⟩
   ·exact fun w s=>aq.kept .auto w s
   rintro⟨i,s⟩ ⟨hi,hP,hkl⟩
   simp only at hi hP hkl
   have hI:=hP.b
   refine JD 9 (fun h34=>?_) fun h34=>?_
   ·refine J 9 ?_
    obtain⟨x,hx⟩:=ak (show i<(xs.take 60).length by omega)
    refine .p (.ix i rfl rfl rfl (by omega)) ?_
    refine .p (.la rfl (Cells.rd Rd.s hx)) ?_
    refine .c call18 rfl (l7 (b:=sb) (kb:=kb) (bl:=bl) (s:=s) (x:=x) (hI.rn (by omega)) hI.k.inv (by omega) (by have:=hI.log;omega) (Nat.le_trans hI.prio (by decide))) fun _ _=>?_
    have hP2:=hP.do (by omega) x
    refine J 5 ?_
    refine .c call20 rfl (cE (b:=sb) (kb:=kb) (bl:=bl) (s:=(s.do x).2)) fun _ _=>?_
    refine .o2 (C:=fD sb kb bl (s.do x).2) .auto rfl ?_
    rintro pv lv -
    refine .c call47 rfl (nr (b:=kb) (bl:=bl) (k:=(s.do x).2.k) hP2.b.k.ok (hP2.Mr (by omega))) fun _ _=>?_
    rw[hP2.right]
    refine JD 3 (fun h46=>?_) fun h46=>?_
    ·cases h46
    ·refine J 8 ?_
     refine .aw (i+1,(s.do x).2) .auto rfl ?_ ?_ ?_ ?_
     ·show(xs.take 60).length-(i+1)<(xs.take 60).length-i;omega
     ·exact⟨by show i+1≤_;omega,hP2,(sN hI.k.inv x).trans hkl⟩
     ·exact⟨rfl,trivial⟩
     ·exact fun w s=>aq.kept .auto w s
   ·refine J 12 ?_
    refine .aX (X:=Nat) [6,10,11,12,13,47,48,49,50,51,52,53,54,55,56,57,58,59,60,61,62,63,64,65,66,67,68,69,70,71,72,73] (fun n=>ps.length-n) (fun n=>n≤ps.length) (fun n=>[(10,some (.int .i64 (n:Int)))]) (fun n=>[fD sb kb bl s,A,F]) 0 ?_ ?_ ?_ ?_
    ·exact Nat.zero_le _
    ·exact⟨rfl,trivial⟩
    ·exact fun w s=>aq.kept .auto w s
    rintro n hn
    refine JD 9 (fun h50=>?_) fun h50=>?_
    ·obtain⟨l,hl⟩:=ak (show n<s.k.libs.length by omega)
     have hlm:=List.mem_of_getElem? hl
     have hlo:=hI.k.ok.gE l hlm
     have hpo:=(hP.Mr (by omega)).ev l hlm
     have hPk:=hP.p l hlm
     have hLk:=hP.k l hlm
     refine J 7 ?_
     refine .c call20 rfl (cE (b:=sb) (kb:=kb) (bl:=bl) (s:=s)) fun _ _=>?_
     refine .o2 (C:=fD sb kb bl s) .auto rfl ?_
     rintro pv lv -
     refine J 1 ?_
     refine .c call48 rfl (ff (b:=kb) (bl:=bl) (k:=s.k) (n:=(n:Int))) fun _ _=>?_
     refine .o3 (C:=bu kb bl s.k) .auto rfl ?_
     rintro vo vl xl ⟨hxb,hxs⟩
     have hxl:=ay hxs
     have hbl:=ay hxb
     have hxx:=And.intro hxb hxs
     obtain⟨x,hx,hxe,hbx⟩:=dU hxb hxs hl
     rw[bf,hbx]
     subst hxe
     refine .fr .auto (cc (f:=fun x:Nat×Lib=>cn x.1 x.2) hx) ?_
     refine .o2 (C:=cn x.1 x.2) .auto rfl ?_
     rintro bs br -
     refine .c call49 rfl (ir (b:=x.1) (bs:=bs) (br:=br) (l:=x.2)) fun _ _=>?_
     refine .o2 (C:=aW x.1 bs br x.2) .auto rfl ?_
     rintro vv vw -
     refine .o1 (C:=eT bs x.2.aK) .auto rfl ?_
     rintro pt -
     refine .c call44 rfl (iq (s:=x.2.aK) hlo.th) fun u58 _=>?_
     refine .to (A:=aO (fun x:Nat×Lib=>cn x.1 x.2) xl) .auto (cK (f:=fun x:Nat×Lib=>cn x.1 x.2) hx) ?_
     refine .to (A:=bu kb bl s.k) .auto rS ?_
     have hrl:x.2.aK.ready.length≤1000000000:=by have h1:=fi x.2.aK.aF 0;have h2:x.2.aK.ready.length≤x.2.aK.aF.length:=h1;have h3:=hlo.th;omega
     refine J 9 ?_
     refine .aX (X:=Nat) [6,12,13,59,60,61,62,63,64,65,66,67,68,69,70,71,72,73] (fun t=>16-t) (fun t=>t≤16) (fun t=>[(12,some (.int .i64 (t:Int)))]) (fun t=>[sl au 1 u58 x.2.aK.ready,fD sb kb bl s,A,F]) 0 ?_ ?_ ?_ ?_
     ·exact Nat.zero_le _
     ·exact⟨rfl,trivial⟩
     ·exact fun w s=>aq.kept .auto w s
     rintro t ht
     refine JD 7 (fun h60=>?_) fun h60=>?_
     ·refine J 14 ?_
      refine .c call45 rfl (Cu (A:=sl au 1 u58 x.2.aK.ready) (n:=(t:Int)) (Rd.sl .here) hrl) fun _ _=>?_
      refine JD 2 (fun h65=>?_) fun h65=>?_
      ·refine J 7 ?_
       refine .c call20 rfl (cE (b:=sb) (kb:=kb) (bl:=bl) (s:=s)) fun _ _=>?_
       refine .o2 (C:=fD sb kb bl s) .auto rfl ?_
       rintro pv lv -
       refine J 2 ?_
       refine .c call50 rfl (gW (b:=kb) (bl:=bl) (k:=s.k) (n:=n) (slot:=(t:Int)) hl hlo.vl hpo) fun u70 _=>?_
       refine JD 5 (fun h73=>?_) fun h73=>?_
       ·rw[xv hPk hLk t,if_pos h65] at h73;exact absurd rfl h73
       ·refine J 8 ?_
        refine .aw (t+1) .auto rfl ?_ ?_ ?_ ?_
        ·omega
        ·show t+1≤_;omega
        ·exact⟨rfl,trivial⟩
        ·exact fun w s=>aq.kept .auto w s
      ·refine J 5 ?_
       refine .c call20 rfl (cE (b:=sb) (kb:=kb) (bl:=bl) (s:=s)) fun _ _=>?_
       refine .o2 (C:=fD sb kb bl s) .auto rfl ?_
       rintro pv lv -
       refine J 2 ?_
       refine .c call50 rfl (gW (b:=kb) (bl:=bl) (k:=s.k) (n:=n) (slot:=(t:Int)) hl hlo.vl hpo) fun u70 _=>?_
       refine JD 5 (fun h73=>?_) fun h73=>?_
       ·rw[xv hPk hLk t,if_neg h65] at h73;exact absurd rfl h73
       ·refine J 8 ?_
        refine .aw (t+1) .auto rfl ?_ ?_ ?_ ?_
        ·omega
        ·show t+1≤_;omega
        ·exact⟨rfl,trivial⟩
        ·exact fun w s=>aq.kept .auto w s
     ·refine J 11 ?_
      refine .aw (n+1) .auto rfl ?_ ?_ ?_ ?_
      ·omega
      ·show n+1≤_;omega
      ·exact⟨rfl,trivial⟩
      ·exact fun w s=>aq.kept .auto w s
    ·refine J 7 ?_
     refine .c call46 rfl km fun _ _=>?_
     refine J 2 ?_
     refine .cg call20 rfl (cE (b:=sb) (kb:=kb) (bl:=bl) (s:=s)) fun _ _=>?_
     refine .o2 (C:=fD sb kb bl s) .auto rfl ?_
     rintro pv lv -
     refine .cg call47 rfl (nr (b:=kb) (bl:=bl) (k:=s.k) hI.k.ok (hP.Mr (by omega))) fun _ _=>?_
     rw[hP.right]
     exact JR 5 ()
end Go.SLYthlllpngkljgfaaGreat
namespace Go.SLYthlllpngkljgfaaGreat
open Go Go.RowKit
theorem IW{n m:Nat}{k:Krn}(h:SI n m k){p:Int}(ho:(k.ownerOf p).2=true):∃ (j:Nat) (l:Lib),k.ownerOf p=((j:Int),true)∧k.libs[j]?=some l:=by
 by_cases e:dp k p=0
 ·obtain⟨i,j,l,rfl,hi,hl, -⟩:=dE h.ok e
  exact⟨j,l,jr hi (by omega),hl⟩
 ·rw[(uX h p 0).1,gI e] at ho
  exact absurd (of_decide_eq_true ho) e
theorem FF{i:Nat}{s:Sy}(h:yZ i s){x:qC}(hk:x.kind=1)(hg:s.log.length<(s.do x).2.log.length):∃ (j:Nat) (l:Lib) (w:Nat) (q:mf),s.k.ownerOf x.a=((j:Int),true)∧s.k.libs[j]?=some l∧(s.do x).2.log[s.log.length]?=some ⟨1,(j:Int),(w:Int),x.b⟩∧w<16∧placeOf l (w:Int)=[q]∧q.at_=x.a∧(q.kind=1∨q.kind=3):=by
 rw[do_1 hk] at hg ⊢
 cases hc:(s.k.step x.a x.b).1.2.1.aL with
 | false=>rw[uW hc] at hg;exact absurd hg (Nat.lt_irrefl _)
 | true =>
  have e:dp s.k x.a=0:=Decidable.byContradiction fun e=>by rw[gI e] at hc;cases hc
  obtain⟨n,j,l,hn,ho,hl, -⟩:=dE h.b.k.ok e
  rw[rj hc]
  rw[hn] at hc ⊢
  rw[jO ho hl] at hc ⊢
  have hm:=List.mem_of_getElem? hl
  obtain⟨w,q,hw,hw16,hpl,hat,hkd⟩:=FE (h.p l hm) (h.k l hm) (h.b.k.ok.gE l hm).th hc
  refine⟨j,l,w,q,jr ho (by omega),hl,?_,hw16,hpl,hat,hkd⟩
  show(s.log++[_])[s.log.length]?=_
  rw[List.getElem?_append_right (Nat.le_refl _),Nat.sub_self, ← hw]
  rfl
def Oc(x:Value×List mf):List Value:=[x.1]
def O5(xs:List (Value×List mf)):aa:=aO (fun x:Value×List mf=>sl gr 2 x.1 x.2) xs
def Od:Value×List mf:=(.slice none 0 0,[])
def gX(l:Lib)(t:Nat):List (List mf):=(List.range 16).map fun k=>if k<t then placeOf l (k:Int) else []
theorem oW(l:Lib)(t:Nat):(gX l t).length=16:=by unfold gX;rw[List.length_map,List.length_range]
theorem A7(l:Lib):gX l 0=List.replicate 16 []:=by
 unfold gX
 simp only[Nat.not_lt_zero,if_false]
 rfl
theorem rr{l:Lib}{t k:Nat}(h:k<16):(gX l t)[k]?=some (if k<t then placeOf l (k:Int) else []):=by
 unfold gX
 rw[List.getElem?_map,List.getElem?_range h];rfl
theorem CJ{l:Lib}{t:Nat}(h:t<16):(gX l t).set t (placeOf l (t:Int))=gX l (t+1):=by
 refine List.ext_getElem? fun k=>?_
 by_cases hk:k<16
 ·rw[rr hk,List.getElem?_set]
  by_cases e:t=k
  ·subst e
   rw[if_pos rfl,if_pos (by rw[oW];exact h),if_pos (by omega)]
  ·rw[if_neg e,rr hk]
   by_cases g:k<t
   ·rw[if_pos g,if_pos (by omega)]
   ·rw[if_neg g,if_neg (by omega)]
 ·rw[List.getElem?_eq_none (by rw[List.length_set,oW];omega),List.getElem?_eq_none (by rw[oW];omega)]
def iu(k:Krn)(p:Int)(t:Nat)(ys:List (Value×List mf)):Prop:=ys.length=16∧ ∀ (j:Nat) (l:Lib),k.ownerOf p=((j:Int),true)→k.libs[j]?=some l→ys.map (·.2)=gX l t
theorem iu.zero(k:Krn)(p:Int):iu k p 0 (List.replicate 16 Od):=⟨List.length_replicate,fun _ l _ _=>by rw[A7,List.map_replicate];rfl⟩
theorem iu.put{k:Krn}{p:Int}{t:Nat}{ys:List (Value×List mf)}(h:iu k p t ys)(ht:t<16){j:Nat}{l:Lib}(ho:k.ownerOf p=((j:Int),true))(hl:k.libs[j]?=some l)(u:Value):iu k p (t+1) (ys.set t (u,placeOf l (t:Int))):=by
 refine⟨(List.length_set ..).trans h.1,fun j2 l2 ho2 hl2=>?_⟩
 have e:j2=j:=by
  rw[ho] at ho2
  have:=congrArg Prod.fst ho2
  simp only at this
  omega
 subst e
 rw[hl] at hl2
 cases hl2
 rw[List.map_set,h.2 j2 l ho hl]
 exact CJ ht
theorem iu.last{k:Krn}{p:Int}{t:Nat}{ys:List (Value×List mf)}(h:iu k p t ys)(ht:t≤16)(hc:¬((t:Int)<16)∨(k.ownerOf p).2=false):iu k p 16 ys:=by
 rcases hc with hc | hc
 ·obtain rfl:t=16:=by omega
  exact h
 ·exact⟨h.1,fun j l ho _=>by rw[ho] at hc;cases hc⟩
theorem iu.at{k:Krn}{p:Int}{ys:List (Value×List mf)}(h:iu k p 16 ys){j:Nat}{l:Lib}(ho:k.ownerOf p=((j:Int),true))(hl:k.libs[j]?=some l){w:Nat}(hw:w<16):∃ u,ys[w]?=some (u,placeOf l (w:Int)):=by
 have e:=h.2 j l ho hl
 have:=rr (l:=l) (t:=16) hw
 rw[if_pos hw, ← e,List.getElem?_map] at this
 cases g:ys[w]? with
 | none=>rw[g] at this;cases this
 | some y =>
  rw[g] at this
  exact⟨y.1,by rw[← Option.some.inj this]⟩
theorem Mn{l:Lib}(hP:Pk l)(hK:Lk l)(w:Nat):(placeOf l (w:Int)).length≤1:=by
 rw[nT hP hK (by omega)];exact oV _ _
end Go.SLYthlllpngkljgfaaGreat
namespace Go.SLYthlllpngkljgfaaGreat
open Go Go.RowKit Go.Proofs Go.Proofs.Tryz
attribute [local irreducible] ar aM bm bA bE Y
theorem A8{W:World}{A:aa}{v:Value}{ps:List aS}(hr:Rd W [A] ez 8 v ps)(hp:∀ p∈ps,eE W [A] p)(hb:ps.length≤1000000000∧ ∀ p∈ps,p.fs.length≤1000000000∧p.bF.length≤1000000000∧p.bb.length≤1000000000)(hw:∀ p∈ps.map aS.p, ∀ f∈p.funcs, ∀ i∈f,fj i.n){np:Int}{u:Value}{xs:List qC}(hst:Rd W [A] ga 3 u xs)(hsl:xs.length≤1000000000)(hnp:0≤np∧np≤255):Fn Tryz.prog W 9 [.int .u8 np,v,u] [A] Unit (fun _=>.bool true) (fun _=>True) (fun _=>[A]):=by
 refine Fn.intro (N:=158) func9 rfl ntmps9 rfl fun F=>?_
 haveI hRI:∀ (H:List aa) [bj H A],ax W H v ez 8 ps:=fun H h=>⟨hr.at h.has⟩
 haveI hRJ:∀ (H:List aa) [bj H A],ax W H u ga 3 xs:=fun H h=>⟨hst.at h.has⟩
 show ar _ _ _ _ _ _ [A,F]
 obtain⟨mk,mkd⟩:∃ mk,mk=np.toNat % (6):=⟨_,rfl⟩
 have mkl:mk<6:=by rw[mkd];exact Nat.mod_lt _ (by decide)
 have mkt:np.tmod (6)=(mk:Int):=by
  obtain⟨m,rfl⟩:∃ m:Nat,np=(m:Int):=⟨np.toNat,by omega⟩
  rw[mkd,Int.toNat_natCast];exact(Int.ofNat_tmod m (6)).symm
 refine .s (.r (.p (.a rfl) (.n (.t (.s (.r (.p (.m rfl) ?_)))))))
 refine .p (.fm (Y.rem rfl rfl (by omega)) mkt) ?_
 refine .p (.iD underlying5 underlying3 rfl (by omega)) ?_
 refine .p (.add rfl rfl (by omega)) ?_
 refine .p (.m rfl) ?_
 refine .ai rfl (ae.cY rfl call14 rfl (iO (procs:=(mk:Int)+1) hr hp hb) .auto) ?_
 rintro _ _ ⟨o,ho,rfl,rfl⟩
 refine .p (.m rfl) (.p (.extract rfl rfl) (.p (.extract rfl rfl) (.p (.a rfl) (.p (.a rfl) (.n (.t (.s (.s (.r (.p (.m rfl) (.p (.neq rfl rfl) (.n (.t (.dD rfl (fun h29=>?_) (fun h29=>?_)))))))))))))))
 ·refine .s (.r ?_)
  refine .ai rfl (ae.cY rfl call46 rfl km .auto) ?_
  rintro _ _ ⟨⟨⟩, -,rfl,rfl⟩
  refine .p (.a rfl) (.n (.t (.e (.tr (.aJ rfl rfl fun w s=>⟨(),?_,trivial,aj .auto s⟩)))))
  rfl
 ·have hc:ee ((mk:Int)+1) (ps.map aS.p)=0:=Decidable.not_not.mp h29
  obtain⟨sb,rfl⟩:=Option.isSome_iff_exists.1 (ho.trans (decide_eq_true hc))
  refine .fr (A:=optH (fun b=>sr b (Sy.new ((mk:Int)+1) (ps.map aS.p))) (some sb)) (Bs:=[sr sb (Sy.new ((mk:Int)+1) (ps.map aS.p))]) .auto fc ?_
  refine .o2 (C:=sr sb (Sy.new ((mk:Int)+1) (ps.map aS.p))) .auto rfl ?_
  rintro kb bl -
  have hP0:=yZ.new hc hw
  have hI0:=hP0.b
  have hni:=iw hc
  have hkl0:(Sy.new ((mk:Int)+1) (ps.map aS.p)).k.libs.length=ps.length:=((im (iw hc).1 _ _).2.ll.trans hni.2.1).trans (List.length_map ..)
  refine .v (.t ?_)
  refine .zg (X:=Value) [2,31,32,33,34,35] (fun u2=>Rd W [A] ga 3 u2 (xs.take 80)) (fun u2=>[(2,some u2)]) (fun _=>[fD sb kb bl (Sy.new ((mk:Int)+1) (ps.map aS.p)),A,F]) ?_ ?_
  ·refine .s (.r (.p (.m rfl) (.p (.len rfl) (.p (.gtr rfl rfl) (.n (.t (.dD rfl (fun h33=>?_) (fun h33=>?_))))))))
   ·refine .r (.p (.m rfl) ?_)
    refine .p (.sliceTo 80 underlying23 sizeOf34 rfl rfl Rd.s rfl (by omega)) ?_
    refine .p (.a rfl) (.n ?_)
    refine .jW (cut 3 0 80 u) .auto ?_ ?_ ?_
    ·exact Rd.DJ (n:=80) (by omega) hst
    ·exact⟨rfl,trivial⟩
    ·exact fun w s=>aq.kept .auto w s
   ·refine .v ?_
    refine .jW u .auto ?_ ?_ ?_
    ·rw[List.take_of_length_le (by omega)];exact hst
    ·exact⟨rfl,trivial⟩
    ·exact fun w s=>aq.kept .auto w s
  ·rintro u2 hsm
   haveI hRK:∀ (H:List aa) [bj H A],ax W H u2 ga 3 (xs.take 80):=fun H h=>⟨hsm.at h.has⟩
   have hxs2:(xs.take 80).length≤80:=List.length_take_le ..
   refine .s (.s (.r (.p (.a rfl) (.n (.t (.b ?_))))))
   refine .aX (X:=Nat×Sy) [6,9,10,11,12,13,14,15,16,17,18,36,37,38,39,40,41,42,43,44,45,46,47,48,49,50,51,52,53,54,55,56,57,58,59,60,61,62,63,64,65,66,67,68,69,70,71,72,73,74,75,76,77,78,79,80,81,82,83,84,85,86,87,88,89,90,91,92,93,94,95,96,97,98,99,100,101,102,103,104,105,106,107,108,109,110,111,112,113,114,115,116,117,118,119,120,121,122,123,124,125,126,127,128,129,130,131,132,133,134,135,136,137,138,139,140,141,142,143,144,145,146,147,148,149,150,151,152,153,154,155,156] (fun z=>(xs.take 80).length-z.1) (fun z=>z.1≤(xs.take 80).length∧yZ z.1 z.2) (fun z=>[(9,some (.int .i64 (z.1:Int)))]) (fun z=>[fD sb kb bl z.2,A,F]) (0,(Sy.new ((mk:Int)+1) (ps.map aS.p))) ?_ ?_ ?_ ?_
   ·exact⟨Nat.zero_le _,hP0⟩
   ·exact⟨rfl,trivial⟩
   ·exact fun w s=>aq.kept .auto w s
   rintro⟨i,s⟩ ⟨hi,hP⟩
   simp only at hi hP
   have hI:=hP.b
   have hlog:=hI.log
   refine .s (.s (.r (.p (.m rfl) (.p (.m rfl) (.p (.len rfl) (.p (.lss rfl rfl) (.n (.t (.dD rfl (fun h39=>?_) (fun h39=>?_))))))))))
   ·refine .v (.t (.s (.b (.s (.r (.p (.m rfl) (.p (.m rfl) ?_)))))))
    obtain⟨x,hx⟩:=ak (show i<(xs.take 80).length by omega)
    refine .p (.ix i rfl rfl rfl (by omega)) ?_
    refine .p (.la rfl (Cells.rd Rd.s hx)) ?_
    refine .ai rfl (ae.alloc rfl zeroValue34 rfl) ?_
    rintro _ _ ⟨b10,rfl,rfl⟩
    refine .ai rfl (ae.hD (vs:=ga x) (by exact sizeOf34) rfl rfl rfl (by rfl)) ?_
    rintro _ _ ⟨rfl,rfl⟩
    refine .n (.t (.s ?_))
    refine .draw [arr b10 0 (ga x)] [1,2,0,0,3,1,1,1,1,1] rfl (by kernel_rfl) ?_
    refine .p (.m rfl) ?_
    refine .d2 rfl Kept.auto (ae.cY rfl call20 rfl (cE (b:=sb) (kb:=kb) (bl:=bl) (s:=s)) .auto) (by rintro _ _ ⟨⟨⟩, -,rfl,rfl⟩;exact Kept.auto) ?_
    rintro _ _ ⟨⟨⟩, -,rfl,rfl⟩
    refine .o2 (C:=fD sb kb bl s) .auto rfl ?_
    rintro pv lv -
    refine .q (.f rfl) (.q (.l rfl) ?_)
    refine .d3 rfl (ae.cY rfl call21 rfl (l6 (b:=kb) (bl:=bl) (k:=s.k) (p:=x.a)) .auto) ?_
    rintro _ _ ⟨⟨⟩, -,rfl,rfl⟩
    refine .p (.m rfl) ?_
    refine .p (.extract (v:=.int .i64 (s.k.ownerOf x.a).1) rfl rfl) ?_
    refine .p (.extract (v:=.bool (s.k.ownerOf x.a).2) rfl rfl) ?_
    refine .p (.a rfl) (.p (.a rfl) (.n (.t (.s (.r ?_)))))
    refine .ai rfl (ae.Bl (enc:=Oc) (k:=1) Od 16 rfl underlying95 typeInfo93 rfl rfl rfl rfl (by decide) (by decide) rfl rfl rfl rfl (by omega)) ?_
    rintro _ _ ⟨b54,rfl,rfl⟩
    refine .p (.a rfl) (.n (.t (.s (.s (.r (.p (.a rfl) (.n (.t (.b ?_)))))))))
    refine .aX (X:=Nat×List (Value×List mf)) [14,55,56,57,58,59,60,61,62,63,64,65,66,67,68,69] (fun z=>16-z.1) (fun z=>z.1≤16∧iu s.k x.a z.1 z.2) (fun z=>[(14,some (.int .i64 (z.1:Int)))]) (fun z=>[sl Oc 1 (.slice (some ⟨b54,0,none⟩) 16 16) z.2,aO (fun x:Value×List mf=>sl gr 2 x.1 x.2) z.2,fD sb kb bl s,arr b10 0 (ga x),A,F]) (0,List.replicate 16 Od) ?_ ?_ ?_ ?_
    ·exact⟨Nat.zero_le _,iu.zero _ _⟩
    ·exact⟨rfl,trivial⟩
    ·exact fun w s=>aq.kept .auto w s
    rintro⟨t,ys⟩ ⟨ht,hL⟩
    simp only at ht hL
    have hyl:=hL.1
    refine .s (.s (.r (.p (.m rfl) (.p (.lss rfl rfl) (.p (.m rfl) ?_)))))
    apply aM.eb 2 59 57 [57,58,59] rfl
    ·intro h57
     refine .g (.m rfl) (.p (.t rfl rfl) (.n ?_))
     refine .eu .auto rfl (by first | exact fun _ h=>h | exact aq.kept .auto)
    ·intro h57
     refine .u (.p (.u rfl rfl) (.n ?_))
     refine .eu .auto rfl (by first | exact fun _ h=>h | exact aq.kept .auto)
    refine .n (.t (.cond rfl (fun h59=>?_) (fun h59=>?_)))
    ·simp only[Bool.and_eq_true,decide_eq_true_eq] at h59
     obtain⟨j,l,ho2,hl⟩:=IW hI.k h59.2
     have hlm:=List.mem_of_getElem? hl
     rw[ho2]
     refine .v (.t (.s (.b (.r (.p (.m rfl) (.p (.m rfl) (.p (.m rfl) ?_)))))))
     refine .ai rfl (ae.cY rfl call20 rfl (cE (b:=sb) (kb:=kb) (bl:=bl) (s:=s)) .auto) ?_
     rintro _ _ ⟨⟨⟩, -,rfl,rfl⟩
     refine .o2 (C:=fD sb kb bl s) .auto rfl ?_
     rintro pv lv -
     refine .p (.m rfl) (.p (.m rfl) ?_)
     refine .ai rfl (ae.cY rfl call50 rfl (gW (b:=kb) (bl:=bl) (k:=s.k) (n:=j) (slot:=(t:Int)) hl (hI.k.ok.gE l hlm).vl ((hP.Mr (by omega)).ev l hlm)) .auto) ?_
     rintro _ _ ⟨u68, -,rfl,rfl⟩
     refine .cr (fun w s=>Rd.isSl (Rd.sl .auto) w s) fun hu68=>?_
     obtain⟨y0,hy0⟩:=ak (show t<ys.length by omega)
     refine .p (.ix t rfl rfl rfl (by first | omega | (dsimp only;omega))) ?_
     refine .ai rfl (ae.dA (x':=(u68,placeOf l (t:Int))) rfl rfl sizeOf93 (fH hu68) hy0 (by decide) rfl .auto) ?_
     rintro _ _ ⟨rfl,rfl⟩
     refine .fr .auto (cc (f:=fun x:Value×List mf=>sl gr 2 x.1 x.2) hy0) ?_
     refine .to (A:=aO (fun x:Value×List mf=>sl gr 2 x.1 x.2) (ys.set t (u68,placeOf l (t:Int)))) .auto (kn (f:=fun x:Value×List mf=>sl gr 2 x.1 x.2) (u68,placeOf l (t:Int)) hy0) ?_
     refine .n (.b (.t (.r (.p (.m rfl) ?_))))
     refine .p (.inc rfl rfl (by omega)) ?_
     refine .p (.a rfl) (.n ?_)
     refine .aw (t+1,ys.set t (u68,placeOf l (t:Int))) .auto rfl ?_ ?_ ?_ ?_
     ·show 16-(t+1)<16-t;omega
     ·exact⟨by show t+1≤_;omega,hL.put (by omega) ho2 hl u68⟩
     ·exact⟨rfl,trivial⟩
     ·exact fun w s=>aq.kept .auto w s
    ·simp only[Bool.and_eq_false_iff,decide_eq_false_iff_not] at h59
     have hL2:iu s.k x.a 16 ys:=hL.last ht h59
     refine .x (.tx (.tx (.bh (.t (.s (.r (.p (.m rfl) ?_)))))))
     refine .ai rfl (ae.cY rfl call17 rfl (jg (b:=sb) (kb:=kb) (bl:=bl) (s:=s) (by omega)) .auto) ?_
     rintro _ _ ⟨u71, -,rfl,rfl⟩
     refine .p (.len rfl) (.p (.a rfl) (.n (.t (.s (.r (.p (.m rfl) (.p (.lA rfl) ?_)))))))
     refine .ai rfl (ae.cY rfl call18 rfl (l7 (b:=sb) (kb:=kb) (bl:=bl) (s:=s) (x:=x) (hI.rn (by omega)) hI.k.inv (by omega) (by have:=hI.log;omega) (Nat.le_trans hI.prio (by decide))) .auto) ?_
     rintro _ _ ⟨⟨⟩, -,rfl,rfl⟩
     have hP2:=hP.do (by omega) x
     have hlog2:=hP2.b.log
     obtain⟨r,hrr⟩:=DI hI.k.ok x
     have hlen:(s.do x).2.log.length=s.log.length+r.length:=by rw[hrr.log,List.length_append]
     refine .n (.t (.s (.r (.p (.m rfl) ?_))))
     refine .ai rfl (ae.cY rfl call17 rfl (jg (b:=sb) (kb:=kb) (bl:=bl) (s:=(s.do x).2) (by omega)) .auto) ?_
     rintro _ _ ⟨u77, -,rfl,rfl⟩
     refine .p (.a rfl) (.n (.t (.s (.s (.r (.p (.z rfl) (.p (.l rfl) (.p (.neq rfl rfl) (.p (.m rfl) ?_)))))))))
     apply aM.eO 5 86 81 [81,82,83,84,85,86] rfl
     ·intro h81
      refine .g (.m rfl) (.g (.len rfl) (.g (.m rfl) (.g (.eql rfl rfl) (.p (.u rfl rfl) (.n ?_)))))
      refine .eu .auto rfl (by first | exact fun _ h=>h | exact aq.kept .auto)
     ·intro h81
      refine .u (.u (.u (.u (.p (.t rfl rfl) (.n ?_)))))
      refine .eu .auto rfl (by first | exact fun _ h=>h | exact aq.kept .auto)
     refine .n (.t (.cond rfl (fun h86=>?_) (fun h86=>?_)))
     ·refine .x (.tx (.bh (.t (.r (.p (.m rfl) ?_)))))
      refine .p (.inc rfl rfl (by omega)) ?_
      refine .p (.a rfl) (.n ?_)
      refine .aw (i+1,(s.do x).2) .auto rfl ?_ ?_ ?_ ?_
      ·show(xs.take 80).length-(i+1)<(xs.take 80).length-i;omega
      ·exact⟨by show i+1≤_;omega,hP2⟩
      ·exact⟨rfl,trivial⟩
      ·exact fun w s=>aq.kept .auto w s
     ·simp only[Bool.or_eq_false_iff,decide_eq_false_iff_not] at h86
      have hk1:x.kind=1:=Decidable.not_not.mp h86.1
      have hg:s.log.length<(s.do x).2.log.length:=by have:=h86.2;omega
      obtain⟨j,l,w,q,ho2,hl,hy,hw,hpl,hqa,hqk⟩:=FF hP hk1 hg
      obtain⟨uw,hyw⟩:=hL2.at ho2 hl hw
      rw[hpl] at hyw
      have hq0:[q][0]?=some q:=rfl
      rw[ho2]
      refine .v (.t (.s (.r (.p (.m rfl) (.p (.m rfl) ?_)))))
      refine .p (.ix s.log.length rfl rfl rfl hg) ?_
      refine .p (.o rfl) ?_
      refine .p (.ld rfl (Cell.rd (c:=2) Rd.s hy rfl)) ?_
      refine .p (.a rfl) (.n (.t (.s (.s ?_))))
      refine .fr (Bs:=[sl gr 2 uw [q],aO (fun x:Value×List mf=>sl gr 2 x.1 x.2) (ys.eraseIdx w)]) .auto (cc (f:=fun x:Value×List mf=>sl gr 2 x.1 x.2) hyw) ?_
      refine .draw [] [1,1,1,1,1,1,1,1,1,1,1,1,1,1,1,1,1,1,1,1,1,1,1,1,1,1,1,1,1,1,1,1,1,1,1,1,1,1,1,1,1,1,1,1,1,1] rfl (by kernel_rfl) ?_
      refine .p (.m rfl) (.p (.lss rfl rfl) (.p (.m rfl) ?_))
      apply bm.eO 3 97 94 [94,95,96,97] rfl
      ·intro h94
       refine .g (.m rfl) (.g (.gtr rfl rfl) (.p (.u rfl rfl) (.n ?_)))
       refine .eu .auto rfl (by first | exact fun _ h=>h | exact aq.kept .auto)
      ·intro h94
       refine .w (.w (.p (.t rfl rfl) (.n ?_)))
       refine .eu .auto rfl (by first | exact fun _ h=>h | exact aq.kept .auto)
      refine .p (.m rfl) ?_
      apply bm.eO 7 105 98 [98,99,100,101,102,103,104,105] rfl
      ·intro h98
       refine .g (.m rfl) (.g (.m rfl) ?_)
       refine .g (.ix w rfl rfl rfl (by first | omega | (dsimp only;omega))) ?_
       refine .g (.load (v:=uw) isAgg93 rfl (Cell.CN Rd.s hyw rfl)) ?_
       refine .g (.len rfl) (.g (.neq rfl rfl) (.p (.u rfl rfl) (.n ?_)))
       refine .eu .auto rfl (by first | exact fun _ h=>h | exact aq.kept .auto)
      ·intro h98
       refine .w (.w (.w (.w (.w (.w (.p (.t rfl rfl) (.n ?_)))))))
       refine .eu .auto rfl (by first | exact fun _ h=>h | exact aq.kept .auto)
      refine .p (.m rfl) ?_
      apply bm.fA 11 117 106 [106,107,108,109,110,111,112,113,114,115,116,117] rfl
      ·intro h106
       refine .g (.m rfl) (.g (.m rfl) ?_)
       refine .g (.ix w rfl rfl rfl (by first | omega | (dsimp only;omega))) ?_
       refine .g (.load (v:=uw) isAgg93 rfl (Cell.CN Rd.s hyw rfl)) ?_
       refine .g (.ix 0 rfl rfl rfl (show 0 < [q].length from Nat.lt_succ_self 0)) ?_
       refine .g (.o rfl) ?_
       refine .g (.ld rfl (Cell.rd (enc:=gr) (k:=2) (v:=uw) (i:=0) (c:=1) Rd.s hq0 rfl)) ?_
       refine .g (.f rfl) (.g (.l rfl) (.g (.neq rfl rfl) (.p (.u rfl rfl) (.n ?_))))
       refine .eu .auto rfl (by first | exact fun _ h=>h | exact aq.kept .auto)
      ·intro h106
       refine .w (.w (.w (.w (.w (.w (.w (.w (.w (.w (.p (.t rfl rfl) (.n ?_)))))))))))
       refine .eu .auto rfl (by first | exact fun _ h=>h | exact aq.kept .auto)
      refine .p (.m rfl) ?_
      apply bm.fA 19 137 118 [118,119,120,121,122,123,124,125,126,127,128,129,130,131,132,133,134,135,136,137] rfl
      ·intro h118
       refine .g (.m rfl) (.g (.m rfl) ?_)
       refine .g (.ix w rfl rfl rfl (by first | omega | (dsimp only;omega))) ?_
       refine .g (.load (v:=uw) isAgg93 rfl (Cell.CN Rd.s hyw rfl)) ?_
       refine .g (.ix 0 rfl rfl rfl (show 0 < [q].length from Nat.lt_succ_self 0)) ?_
       refine .g (.z rfl) ?_
       refine .g (.ld rfl (Cell.CN (enc:=gr) (k:=2) (v:=uw) (i:=0) Rd.s hq0 rfl)) ?_
       refine .g (.neq rfl rfl) (.g (.m rfl) ?_)
       apply bm.eb 9 136 127 [127,128,129,130,131,132,133,134,135,136] rfl
       ·intro h127
        refine .g (.m rfl) (.g (.m rfl) ?_)
        refine .g (.ix w rfl rfl rfl (by first | omega | (dsimp only;omega))) ?_
        refine .g (.load (v:=uw) isAgg93 rfl (Cell.CN Rd.s hyw rfl)) ?_
        refine .g (.ix 0 rfl rfl rfl (show 0 < [q].length from Nat.lt_succ_self 0)) ?_
        refine .g (.z rfl) ?_
        refine .g (.ld rfl (Cell.CN (enc:=gr) (k:=2) (v:=uw) (i:=0) Rd.s hq0 rfl)) ?_
        refine .g (.neq rfl rfl) (.g (.t rfl rfl) (.n ?_))
        refine .eu .auto rfl (by first | exact fun _ h=>h | exact aq.kept .auto)
       ·intro h127
        refine .w (.w (.w (.w (.w (.w (.w (.w (.g (.u rfl rfl) (.n ?_)))))))))
        refine .eu .auto rfl (by first | exact fun _ h=>h | exact aq.kept .auto)
       refine .p (.u rfl rfl) (.n ?_)
       refine .eu .auto rfl (by first | exact fun _ h=>h | exact aq.kept .auto)
      ·intro h118
       refine .w (.w (.w (.w (.w (.w (.w (.w (.w (.w (.w (.w (.w (.w (.w (.w (.w (.w (.p (.t rfl rfl) (.n ?_)))))))))))))))))))
       refine .eu .auto rfl (by first | exact fun _ h=>h | exact aq.kept .auto)
      refine .n (.t (.cond rfl (fun h137=>?_) (fun h137=>?_)))
      ·simp only[Bool.or_eq_true,Bool.and_eq_true,decide_eq_true_eq] at h137
       rcases h137 with ((h | h) | h) | ⟨h,h2⟩
       ·omega
       ·exact absurd rfl h
       ·exact absurd hqa h
       ·rcases hqk with e | e
        ·exact absurd e h
        ·exact absurd e h2
      ·refine .to (A:=aO (fun x:Value×List mf=>sl gr 2 x.1 x.2) ys) .auto (cK (f:=fun x:Value×List mf=>sl gr 2 x.1 x.2) hyw) ?_
       refine .v (.t (.s (.r (.p (.a rfl) (.n (.t (.b ?_)))))))
       refine .aX (X:=Nat) [6,18,138,139,140,141,142,143,144,145,146,147,148,149,150,151,152,153,154,155,156] (fun k=>16-k) (fun k=>k≤16) (fun k=>[(18,some (.int .i64 (k:Int)))]) (fun k=>[sl Oc 1 (.slice (some ⟨b54,0,none⟩) 16 16) ys,aO (fun x:Value×List mf=>sl gr 2 x.1 x.2) ys,fD sb kb bl (s.do x).2,A,F]) 0 ?_ ?_ ?_ ?_
       ·exact Nat.zero_le _
       ·exact⟨rfl,trivial⟩
       ·exact fun w s=>aq.kept .auto w s
       rintro k hk
       refine .s (.s (.r (.p (.m rfl) (.p (.lss rfl rfl) (.n (.t (.dD rfl (fun h139=>?_) (fun h139=>?_))))))))
       ·refine .v (.t (.s (.b (.s (.r (.p (.m rfl) (.p (.m rfl) ?_)))))))
        obtain⟨yk,hyk⟩:=ak (show k<ys.length by omega)
        refine .p (.ix k rfl rfl rfl (by first | omega | (dsimp only;omega))) ?_
        refine .p (.lr rfl hyk) ?_
        refine .fr .auto (cc (f:=fun x:Value×List mf=>sl gr 2 x.1 x.2) hyk) ?_
        refine .p (.len rfl) (.p (.eql rfl rfl) (.p (.m rfl) ?_))
        refine .vN (t:=148) rfl (fun h148=>?_) (fun h148=>?_)
        ·refine .g (.m rfl) ?_
         refine .to (A:=aO (fun x:Value×List mf=>sl gr 2 x.1 x.2) ys) .auto (cK (f:=fun x:Value×List mf=>sl gr 2 x.1 x.2) hyk) ?_
         obtain⟨l2,hl2⟩:=ak (show j<(s.do x).2.k.libs.length by rw[sN hI.k.inv x];exact(List.getElem?_eq_some_iff.1 hl).1)
         have hlm2:=List.mem_of_getElem? hl2
         refine .dg rfl rfl rfl (ae.cY rfl call20 rfl (cE (b:=sb) (kb:=kb) (bl:=bl) (s:=(s.do x).2)) .auto) ?_
         rintro _ _ ⟨⟨⟩, -,rfl,rfl⟩
         refine .o2 (C:=fD sb kb bl (s.do x).2) .auto rfl ?_
         rintro pv lv -
         refine .g (.m rfl) (.g (.m rfl) ?_)
         refine .dg rfl rfl rfl (ae.cY rfl call50 rfl (gW (b:=kb) (bl:=bl) (k:=(s.do x).2.k) (n:=j) (slot:=(k:Int)) hl2 (hP2.b.k.ok.gE l2 hlm2).vl ((hP2.Mr (by omega)).ev l2 hlm2)) .auto) ?_
         rintro _ _ ⟨u153, -,rfl,rfl⟩
         refine .g (.len rfl) (.g (.gtr rfl rfl) (.p (.t rfl rfl) (.n (.t (.cond rfl (fun h156=>?_) (fun h156=>?_))))))
         ·have:=Mn (hP2.p l2 hlm2) (hP2.k l2 hlm2) k
          have h156:=of_decide_eq_true h156
          omega
         ·refine .v (.b (.t (.r (.p (.m rfl) ?_))))
          refine .p (.inc rfl rfl (by omega)) ?_
          refine .p (.a rfl) (.n ?_)
          refine .aw (k+1) .auto rfl ?_ ?_ ?_ ?_
          ·omega
          ·show k+1≤_;omega
          ·exact⟨rfl,trivial⟩
          ·exact fun w s=>aq.kept .auto w s
        ·refine .u (.u (.u (.u (.u (.u (.u (.p (.u rfl rfl) (.n (.t (.eK rfl ?_))))))))))
         refine .v (.b (.t (.r (.p (.m rfl) ?_))))
         refine .p (.inc rfl rfl (by omega)) ?_
         refine .p (.a rfl) (.n ?_)
         refine .to (A:=aO (fun x:Value×List mf=>sl gr 2 x.1 x.2) ys) .auto (cK (f:=fun x:Value×List mf=>sl gr 2 x.1 x.2) hyk) ?_
         refine .aw (k+1) .auto rfl ?_ ?_ ?_ ?_
         ·omega
         ·show k+1≤_;omega
         ·exact⟨rfl,trivial⟩
         ·exact fun w s=>aq.kept .auto w s
       ·refine .x (.tx (.tx (.bh (.b (.t (.r (.p (.m rfl) ?_)))))))
        refine .p (.inc rfl rfl (by omega)) ?_
        refine .p (.a rfl) (.n ?_)
        refine .aw (i+1,(s.do x).2) .auto rfl ?_ ?_ ?_ ?_
        ·show(xs.take 80).length-(i+1)<(xs.take 80).length-i;omega
        ·exact⟨by show i+1≤_;omega,hP2⟩
        ·exact⟨rfl,trivial⟩
        ·exact fun w s=>aq.kept .auto w s
   ·refine .x (.tx (.tx (.bh (.t (.s (.r ?_))))))
    refine .ai rfl (ae.cY rfl call46 rfl km .auto) ?_
    rintro _ _ ⟨⟨⟩, -,rfl,rfl⟩
    refine .p (.a rfl) (.n (.t (.e (.aJ rfl rfl fun w s=>⟨(),?_,trivial,aj .auto s⟩))))
    rfl
end Go.SLYthlllpngkljgfaaGreat
