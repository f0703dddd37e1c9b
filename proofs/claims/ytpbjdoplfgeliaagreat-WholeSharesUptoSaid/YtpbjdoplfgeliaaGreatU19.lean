/- Walks. Conditions: none. -/
import Derived.Test.YtpbjdoplfgeliaaGreatU18
import Derived.Test.YtpbjdoplfgeliaaGreatU06
import Derived.Test.YtpbjdoplfgeliaaGreatU12
namespace Go.SLYtpbjdoplfgeliaaGreat
open Go Go.RowKit
def may(w:Int)(e:Ev):Bool:=decide (e.ab=w) && (decide (0<e.mode) || decide (e.kind=3) || decide (e.kind=4))
def jR(w:Int)(v:aH):Nat:=(if v.runs=true∧v.ab=w then 1 else 0)+v.evs.countP (may w)
def sumP(w:Int):List aH→Nat
 | []=>0
 | v::l=>jR w v+sumP w l
def rowN(w:Int):List (List Int)→Nat
 | []=>0
 | r::l=>r.count w+rowN w l
def xJ(w:Int)(l:Lib):Nat:=rowN w l.rows+sumP w l.vs+l.waiting.countP (may w)
def nt(e:Ev):Prop:=0<e.mode→(e.mode=7∧0≤e.ab)∨(e.mode≠7∧e.ab<0)
structure fq(v:aH):Prop where
 e:∀ e∈v.evs,nt e
 t:v.mode=5∨v.mode=6∨v.mode=7→0≤v.ab
structure Pk(l:Lib):Prop where
 n:∀ w,0≤w→xJ w l=c0 l.aI w
 v:∀ v∈l.vs,fq v
 w:∀ e∈l.waiting,nt e
 rl:l.rows.length=l.vs.length
 rg:∀ r∈l.rows, ∀ t∈r,(0:Int)≤t
theorem gi{w:Int}{vs:List aH}{i:Nat}{v:aH}(h:vs[i]?=some v)(x:aH):sumP w (vs.set i x)+jR w v=sumP w vs+jR w x:=by
 induction vs generalizing i with
 | nil=>simp at h
 | cons y vs ih =>
  cases i with
  | zero =>
   obtain rfl:y=v:=by simpa using h
   simp only[List.set_cons_zero,sumP];omega
  | succ i =>
   have:=ih (i:=i) (by simpa using h)
   simp only[List.set_cons_succ,sumP];omega
theorem Bg{w:Int}{rows:List (List Int)}{i:Nat}{r:List Int}(h:rows[i]?=some r)(x:List Int):rowN w (rows.set i x)+r.count w=rowN w rows+x.count w:=by
 induction rows generalizing i with
 | nil=>simp at h
 | cons y rows ih =>
  cases i with
  | zero =>
   obtain rfl:y=r:=by simpa using h
   simp only[List.set_cons_zero,rowN];omega
  | succ i =>
   have:=ih (i:=i) (by simpa using h)
   simp only[List.set_cons_succ,rowN];omega
theorem Ja{t:Int}:∀ {rows:List (List Int)},rowN t rows=0→yO rows t=false
 | [],_=>rfl
 | r::rows,h=>by
  unfold rowN at h
  have h1:r.contains t=false:=by
   rw[List.contains_eq_mem]
   exact decide_eq_false (fun hm=>by have:=List.count_pos_iff.2 hm;omega)
  have h2:=Ja (t:=t) (rows:=rows) (by omega)
  unfold yO at h2 ⊢
  rw[List.any_cons,h1,h2];rfl
theorem D5{rows:List (List Int)}{i:Nat}{t:Int}(hi:i<rows.length)(h:rowN t rows=0)(w:Int):rowN w (rAdd rows (i:Int) t)=rowN w rows+(if t=w then 1 else 0):=by
 obtain⟨r,hr⟩:=ai hi
 unfold rAdd
 rw[Ja h,aV,hr]
 simp only[Bool.false_eq_true,if_false,Int.toNat_natCast]
 have:=Bg (w:=w) hr (r++[t])
 rw[List.count_append,List.count_singleton] at this
 by_cases e:t=w
 ·rw[if_pos e];rw[if_pos (by simpa using e)] at this;omega
 ·rw[if_neg e];rw[if_neg (by simpa using e)] at this;omega
theorem Jb{i:Nat}:∀ {ts:List Int} {rows:List (List Int)},i<rows.length→(∀ x∈ts,rowN x rows=0)→(∀ x,ts.count x≤1)→ ∀ w,rowN w (eb rows (i:Int) ts)=rowN w rows+ts.count w
 | [],_,_,_,_,_=>rfl
 | t::ts,rows,hi,h0,h1,w=>by
  have ht:=h0 t (List.mem_cons_self ..)
  have hn:t ∉ ts:=fun hm=>by
   have:=h1 t
   rw[List.count_cons_self] at this
   have:=List.count_pos_iff.2 hm
   omega
  show rowN w (eb (rAdd rows (i:Int) t) (i:Int) ts)=_
  rw[Jb (ts:=ts) (rows:=rAdd rows (i:Int) t) (by rw[AF];exact hi) (fun x hx=>by
   have hne:¬t=x:=fun e=>hn (by rw[e];exact hx)
   rw[D5 hi ht,if_neg hne,h0 x (List.mem_cons_of_mem _ hx)]) (fun x=>by
   have:=h1 x
   rw[List.count_cons] at this
   omega) w,D5 hi ht,List.count_cons]
  by_cases e:t=w
  ·rw[if_pos e,if_pos (by simpa using e)];omega
  ·rw[if_neg e,if_neg (by simpa using e)];omega
theorem KY{rows:List (List Int)}{p t:Int}(h:∀ r∈rows, ∀ x∈r,(0:Int)≤x)(ht:0≤t):∀ r∈rAdd rows p t, ∀ x∈r,(0:Int)≤x:=fun r hr x hx=>by
 unfold rAdd at hr
 split at hr
 ·exact h r hr x hx
 ·split at hr
  ·exact h r hr x hx
  ·rename_i y e
   rcases List.mem_or_eq_of_mem_set hr with hr | rfl
   ·exact h r hr x hx
   ·rcases List.mem_append.1 hx with hx | hx
    ·exact h y (List.mem_of_getElem? (ck e).2.2) x hx
    ·obtain rfl:=List.mem_singleton.1 hx;exact ht
theorem nu:∀ {ts:List Int} {rows:List (List Int)} {p:Int},(∀ r∈rows, ∀ x∈r,(0:Int)≤x)→(∀ t∈ts,(0:Int)≤t)→ ∀ r∈eb rows p ts, ∀ x∈r,(0:Int)≤x
 | [],_,_,h,_=>h
 | t::ts,rows,p,h,ht=>nu (ts:=ts) (rows:=rAdd rows p t) (KY h (ht t (List.mem_cons_self ..))) fun x hx=>ht x (List.mem_cons_of_mem _ hx)
/-! vessels told -/
theorem KZ{w:Int}(h:0≤w)(l:List Ev):(cV l).countP (may w)=l.countP (may w):=by
 induction l with
 | nil=>rfl
 | cons e l ih =>
  unfold cV at ih ⊢
  by_cases hk:(dE e || decide (0<e.mode))=true
  ·rw[List.filter_cons_of_pos (p:=fun e=>dE e || decide (0<e.mode)) hk,List.countP_cons,List.countP_cons,ih]
  ·rw[List.filter_cons_of_neg (p:=fun e=>dE e || decide (0<e.mode)) hk,List.countP_cons,ih]
   have:may w e=false:=by
    simp only[Bool.or_eq_true,decide_eq_true_eq,not_or] at hk
    unfold dE at hk
    unfold may
    by_cases ht:e.ab=w
    ·have h1:¬e.kind=3:=fun e3=>hk.1 (by simp[e3];omega)
     have h2:¬e.kind=4:=fun e4=>hk.1 (by simp[e4];omega)
     simp[hk.2,h1,h2]
    ·simp[ht]
   rw[this];rfl
theorem Bh{w:Int}(h:0≤w)(v:aH):v.strip.countP (may w)=jR w v:=by
 unfold aH.strip jR
 rw[List.countP_append,KZ h]
 by_cases hh:v.holds=true
 ·rw[if_pos hh]
  by_cases hr:v.runs=true
  ·rw[if_pos hr,List.countP_cons,List.countP_nil]
   by_cases ht:v.ab=w
   ·have:may w ⟨4,v.ab,v.mode⟩=true:=by unfold may;simp[ht]
    rw[this];simp[hr,ht]
   ·have:may w ⟨4,v.ab,v.mode⟩=false:=by unfold may;simp[ht]
    rw[this];simp[hr,ht]
  ·rw[if_neg hr,if_neg (fun g=>hr g.1),List.countP_cons,List.countP_nil]
   have:may w ⟨4, -1,v.mode⟩=false:=by
    unfold may
    have:¬(-1:Int)=w:=by omega
    simp[this]
   rw[this];simp
 ·rw[if_neg hh]
  by_cases hr:v.runs=true
  ·rw[if_pos hr,List.countP_cons,List.countP_nil]
   by_cases ht:v.ab=w
   ·have:may w ⟨4,v.ab,0⟩=true:=by unfold may;simp[ht]
    rw[this];simp[hr,ht]
   ·have:may w ⟨4,v.ab,0⟩=false:=by unfold may;simp[ht]
    rw[this];simp[hr,ht]
  ·rw[if_neg hr,if_neg (fun g=>hr g.1)];simp
theorem CY(w:Int)(l:List Ev):jR w (aH.new l)=l.countP (may w):=by
 show(if aH.runs (aH.new l)=true∧_ then 1 else 0)+l.countP (may w)=_
 rw[if_neg (fun g=>by have:=g.1;unfold aH.runs aH.new at this;simp at this)];omega
theorem D6{w:Int}(h:0≤w)(v:aH)(l:List Ev):jR w (v.told l)=jR w v+l.countP (may w):=by
 unfold aH.told
 rw[CY,List.countP_append,Bh h]
theorem MQ(w:Int):jR w aH.z=0:=by
 unfold jR
 rw[if_neg (fun g=>by have:=g.1;unfold aH.runs aH.z at this;simp at this)];rfl
theorem vz{v:aH}(h:fq v):∀ e∈v.strip,nt e:=fun e he=>by
 unfold aH.strip at he
 rcases List.mem_append.1 he with he | he
 ·split at he
  ·rename_i hh
   obtain rfl:=List.mem_singleton.1 he
   intro h0
   have hm:v.mode=2∨v.mode=4∨v.mode=7:=by unfold aH.holds at hh;simp only[Bool.or_eq_true,decide_eq_true_eq] at hh;omega
   by_cases h7:v.mode=7
   ·refine .inl ⟨h7,?_⟩
    have ht:=h.t (.inr (.inr h7))
    have hr:v.runs=true:=by unfold aH.runs;simp[h7,ht]
    show(0:Int)≤(if v.runs=true then v.ab else -1)
    rw[if_pos hr];exact ht
   ·refine .inr ⟨h7,?_⟩
    have hr:¬v.runs=true:=fun g=>by unfold aH.runs at g;simp only[Bool.and_eq_true,Bool.or_eq_true,decide_eq_true_eq] at g;omega
    show(if v.runs=true then v.ab else -1)<0
    rw[if_neg hr];omega
  ·split at he
   ·obtain rfl:=List.mem_singleton.1 he
    intro h0;exact absurd h0 (by show ¬(0:Int)<0;omega)
   ·cases he
 ·exact h.e e (List.mem_filter.1 he).1
theorem vA{l:List Ev}(h:∀ e∈l,nt e):fq (aH.new l):=⟨h,fun g=>by
 have:(aH.new l).mode=1:=rfl
 omega⟩
theorem xK{v:aH}{l:List Ev}(h:fq v)(hl:∀ e∈l,nt e):fq (v.told l):=vA fun e he=>by
 rcases List.mem_append.1 he with he | he
 ·exact vz h e he
 ·exact hl e he
theorem Jc:fq aH.z:=by
 refine⟨fun _ h=>(by cases h),fun g=>?_⟩
 have:aH.z.mode=0:=rfl
 omega
theorem jj{w:Int}(l:List Int):(aG l).countP (may w)=l.count w:=by
 unfold aG
 rw[List.countP_map]
 unfold List.count
 refine List.countP_congr fun x _=>?_
 show may w ⟨3,x,0⟩=true↔_
 unfold may
 simp
theorem gV(l:List Int):∀ e∈aG l,nt e:=fun e he=>by
 obtain⟨n, -,rfl⟩:=List.mem_map.1 he
 intro h;exact absurd h (by show ¬(0:Int)<0;omega)
end Go.SLYtpbjdoplfgeliaaGreat
namespace Go.SLYtpbjdoplfgeliaaGreat
open Go Go.RowKit
structure Jd(s s':Spc)(e:lG)(n:Int):Prop where
 q:∀ w,c0 s' w+(if ¬e.cq=true∧w=n then 1 else 0)=c0 s w+e.av.count w
 z:∀ x∈e.av,0≤x∧c0 s x=0
 c:∀ x,e.av.count x≤1
theorem vB(s:Spc)(w:Int):c0 s w≤1:=by
 unfold c0 rO
 split
 ·omega
 ·split <;> omega
theorem zm{s:Spc}{w:Int}(h:w<0):c0 s w=0:=by unfold c0;rw[yI h];rfl
theorem qz{e:lG}:¬e.cq=true↔(e.aQ=true∨e.ended=true):=by
 unfold lG.cq
 cases e.aQ <;> cases e.ended <;> simp
theorem MR{k:Nat}{s:Spc}(h:gE k s)(hk:k≤1990)(n c:Int):Jd s (s.run n c).2.2 (s.run n c).1 n:=by
 obtain⟨-,h1,h2, -,h3,h4, -, -⟩:=h.1.run h.2.2 (n:=n) (c:=c) (by omega) (h.rec hk)
 have hq:∀ w,c0 (s.run n c).2.2 w+(if ¬(s.run n c).1.cq=true∧w=n then 1 else 0)=c0 s w+(s.run n c).1.av.count w:=fun w=>by
  have:=h1 w
  by_cases g:(s.run n c).1.cq=true
  ·rw[if_neg (fun x=>x.1 g)]
   rw[if_neg (fun x=>absurd x.1 (fun y=>qz.2 y g))] at this
   exact this
  ·have g2:=qz.1 g
   by_cases e:w=n
   ·rw[if_pos ⟨g,e⟩];rw[if_pos ⟨g2,e⟩] at this;exact this
   ·rw[if_neg (fun x=>e x.2)];rw[if_neg (fun x=>e x.2)] at this;exact this
 by_cases he:(s.run n c).2.1=0
 ·have hn:=h3.1 he
  have hn0:¬n<0:=fun g=>by rw[zm g] at hn;omega
  refine⟨hq,fun x hx=>⟨?_,h4 x hx⟩,fun x=>?_⟩
  ·rcases Int.lt_or_le x 0 with g | g
   ·have:=hq x
    rw[zm g,zm g,if_neg (fun y=>by have:=y.2;omega)] at this
    have:=List.count_pos_iff.2 hx
    omega
   ·exact g
  ·by_cases hx:x∈(s.run n c).1.av
   ·have h5:=h4 x hx
    have:=hq x
    rw[if_neg (fun y=>by rw[y.2] at h5;omega)] at this
    have:=vB (s.run n c).2.2 x
    omega
   ·rw[List.count_eq_zero.2 hx];omega
 ·obtain⟨e1,e2⟩:=h2 he
  refine⟨hq,fun x hx=>?_,fun x=>?_⟩
  ·rw[e2] at hx;cases hx
  ·rw[e2];exact Nat.zero_le _
theorem Pk.MS{l:Lib}(h:Pk l){w:Int}(hw:0≤w)(h0:c0 l.aI w=0):rowN w l.rows=0∧sumP w l.vs=0:=by
 have:=h.n w hw
 unfold xJ at this
 omega
theorem D7{w:Int}{vs:List aH}{i:Nat}{v:aH}(h:vs[i]?=some v):jR w v≤sumP w vs:=by
 have:=gi (w:=w) h aH.z
 rw[MQ] at this
 omega
theorem K0{v:aH}(h:v.runs=true):1≤jR v.ab v:=by
 unfold jR;rw[if_pos ⟨h,rfl⟩];omega
theorem gW{vs:List aH}{i:Nat}{x:aH}(h:∀ v∈vs,fq v)(hx:fq x):∀ v∈vs.set i x,fq v:=fun v hv=>by
 rcases List.mem_or_eq_of_mem_set hv with hv | rfl
 ·exact h v hv
 ·exact hx
theorem Pk.xk{l:Lib}{ys:List Ev}(hn:∀ w,0≤w→xJ w l+ys.countP (may w)=c0 l.aI w)(hv:∀ v∈l.vs,fq v)(hw:∀ e∈l.waiting,nt e)(hy:∀ e∈ys,nt e)(rl:l.rows.length=l.vs.length)(rg:∀ r∈l.rows, ∀ t∈r,(0:Int)≤t):Pk (l.tell ys):=by
 by_cases h0:ys=[]
 ·subst h0;rw[jC];exact⟨hn,hv,hw,rl,rg⟩
 ·cases hp:l.procs with
  | nil =>
   rw[jm h0 hp]
   refine⟨fun w h=>?_,hv,fun e he=>?_,rl,rg⟩
   ·have:=hn w h
    unfold xJ at this ⊢
    simp only[List.countP_append];omega
   ·rcases List.mem_append.1 he with he | he
    ·exact hw e he
    ·exact hy e he
  | cons p r =>
   obtain⟨i,v,rfl,hiv, -⟩:=ig hp
   rw[jo h0 hp hiv]
   refine⟨fun w h=>?_,gW hv (xK (hv v (List.mem_of_getElem? hiv)) hy),hw,by show _=(l.vs.set i _).length;rw[List.length_set];exact rl,rg⟩
   have h1:=gi (w:=w) hiv (v.told ys)
   rw[D6 h] at h1
   have:=hn w h
   unfold xJ at this ⊢
   simp only at this ⊢
   omega
theorem Pk.set{l:Lib}(h:Pk l){i:Nat}{v x:aH}{b:Bool}(hv:l.vs[i]?=some v)(hx:fq x)(hn:∀ w,0≤w→jR w x=jR w v):Pk ⟨l.aI,l.rows,l.vs.set i x,l.waiting,b⟩:=by
 refine⟨fun w hw=>?_,gW h.v hx,h.w,by show _=(l.vs.set i x).length;rw[List.length_set];exact h.rl,h.rg⟩
 have h1:=gi (w:=w) hv x
 have h2:=h.n w hw
 have h3:=hn w hw
 unfold xJ at h2 ⊢
 simp only at h2 ⊢
 omega
theorem Pk.dq{l:Lib}(h:Pk l)(hl:Lk l)(p:Int):Pk (l.dq p).2:=by
 unfold Lib.dq
 cases e:aL l.vs p with
 | none=>exact h
 | some v =>
  simp only
  by_cases hm:v.mode=0
  ·rw[if_pos hm]
   obtain⟨h0, -,hv⟩:=ck e
   have hev:=hl.run hv (by omega) (by omega)
   have hh:∀ w,jR w v=0:=fun w=>by
    unfold jR
    rw[hev,if_neg (fun g=>by have:=g.1;unfold aH.runs at this;simp[hm] at this)];rfl
   refine⟨fun w hw=>?_,gW h.v (vA fun e he=>?_),fun _ h=>(by cases h),by show _=(l.vs.set _ _).length;rw[List.length_set];exact h.rl,h.rg⟩
   ·have h1:=gi (w:=w) hv (aH.new (⟨1, -1,0⟩::l.waiting))
    have h2:=h.n w hw
    have hmw:may w ⟨1, -1,0⟩=false:=by
     unfold may
     have:¬(-1:Int)=w:=by omega
     simp[this]
    rw[CY,List.countP_cons,hmw,hh] at h1
    unfold xJ at h2 ⊢
    simp only[List.countP_nil] at h1 h2 ⊢
    simp only[Bool.false_eq_true,if_false] at h1
    omega
   ·rcases List.mem_cons.1 he with rfl | he
    ·intro h;exact absurd h (by show ¬(0:Int)<0;omega)
    ·exact h.w e he
  ·rw[if_neg hm];exact h
theorem Pk.cI{l:Lib}(h:Pk l)(p:Int):Pk (l.cI p).2:=by
 cases hh:l.has p with
 | false=>rw[jq hh];exact h
 | true =>
  obtain⟨i,v,rfl,hv, -⟩:=iq hh
  rw[ij hh hv]
  refine Pk.xk (fun w hw=>?_) (gW h.v Jc) h.w (vz (h.v v (List.mem_of_getElem? hv))) (by show _=(l.vs.set i _).length;rw[List.length_set];exact h.rl) h.rg
  have h1:=gi (w:=w) hv aH.z
  have h2:=h.n w hw
  rw[MQ] at h1
  rw[Bh hw]
  unfold xJ at h2 ⊢
  simp only at h2 ⊢
  omega
theorem Pk.preempt{l:Lib}(h:Pk l)(p:Int):Pk (l.preempt p).2:=by
 cases hh:l.has p with
 | false=>rw[jO hh];exact h
 | true =>
  obtain⟨i,v,rfl,hv, -⟩:=iq hh
  rw[iO hh hv]
  exact h.set hv (xK (h.v v (List.mem_of_getElem? hv)) fun _ h=>(by cases h)) fun w hw=>by rw[D6 hw];rfl
end Go.SLYtpbjdoplfgeliaaGreat
namespace Go.SLYtpbjdoplfgeliaaGreat
open Go Go.RowKit
section
variable{l:Lib}{i:Nat}{v x:aH}{s':Spc}{e:lG}{n:Int}{b:Bool}
theorem Pk.zn(h:Pk l)(q:Jd l.aI s' e n)(hv:l.vs[i]?=some v)(hx:fq x)(hn:∀ w,0≤w→jR w x+(if ¬e.cq=true∧w=n then 1 else 0)=jR w v):Pk ((⟨s',l.rows,l.vs.set i x,l.waiting,b⟩:Lib).tell (aG e.av)):=by
 refine Pk.xk (fun w hw=>?_) (gW h.v hx) h.w (gV _) (by show _=(l.vs.set i x).length;rw[List.length_set];exact h.rl) h.rg
 have h1:=gi (w:=w) hv x
 have h2:=h.n w hw
 have h3:=hn w hw
 have h4:=q.q w
 rw[jj]
 unfold xJ at h2 ⊢
 simp only at h2 ⊢
 omega
theorem Pk.Lr(h:Pk l)(q:Jd l.aI s' e n):(∀ y∈e.av,rowN y l.rows=0):=fun y hy=>(h.MS (q.z y hy).1 (q.z y hy).2).1
theorem Pk.CZ(h:Pk l)(q:Jd l.aI s' e n)(hv:l.vs[i]?=some v)(hx:fq x)(hn:∀ w,0≤w→jR w x+(if ¬e.cq=true∧w=n then 1 else 0)=jR w v):Pk ⟨s',eb l.rows (i:Int) e.av,l.vs.set i x,l.waiting,b⟩:=by
 have hil:=(List.getElem?_eq_some_iff.1 hv).1
 refine⟨fun w hw=>?_,gW h.v hx,h.w,by show(eb _ _ _).length=(l.vs.set i x).length;rw[List.length_set,fQ];exact h.rl,nu h.rg fun t ht=>(q.z t ht).1⟩
 have h1:=gi (w:=w) hv x
 have h2:=h.n w hw
 have h3:=hn w hw
 have h4:=q.q w
 have h5:=Jb (i:=i) (by rw[h.rl];exact hil) (h.Lr q) q.c w
 unfold xJ at h2 ⊢
 simp only at h2 ⊢
 omega
theorem Pk.D8(h:Pk l)(q:Jd l.aI s' e n)(hg:e.cq=true)(h0:0≤n)(hv:l.vs[i]?=some v)(hx:fq x)(hn:∀ w,0≤w→jR w x+(if n=w then 1 else 0)=jR w v):Pk ⟨s',eb (eb l.rows (i:Int) e.av) (i:Int) [n],l.vs.set i x,l.waiting,b⟩:=by
 have hil:=(List.getElem?_eq_some_iff.1 hv).1
 have hr1:i<l.rows.length:=by rw[h.rl];exact hil
 have hA:=Jb (i:=i) hr1 (h.Lr q) q.c
 have hn0:=hn n h0
 rw[if_pos rfl] at hn0
 have hpn:=h.n n h0
 have hsl:=D7 (w:=n) hv
 have hrn:=vB l.aI n
 have hrow:rowN n l.rows=0∧c0 l.aI n=1:=by unfold xJ at hpn;omega
 have hwn:e.av.count n=0:=by
  rw[List.count_eq_zero]
  intro hm
  have:=(q.z n hm).2
  omega
 have hrow2:rowN n (eb l.rows (i:Int) e.av)=0:=by rw[hA];omega
 refine⟨fun w hw=>?_,gW h.v hx,h.w,by show(eb _ _ _).length=(l.vs.set i x).length;rw[List.length_set,fQ,fQ];exact h.rl,nu (nu h.rg fun t ht=>(q.z t ht).1) fun t ht=>by rw[List.mem_singleton.1 ht];exact h0⟩
 have h1:=gi (w:=w) hv x
 have h2:=h.n w hw
 have h3:=hn w hw
 have h4:=q.q w
 rw[if_neg (fun y=>y.1 hg)] at h4
 have h5:=D5 (i:=i) (t:=n) (by rw[fQ];exact hr1) hrow2 w
 have h6:=hA w
 show xJ w ⟨s',rAdd (eb l.rows (i:Int) e.av) (i:Int) n,l.vs.set i x,l.waiting,b⟩=_
 unfold xJ at h2 ⊢
 simp only at h2 ⊢
 omega
end
theorem rA{p:Ev→Bool}{l:List Ev}{x:Ev}{r:List Ev}(h:evWithin l=some (x,r)):l.countP p=r.countP p+(if p x=true then 1 else 0)∧x∈l∧(∀ y∈r,y∈l)∧0<x.mode:=by
 unfold evWithin at h
 split at h
 ·cases h
 ·split at h
  ·cases h
  ·rename_i h0 y e2
   cases h
   have hx:jf x=true:=uL (l:=l) (k:=0) (i:=(idxP jf l 0).toNat) (by omega) e2
   have e:l.take (idxP jf l 0).toNat++x::l.drop ((idxP jf l 0).toNat+1)=l:=by rw[← drop_cons e2,List.take_append_drop]
   have h1:=congrArg (List.countP p) e
   rw[List.countP_append,List.countP_cons] at h1
   refine⟨by rw[List.countP_append];omega,List.mem_of_getElem? e2,fun y hy=>?_,of_decide_eq_true hx⟩
   rcases List.mem_append.1 hy with hy | hy
   ·exact List.mem_of_mem_take hy
   ·exact List.mem_of_mem_drop hy
theorem fg{v:aH}(h:¬(v.mode=5∨v.mode=6∨v.mode=7)):v.runs=false:=by
 unfold aH.runs
 have h1:¬v.mode=5:=fun e=>h (.inl e)
 have h2:¬v.mode=6:=fun e=>h (.inr (.inl e))
 have h3:¬v.mode=7:=fun e=>h (.inr (.inr e))
 simp[h1,h2,h3]
theorem iS{v:aH}(g:fq v)(h:v.mode=5∨v.mode=6∨v.mode=7):v.runs=true:=by
 have ht:=g.t h
 unfold aH.runs
 rcases h with h | h | h <;> simp[h,ht]
theorem dP{w:Int}{v:aH}(h:v.runs=false):jR w v=v.evs.countP (may w):=by unfold jR;rw[h];simp
theorem jk{w:Int}{v:aH}(h:v.runs=true):jR w v=(if v.ab=w then 1 else 0)+v.evs.countP (may w):=by unfold jR;rw[h];simp
theorem Pk.enter{l:Lib}(h:Pk l){i:Nat}{v:aH}{m:Int}(hv:l.vs[i]?=some v)(hm:m=5∨m=6∨m=7↔v.mode=5∨v.mode=6∨v.mode=7):Pk (l.enter (i:Int) m):=by
 cases hl:l.locked with
 | true=>rw[qa hl];exact h
 | false =>
  rw[nJ hv hl]
  have hg:=h.v v (List.mem_of_getElem? hv)
  have hg2:fq {v with mode:=m }:=⟨hg.e,fun g=>hg.t (hm.1 g)⟩
  refine h.set (x:={v with mode:=m }) hv hg2 fun w hw=>?_
  by_cases g:v.mode=5∨v.mode=6∨v.mode=7
  ·rw[jk (iS hg g),jk (iS hg2 (hm.2 g))]
  ·rw[dP (fg g),dP (fg (v:={v with mode:=m }) (fun y=>g (hm.1 y)))]
theorem Pk.leave{l:Lib}(h:Pk l){i:Nat}{v:aH}{m t:Int}(hv:l.vs[i]?=some v)(hg:fq {v with mode:=m,ab:=t })(hn:∀ w,0≤w→jR w {v with mode:=m,ab:=t }=jR w v):Pk (l.leave (i:Int) m t):=by
 rw[iN hv]
 exact h.set hv hg hn
theorem Bi:∀ {rows rows':List (List Int)} {t:Int},rSteal rows=some (t,rows')→(∀ w,rowN w rows'+(if t=w then 1 else 0)=rowN w rows)∧ ∃ r∈rows,t∈r
 | [],_,_,h=>by cases h
 | r::rows,rows',t,h=>by
  unfold rSteal at h
  split at h
  ·rename_i t' e
   cases h
   obtain⟨r0,rfl⟩:∃ r0,r=r0++[t]:=by
    rw[List.getLast?_eq_some_iff] at e
    exact e
   refine⟨fun w=>?_,_,List.mem_cons_self ..,by simp⟩
   show(List.dropLast (r0++[t])).count w+rowN w rows+_=(r0++[t]).count w+rowN w rows
   rw[List.dropLast_concat,List.count_append,List.count_singleton]
   by_cases g:t=w
   ·rw[if_pos g,if_pos (by simpa using g)];omega
   ·rw[if_neg g,if_neg (by simpa using g)];omega
  ·split at h
   ·cases h
   ·rename_i t' r' e
    cases h
    obtain⟨h1,y,hy,hty⟩:=Bi e
    refine⟨fun w=>?_,y,List.mem_cons_of_mem _ hy,hty⟩
    have:=h1 w
    show r.count w+rowN w r'+_=r.count w+rowN w rows
    omega
theorem D9{rows rows':List (List Int)}{p t:Int}(h:rPick rows p=some (t,rows')):(∀ w,rowN w rows'+(if t=w then 1 else 0)=rowN w rows)∧ ∃ r∈rows,t∈r:=by
 unfold rPick at h
 split at h
 ·cases h
 ·rename_i u r e
  cases h
  have hr:=(ck e).2.2
  refine⟨fun w=>?_,_,List.mem_of_getElem? hr,List.mem_cons_self ..⟩
  have h1:=Bg (w:=w) hr r
  rw[List.count_cons] at h1
  by_cases g:t=w
  ·rw[if_pos g];rw[if_pos (by simpa using g)] at h1;omega
  ·rw[if_neg g];rw[if_neg (by simpa using g)] at h1;omega
 ·exact Bi h
theorem K1{rows rows':List (List Int)}{p t:Int}(h:rPick rows p=some (t,rows'))(hg:∀ r∈rows, ∀ x∈r,(0:Int)≤x):∀ r∈rows', ∀ x∈r,(0:Int)≤x:=fun r hr x hx=>by
 rcases Int.lt_or_le x 0 with g | g
 ·have h1:=(D9 h).1 x
  have h0:rowN x rows=0:=by
   have:∀ l:List (List Int),(∀ r∈l, ∀ y∈r,(0:Int)≤y)→rowN x l=0:=fun l=>by
    induction l with
    | nil=>intro _;rfl
    | cons a l ih =>
     intro hl
     show a.count x+rowN x l=0
     rw[ih fun r hr=>hl r (List.mem_cons_of_mem _ hr),List.count_eq_zero.2 fun hm=>by have:=hl a (List.mem_cons_self ..) x hm;omega]
   exact this rows hg
  have h2:1≤rowN x rows':=by
   have:∀ l:List (List Int),r∈l→1≤rowN x l:=fun l=>by
    induction l with
    | nil=>intro hm;cases hm
    | cons a l ih =>
     intro hm
     show 1≤a.count x+rowN x l
     rcases List.mem_cons.1 hm with rfl | hm
     ·have:=List.count_pos_iff.2 hx;omega
     ·have:=ih hm;omega
   exact this rows' hr
  omega
 ·exact g
end Go.SLYtpbjdoplfgeliaaGreat
namespace Go.SLYtpbjdoplfgeliaaGreat
open Go Go.RowKit
theorem Pk.step{k:Nat}{l:Lib}(h:Pk l)(hl:Lk l)(ho:gE k l.aI)(hk:k≤1990)(p c:Int):Pk (l.step p c).2.2:=by
 cases hh:l.has p with
 | false=>rw[qe hh];exact h
 | true =>
  obtain⟨i,v,rfl,hv,h0⟩:=iq hh
  have hvg:=h.v v (List.mem_of_getElem? hv)
  have hil:=(List.getElem?_eq_some_iff.1 hv).1
  by_cases h1:v.mode=1
  ·have hr:v.runs=false:=fg (by omega)
   rw[sQ hh hv h1]
   show Pk (l.upcall (i:Int) c).2
   cases hw:evWithin v.evs with
   | none=>rw[nK hv (by rw[hw];rfl)];exact h.enter hv (by omega)
   | some z =>
    rw[lV hv (by rw[hw];rfl)]
    have hE:wE v.evs=z.1:=by unfold wE;rw[hw]
    have hR:wR v.evs=z.2:=by unfold wR;rw[hw]
    rw[hE,hR]
    obtain⟨-,hzm,hzs,hz0⟩:=rA (p:=may 0) (x:=z.1) (r:=z.2) hw
    have hc:=fun w=>(rA (p:=may w) (x:=z.1) (r:=z.2) hw).1
    have hxg:fq {v with evs:=z.2 }:=⟨fun e he=>hvg.e e (hzs e he),fun g=>by have:v.mode=5∨v.mode=6∨v.mode=7:=g;omega⟩
    have hxr:aH.runs {v with evs:=z.2 }=false:=hr
    have hpl:∀ w,jR w {v with evs:=z.2 }+(if may w z.1=true then 1 else 0)=jR w v:=fun w=>by
     rw[dP hr,dP hxr,hc w]
    have hgz:=hvg.e z.1 hzm hz0
    by_cases hm:z.1.mode=7
    ·have ht:0≤z.1.ab:=by rcases hgz with g | g;exact g.2;exact absurd hm g.1
     have hmay:∀ w,(may w z.1=true)↔z.1.ab=w:=fun w=>by unfold may;simp[hz0]
     have q:=MR ho hk z.1.ab c
     by_cases hg:(l.aI.run z.1.ab c).1.cq=true
     ·rw[lU hv hm hg]
      exact h.D8 q hg ht hv hxg fun w _=>by
       have:=hpl w
       by_cases e:z.1.ab=w
       ·rw[if_pos e];rw[if_pos ((hmay w).2 e)] at this;exact this
       ·rw[if_neg e];rw[if_neg (fun y=>e ((hmay w).1 y))] at this;exact this
     ·rw[jg hv hm hg]
      exact h.CZ q hv hxg fun w _=>by
       have:=hpl w
       by_cases e:z.1.ab=w
       ·rw[if_pos ⟨hg,e.symm⟩];rw[if_pos ((hmay w).2 e)] at this;exact this
       ·rw[if_neg (fun y=>e y.2.symm)];rw[if_neg (fun y=>e ((hmay w).1 y))] at this;exact this
    ·rw[lT hv hm]
     refine h.set (x:={v with evs:=z.2 }) hv hxg fun w hw0=>?_
     have:=hpl w
     have ht:z.1.ab<0:=by rcases hgz with g | g;exact absurd g.1 hm;exact g.2
     rw[if_neg (fun y=>by unfold may at y;simp only[Bool.and_eq_true,decide_eq_true_eq] at y;omega)] at this
     exact this
  by_cases h2:v.mode=2
  ·have hr:v.runs=false:=fg (by omega)
   rw[sR hh hv h2]
   cases he:v.evs with
   | nil =>
    rw[lW hv he]
    exact h.leave hv ⟨hvg.e,fun g=>by have:(3:Int)=5∨(3:Int)=6∨(3:Int)=7:=g;omega⟩ fun w _=>by
     rw[dP hr,dP (fg (v:={v with mode:=3,ab := -1 }) (by show ¬((3:Int)=5∨(3:Int)=6∨(3:Int)=7);omega))]
   | cons e r =>
    have hn:v.holds=true:=by unfold aH.holds;rw[h2];rfl
    have hi1:na v=1+v.evs.countP jf:=by unfold na;rw[hn];simp
    obtain⟨-,h3⟩:=hl.one hv (by omega)
    have hem:¬ 0<e.mode:=fun g=>by
     have:jf e=true:=decide_eq_true g
     rw[he,List.countP_cons,this] at hi1
     simp only[if_true] at hi1
     omega
    have hxg:fq {v with evs:=r }:=⟨fun y hy=>hvg.e y (by rw[he];exact List.mem_cons_of_mem _ hy),fun g=>by have:v.mode=5∨v.mode=6∨v.mode=7:=g;omega⟩
    have hxr:aH.runs {v with evs:=r }=false:=hr
    have hpl:∀ w,jR w {v with evs:=r }+(if may w e=true then 1 else 0)=jR w v:=fun w=>by
     rw[dP hr,dP hxr,he,List.countP_cons]
    by_cases hrn:dE e=true
    ·rw[nL hv he hrn]
     have hrn2:=hrn
     unfold dE at hrn2
     simp only[Bool.and_eq_true,Bool.or_eq_true,decide_eq_true_eq] at hrn2
     have hmay:∀ w,(may w e=true)↔e.ab=w:=fun w=>by
      unfold may
      simp only[Bool.and_eq_true,Bool.or_eq_true,decide_eq_true_eq]
      constructor
      ·exact fun g=>g.1
      ·exact fun g=>⟨g,hrn2.2.elim (fun x=>.inl (.inr x)) fun x=>.inr x⟩
     have hvt:=hpl e.ab
     rw[if_pos ((hmay _).2 rfl)] at hvt
     have hpn:=h.n e.ab hrn2.1.1
     have hsl:=D7 (w:=e.ab) hv
     have hrd:=vB l.aI e.ab
     have hrow:rowN e.ab l.rows=0:=by unfold xJ at hpn;omega
     refine⟨fun w hw=>?_,gW h.v hxg,h.w,by show(eb _ _ _).length=(l.vs.set i _).length;rw[List.length_set,fQ];exact h.rl,nu h.rg fun t ht=>by rw[List.mem_singleton.1 ht];exact hrn2.1.1⟩
     have g1:=gi (w:=w) hv {v with evs:=r }
     have g2:=h.n w hw
     have g3:=hpl w
     have g4:=D5 (i:=i) (t:=e.ab) (by rw[h.rl];exact hil) hrow w
     show xJ w ⟨l.aI,rAdd l.rows (i:Int) e.ab,l.vs.set i {v with evs:=r },l.waiting,l.locked⟩=_
     unfold xJ at g2 ⊢
     simp only at g2 ⊢
     by_cases ht:e.ab=w
     ·rw[if_pos ht] at g4;rw[if_pos ((hmay w).2 ht)] at g3;omega
     ·rw[if_neg ht] at g4;rw[if_neg (fun y=>ht ((hmay w).1 y))] at g3;omega
    ·rw[lX hv he hrn]
     refine h.set (x:={v with evs:=r }) hv hxg fun w hw0=>?_
     have:=hpl w
     rw[if_neg (fun y=>by
      unfold may at y
      unfold dE at hrn
      simp only[Bool.and_eq_true,Bool.or_eq_true,decide_eq_true_eq] at y hrn
      refine hrn ⟨⟨by omega,by omega⟩,?_⟩
      rcases y.2 with (g | g) | g
      ·exact absurd g hem
      ·exact .inl g
      ·exact .inr g)] at this
     exact this
  have hev:=hl.run hv h1 h2
  by_cases h3:v.mode=3
  ·rw[sS hh hv h3];exact h.enter hv (by omega)
  by_cases h4:v.mode=4
  ·have hr:v.runs=false:=fg (by omega)
   rw[sT hh hv h4]
   cases hp:rPick l.rows (i:Int) with
   | none =>
    rw[(qc (by rw[hp];rfl)).1]
    exact h.leave hv ⟨hvg.e,fun g=>by have:(8:Int)=5∨(8:Int)=6∨(8:Int)=7:=g;omega⟩ fun w _=>by
     rw[dP hr,dP (fg (v:={v with mode:=8,ab := -1 }) (by show ¬((8:Int)=5∨(8:Int)=6∨(8:Int)=7);omega))]
   | some z =>
    rw[nM (by rw[hp];rfl),(js (t:=z.1) (rows':=z.2) hp).1,(js (t:=z.1) (rows':=z.2) hp).2]
    rw[iN (l:={l with rows:=z.2 }) hv]
    obtain⟨hpn,r0,hr0,ht0⟩:=D9 (t:=z.1) (rows':=z.2) hp
    have ht:=h.rg r0 hr0 z.1 ht0
    have hxg:fq {v with mode:=5,ab:=z.1 }:=⟨hvg.e,fun _=>ht⟩
    refine⟨fun w hw=>?_,gW h.v hxg,h.w,by show z.2.length=(l.vs.set i _).length;rw[List.length_set,(wY (t:=z.1) (rows':=z.2) hp).1];exact h.rl,K1 (t:=z.1) (rows':=z.2) hp h.rg⟩
    have g1:=gi (w:=w) hv {v with mode:=5,ab:=z.1 }
    have g2:=h.n w hw
    have g3:=hpn w
    rw[dP hr,jk (iS hxg (.inl rfl))] at g1
    unfold xJ at g2 ⊢
    simp only at g1 g2 ⊢
    omega
  by_cases h5:v.mode=5
  ·have hr:v.runs=true:=iS hvg (.inl h5)
   have hpv:∀ w,jR w v=if v.ab=w then 1 else 0:=fun w=>by rw[jk hr,hev];rfl
   have q:=MR ho hk v.ab c
   rw[sU hh hv h5]
   show Pk (l.gR (i:Int) c).2
   by_cases hc:l.aI.class v.ab=2
   ·rw[lY hv hc]
    have hxg:fq {v with mode:=6 }:=⟨hvg.e,fun _=>hvg.t (.inl h5)⟩
    exact h.set (x:={v with mode:=6 }) hv hxg fun w _=>by rw[jk hr,jk (iS hxg (.inr (.inl rfl)))]
   ·by_cases hs:(l.aI.run v.ab c).1.aQ=true
    ·rw[nN hv hc hs]
     have hg:¬(l.aI.run v.ab c).1.cq=true:=qz.2 (.inl hs)
     refine(show Pk ((⟨(l.aI.run v.ab c).2.2,l.rows,l.vs.set i (aH.new [⟨2,v.ab,0⟩]),l.waiting,l.locked⟩:Lib).tell (aG (l.aI.run v.ab c).1.av)) from Pk.zn (l:=l) h q hv (x:=aH.new [⟨2,v.ab,0⟩]) (vA fun e he=>by
      rw[List.mem_singleton.1 he];intro g;exact absurd g (by show ¬(0:Int)<0;omega)) fun w _=>?_)
     have hz:jR w (aH.new [⟨2,v.ab,0⟩])=0:=by
      rw[CY,List.countP_cons,List.countP_nil]
      have:may w ⟨2,v.ab,0⟩=false:=by unfold may;simp
      rw[this];rfl
     rw[hz,hpv w]
     by_cases e:v.ab=w
     ·rw[if_pos ⟨hg,e.symm⟩,if_pos e]
     ·rw[if_neg (fun y=>e y.2.symm),if_neg e]
    ·by_cases he:(l.aI.run v.ab c).1.ended=true
     ·rw[qd hv hc hs he]
      have hg:¬(l.aI.run v.ab c).1.cq=true:=qz.2 (.inr he)
      refine(show Pk ((⟨(l.aI.run v.ab c).2.2,l.rows,l.vs.set i {v with mode:=3,ab := -1 },l.waiting,l.locked⟩:Lib).tell (aG (l.aI.run v.ab c).1.av)) from Pk.zn (l:=l) h q hv (x:={v with mode:=3,ab := -1 }) ⟨hvg.e,fun g=>by have:(3:Int)=5∨(3:Int)=6∨(3:Int)=7:=g;omega⟩ fun w _=>?_)
      have hz:jR w {v with mode:=3,ab := -1 }=0:=by
       rw[dP (fg (v:={v with mode:=3,ab := -1 }) (by show ¬((3:Int)=5∨(3:Int)=6∨(3:Int)=7);omega))]
       show v.evs.countP (may w)=0
       rw[hev];rfl
      rw[hz,hpv w]
      by_cases e:v.ab=w
      ·rw[if_pos ⟨hg,e.symm⟩,if_pos e]
      ·rw[if_neg (fun y=>e y.2.symm),if_neg e]
     ·rw[nO hv hc hs he]
      have hg:(l.aI.run v.ab c).1.cq=true:=by unfold lG.cq;simp[hs,he]
      have:=Pk.zn h q hv (b:=l.locked) hvg fun w _=>by rw[if_neg (fun y=>y.1 hg)];rfl
      rw[gP hv] at this
      exact this
  by_cases h6:v.mode=6
  ·rw[sV hh hv h6];exact h.enter hv (by omega)
  by_cases h7:v.mode=7
  ·have hr:v.runs=true:=iS hvg (.inr (.inr h7))
   have hpv:∀ w,jR w v=if v.ab=w then 1 else 0:=fun w=>by rw[jk hr,hev];rfl
   have q:=MR ho hk v.ab c
   have hx3:fq {v with mode:=3,ab := -1 }:=⟨hvg.e,fun g=>by have:(3:Int)=5∨(3:Int)=6∨(3:Int)=7:=g;omega⟩
   have hz:∀ w,jR w {v with mode:=3,ab := -1 }=0:=fun w=>by
    rw[dP (fg (v:={v with mode:=3,ab := -1 }) (by show ¬((3:Int)=5∨(3:Int)=6∨(3:Int)=7);omega))]
    show v.evs.countP (may w)=0
    rw[hev];rfl
   rw[sW hh hv h7]
   show Pk (l.inside (i:Int) c).2
   by_cases hg:(l.aI.run v.ab c).1.cq=true
   ·by_cases hy:(l.aI.run v.ab c).1.yielded=true
    ·rw[jh hv hg hy]
     show Pk (Lib.leave _ _ _ _)
     rw[iN (l:=((l.aJ v.ab c).2.fE (i:Int) (l.aI.run v.ab c).1.av).fE (i:Int) [v.ab]) hv]
     exact h.D8 q hg (hvg.t (.inr (.inr h7))) hv hx3 fun w _=>by rw[hz w,hpv w,Nat.zero_add]
    ·rw[nP hv hg hy]
     show Pk (Lib.leave _ _ _ _)
     rw[iN (l:=(l.aJ v.ab c).2.fE (i:Int) (l.aI.run v.ab c).1.av) hv]
     have hx5:fq {v with mode:=5,ab:=v.ab }:=⟨hvg.e,fun _=>hvg.t (.inr (.inr h7))⟩
     exact h.CZ q hv hx5 fun w _=>by
      rw[if_neg (fun y=>y.1 hg),jk hr,jk (iS hx5 (.inl rfl))];rfl
   ·rw[lZ hv hg]
    show Pk (Lib.leave _ _ _ _)
    rw[iN (l:=(l.aJ v.ab c).2.fE (i:Int) (l.aI.run v.ab c).1.av) hv]
    exact h.CZ q hv hx3 fun w _=>by
     rw[hz w,hpv w]
     by_cases e:v.ab=w
     ·rw[if_pos ⟨hg,e.symm⟩,if_pos e]
     ·rw[if_neg (fun y=>e y.2.symm),if_neg e]
  by_cases h8:v.mode=8
  ·cases he:im l.rows with
   | true=>rw[qf hh hv h8 he];exact h
   | false =>
    rw[qg hh hv h8 he]
    have hx3:fq {v with mode:=3 }:=⟨hvg.e,fun g=>by have:(3:Int)=5∨(3:Int)=6∨(3:Int)=7:=g;omega⟩
    exact h.set (x:={v with mode:=3 }) hv hx3 fun w _=>by
     rw[dP (fg (v:=v) (by omega)),dP (fg (v:={v with mode:=3 }) (by show ¬((3:Int)=5∨(3:Int)=6∨(3:Int)=7);omega))]
  ·rw[sX hh hv ⟨h1,h2,h3,h4,h5,h6,h7,h8⟩];exact h
theorem Pk.cF{k:Nat}{l:Lib}(h:Pk l)(ho:gE k l.aI):Pk l.cF:=by
 obtain⟨-,h1, -, -, -, -, -⟩:=ho.1.wQ ho.2.2
 refine Pk.xk (fun w hw=>?_) h.v h.w (gV _) h.rl h.rg
 rw[jj]
 have h2:=h.n w hw
 have h3:=h1 w
 show xJ w l+_=c0 l.aI.tick.2 w
 rw[h3,h2];rfl
theorem Pk.fG{k:Nat}{l:Lib}(h:Pk l)(ho:gE k l.aI)(c:Int):Pk (l.fG c):=by
 obtain⟨-,h1, -, -,hs,he, -, -⟩:=ho.1.ob ho.2.2 (c:=c)
 refine Pk.xk (fun w hw=>?_) h.v h.w (gV _) h.rl h.rg
 rw[jj]
 have h2:=h.n w hw
 have h3:=h1 w
 rw[hs,he] at h3
 simp only[Bool.false_eq_true,or_self,if_false,Nat.add_zero] at h3
 show xJ w l+_=c0 (l.aI.done c).2.2 w
 rw[h3,h2]
theorem Pk.new(s:Spc)(p:Int):Pk (Lib.new s p):=by
 have hz:∀ (w:Int) n,sumP w (List.replicate n aH.z)=0:=fun w n=>by
  induction n with
  | zero=>rfl
  | succ n ih=>rw[List.replicate_succ,sumP,ih,MQ]
 have hr:∀ (w:Int) n,rowN w (List.replicate n [])=0:=fun w n=>by
  induction n with
  | zero=>rfl
  | succ n ih=>rw[List.replicate_succ,rowN,ih];rfl
 refine⟨fun w hw=>?_,fun v hv=>by rw[(List.mem_replicate.1 hv).2];exact Jc,gV _,by show(List.replicate _ _).length=(List.replicate _ _).length;rw[List.length_replicate,List.length_replicate],fun r hr t ht=>by rw[(List.mem_replicate.1 hr).2] at ht;cases ht⟩
 show rowN w (List.replicate _ _)+sumP w (List.replicate _ _)+(aG s.ready).countP (may w)=c0 s w
 rw[hz,hr,jj,ke];omega
end Go.SLYtpbjdoplfgeliaaGreat
namespace Go.SLYtpbjdoplfgeliaaGreat
open Go Go.RowKit
def PU(f:Int→Nat):List Int:=(List.range 16).map fun(w:Nat)=>((f (w:Int):Nat):Int)
def MT(v:aH)(w:Int):Nat:=if v.runs=true∧v.ab=w then 1 else 0
def MU(l:Lib):Nat→Int→Nat
 | 0,_=>0
 | q+1,w=>MU l q w+MT (eN l (q:Int)) w+(l.rows.getD q []).count w
theorem fj.fG{k:Nat}{l:Lib}(h:fj k l)(c:Int):fj (k+1) (l.fG c):=by
 have h0:aD 0 0 l ({l with aI:=(l.aI.done c).2.2 }:Lib):=⟨rfl,rfl,Nat.le_refl _,fun _ h=>h⟩
 have h1:=oQ l.aI c
 have h2:=gh (l.aI.done c).1.av
 refine h.of ((h0.trans (aD.tell _ _)).le (by omega) (by omega)) ?_
 show gE (k+2) (Lib.tell _ _).aI
 rw[(dB _ _).1.aI]
 exact h.sp.done c
theorem Lk.fG{l:Lib}(h:Lk l)(c:Int):Lk (l.fG c):=Lk.tell h.same (fR _)
end Go.SLYtpbjdoplfgeliaaGreat
namespace Go.SLYtpbjdoplfgeliaaGreat
open Go Go.RowKit
theorem Bj{w:Int}(hw:0≤w)(l:List Ev):jc l w=l.countP (may w):=by
 unfold jc
 rw[← List.countP_eq_length_filter]
 refine List.countP_congr fun e _=>?_
 unfold yR may dE
 simp only[Bool.and_eq_true,Bool.or_eq_true,decide_eq_true_eq]
 constructor
 ·rintro⟨h,(⟨-,g⟩ | g)⟩
  ·exact⟨h,g.elim (fun x=>.inl (.inr x)) .inr⟩
  ·exact⟨h,.inl (.inl g)⟩
 ·rintro⟨h,g⟩
  refine⟨h,?_⟩
  by_cases hm:0<e.mode
  ·exact .inr hm
  ·exact .inl ⟨⟨by omega,by omega⟩,by omega⟩
theorem Bk{t:Int}:∀ {rows:List (List Int)},rowN t rows≤1→(if yO rows t=true then 1 else 0)=rowN t rows
 | [],_=>rfl
 | r::rows,h=>by
  unfold rowN at h ⊢
  have h2:=Bk (t:=t) (rows:=rows) (by omega)
  unfold yO at h2 ⊢
  rw[List.any_cons]
  by_cases hc:t∈r
  ·have:=List.count_pos_iff.2 hc
   rw[List.contains_eq_mem,decide_eq_true hc]
   simp only[Bool.true_or,if_true]
   omega
  ·have hz:=List.count_eq_zero.2 hc
   rw[List.contains_eq_mem,decide_eq_false hc,hz,Bool.false_or,h2,Nat.zero_add]
theorem vC{l:Lib}{w:Int}(hw:0≤w)(p:Int):(df l w p).length=jR w (eN l p):=by
 unfold df jR
 rw[List.length_append,List.length_replicate,Bj hw]
 split <;> simp
theorem xL{l:Lib}{w:Int}(hw:0≤w)(hz:∀ v∈l.vs,v.mode=0→jR w v=0):∀ (k:Nat),k≤l.vs.length→((procsFrom (l.vs.drop (l.vs.length-k)) (l.vs.length-k)).flatMap (df l w)).length=sumP w (l.vs.drop (l.vs.length-k))
 | 0,_=>by rw[Nat.sub_zero,List.drop_length];rfl
 | k+1,hk=>by
  obtain⟨v,hv⟩:=ai (show l.vs.length - (k+1)<l.vs.length by omega)
  have ih:=xL hw hz k (by omega)
  have e:l.vs.length-k=l.vs.length-(k+1)+1:=by omega
  rw[e] at ih
  rw[drop_cons hv,procsFrom]
  show _=jR w v+sumP w _
  by_cases hm:v.mode=0
  ·rw[if_pos hm,ih,hz v (List.mem_of_getElem? hv) hm];omega
  ·rw[if_neg hm,List.flatMap_cons,List.length_append,ih,vC hw]
   have:eN l ((l.vs.length-(k+1):Nat):Int)=v:=uD (by unfold Lib.has;rw[aV,hv];simp[hm]) hv
   rw[this]
theorem rB{l:Lib}(h:Pk l)(hl:Lk l){w:Int}(hw:0≤w):(placeOf l w).length=c0 l.aI w:=by
 have hn:=h.n w hw
 have hr:=vB l.aI w
 have hs:=xL (l:=l) hw (fun v hv hm=>by
  obtain⟨i,hi⟩:=List.mem_iff_getElem?.1 hv
  rw[dP (fg (v:=v) (by omega)),hl.run hi (by omega) (by omega)];rfl) l.vs.length (Nat.le_refl _)
 rw[Nat.sub_self,List.drop_zero] at hs
 unfold placeOf
 rw[List.length_append,List.length_append,List.length_replicate,Bj hw,kU]
 unfold xJ at hn
 have hrow:=Bk (t:=w) (rows:=l.rows) (by omega)
 have hw2:(if yO l.rows w=true then [(⟨2,(whereFrom w l.rows 0).1⟩:HT)] else []).length=rowN w l.rows:=by
  rw[← hrow];split <;> rfl
 rw[hw2]
 show(l.procs.flatMap (df l w)).length+_+_=_
 rw[show l.procs=procsFrom l.vs 0 from rfl,hs]
 omega
/-! the whole system -/
structure vD(i:Nat)(s:Sy):Prop where
 b:zq i s
 k:∀ l∈s.k.libs,Lk l
 p:∀ l∈s.k.libs,Pk l
theorem vE{Q:Lib→Prop}{ls:List Lib}{j:Nat}{x:Lib}(h:∀ l∈ls,Q l)(hx:Q x):∀ l∈ls.set j x,Q l:=fun l hl=>by
 rcases List.mem_or_eq_of_mem_set hl with hl | rfl
 ·exact h l hl
 ·exact hx
theorem FV{Q:Lib→Prop}{m:Nat}{k:Krn}(hk:o0 m k)(p c:Int)(h:∀ l∈k.libs,Q l)(hs:∀ l∈k.libs, ∀ p,Q (l.step p c).2.2):∀ l∈(k.step p c).2.libs,Q l:=by
 by_cases e:dx k p=0
 ·obtain⟨i,j,l,rfl,ho,hl, -⟩:=dz hk e
  rw[iP ho hl]
  exact vE h (hs l (List.mem_of_getElem? hl) _)
 ·rw[gF e];exact h
theorem Je{Q:Lib→Prop}{m:Nat}{k:Krn}(hk:o0 m k)(p:Int)(h:∀ l∈k.libs,Q l)(hs:∀ l∈k.libs, ∀ p,Q (l.preempt p).2):∀ l∈(k.preempt p).2.libs,Q l:=by
 by_cases e:dx k p=0
 ·obtain⟨i,j,l,rfl,ho,hl, -⟩:=dz hk e
  rw[qj ho hl]
  exact vE h (hs l (List.mem_of_getElem? hl) _)
 ·rw[ng e];exact h
theorem FW{Q:Lib→Prop}{k:Krn}(n c:Int)(h:∀ l∈k.libs,Q l)(hs:∀ l∈k.libs,Q (l.fG c)):∀ l∈(k.done n c).2.libs,Q l:=by
 unfold Krn.done
 cases e:aL k.libs n with
 | none=>exact h
 | some l=>exact vE h (hs l (List.mem_of_getElem? (ck e).2.2))
theorem vD.do{i:Nat}{s:Sy}(h:vD i s)(hi:i≤400)(x:oo):vD (i+1) (s.do x).2:=by
 have hb:=h.b.do hi x
 have ho:∀ l∈s.k.libs,gE (i+2) l.aI:=fun l hl=>(h.b.k.gy l hl).sp
 have key:(∀ l∈(s.do x).2.k.libs,Lk l∧Pk l):=by
  have hq:∀ l∈s.k.libs,Lk l∧Pk l:=fun l hl=>⟨h.k l hl,h.p l hl⟩
  unfold Sy.do
  split
  ·exact FV (Q:=fun l=>Lk l∧Pk l) h.b.k.ok x.a x.b hq fun l hl p=>⟨(h.k l hl).step p x.b,(h.p l hl).step (h.k l hl) (ho l hl) (by omega) p x.b⟩
  ·split
   ·intro l hl
    obtain⟨y,hy,rfl⟩:=List.mem_map.1 hl
    exact⟨(h.k y hy).cF,(h.p y hy).cF (ho y hy)⟩
   ·split
    ·exact FW (Q:=fun l=>Lk l∧Pk l) x.a x.b hq fun l hl=>⟨(h.k l hl).fG _,(h.p l hl).fG (ho l hl) _⟩
    ·split
     ·exact Je (Q:=fun l=>Lk l∧Pk l) h.b.k.ok x.a hq fun l hl p=>⟨(h.k l hl).preempt p,(h.p l hl).preempt p⟩
     ·split
      ·exact hq
      ·split
       ·exact nQ (Q:=fun l=>Lk l∧Pk l) (fun l p g=>⟨g.1.dq p,g.2.dq g.1 p⟩) (fun l p g=>⟨g.1.cI p,g.2.cI p⟩) _ _ hq
       ·exact hq
 exact⟨hb,fun l hl=>(key l hl).1,fun l hl=>(key l hl).2⟩
theorem vD.new{procs:Int}{ps:List gn}(h:dF procs ps=0)(hw:∀ p∈ps, ∀ f∈p.funcs, ∀ i∈f,fK i.n):vD 0 (Sy.new procs ps):=by
 have key:∀ l∈(Sy.new procs ps).k.libs,Lk l∧Pk l:=nQ (Q:=fun l=>Lk l∧Pk l) (fun l p g=>⟨g.1.dq p,g.2.dq g.1 p⟩) (fun l p g=>⟨g.1.cI p,g.2.cI p⟩) _ _ fun l hl=>by
  obtain⟨p, -,rfl⟩:=List.mem_map.1 hl
  exact⟨Lk.new _ _,Pk.new _ _⟩
 exact⟨zq.new h hw,fun l hl=>(key l hl).1,fun l hl=>(key l hl).2⟩
theorem vD.Pd{i:Nat}{s:Sy}(h:vD i s)(hi:i≤400):O8 s.k:=⟨fun l hl=>by
 have:=(h.b.k.gy l hl).sz (by omega) (by omega)
 exact⟨this.ev,this.wt,this.rl,this.rw⟩⟩
theorem Bl{l:Lib}(h:Pk l)(hl:Lk l):∀ n,rightIn l n=true
 | 0=>rfl
 | n+1=>by
  rw[rightIn,Bl h hl n,Bool.true_and,rB h hl (by omega)]
  refine decide_eq_true ?_
  by_cases hr:(n:Int)∈l.aI.ready
  ·rw[if_pos (by rw[List.contains_eq_mem];exact decide_eq_true hr)];exact mem_ready.1 hr
  ·rw[if_neg (by rw[List.contains_eq_mem,decide_eq_false hr];simp)];exact q7.1 hr
theorem Bm{k:Krn}(h:∀ l∈k.libs,Pk l)(hl:∀ l∈k.libs,Lk l):∀ n,n≤k.libs.length→iA k n=true
 | 0,_=>rfl
 | n+1,hn=>by
  obtain⟨l,hln⟩:=ai (show n<k.libs.length by omega)
  rw[iA,Bm h hl n (by omega),aP hln,Bl (h l (List.mem_of_getElem? hln)) (hl l (List.mem_of_getElem? hln))];rfl
theorem sk{n:Int}:∀ {o:List Int} {k i:Nat},o[i]?=some n→((k+i:Nat):Int)∈posFrom n o k
 | [],_,_,h=>by simp at h
 | x::o,k,i,h=>by
  unfold posFrom
  cases i with
  | zero =>
   obtain rfl:x=n:=by simpa using h
   rw[if_pos rfl];exact List.mem_cons_self ..
  | succ i =>
   have:=sk (o:=o) (k:=k+1) (i:=i) (by simpa using h)
   rw[show k+1+i=k+(i+1) by omega] at this
   split
   ·exact List.mem_cons_of_mem _ this
   ·exact this
theorem Jf{k:Krn}(ha:gS k){p:Nat}(hp:p<k.owner.length)(hov:∀ v∈k.owner,v = -1∨(0≤v∧v<(k.libs.length:Int))):∀ n,n≤k.libs.length→og k p n=true
 | 0,_=>rfl
 | n+1,hn=>by
  obtain⟨l,hln⟩:=ai (show n<k.libs.length by omega)
  obtain⟨o,hop⟩:=ai hp
  rw[og,Jf ha hp hov n (by omega),aP hln,Bool.true_and]
  refine decide_eq_true ?_
  have hm:l.procs.contains (p:Int)=decide (o=(n:Int)):=by
   rw[List.contains_eq_mem,ha.procs hln]
   refine decide_eq_decide.2 ⟨fun h=>?_,fun h=>?_⟩
   ·obtain⟨i,hi,hi2⟩:=yV h
    have:i=p:=by omega
    subst this
    rw[hop] at hi2
    exact Option.some.inj hi2
   ·have:=sk (k:=0) (show k.owner[p]?=some (n:Int) by rw[hop,h])
    rwa [Nat.zero_add] at this
  rw[hm]
  rcases hov o (List.mem_of_getElem? hop) with h1 | h1
  ·rw[tK (.inr (by unfold Di;rw[Int.toNat_natCast,aP hop,h1]))]
   rw[decide_eq_false (by omega)];rfl
  ·rw[qL hop (by omega)]
   simp only[Bool.true_and]
   exact decide_eq_decide.2 ⟨fun h=>h.symm,fun h=>h.symm⟩
theorem Jg{k:Krn}(ha:gS k)(hov:∀ v∈k.owner,v = -1∨(0≤v∧v<(k.libs.length:Int))):∀ p,p≤k.owner.length→oh k p=true
 | 0,_=>rfl
 | p+1,hp=>by rw[oh,Jg ha hov p (by omega),Jf ha (by omega) hov _ (Nat.le_refl _)];rfl
theorem vD.right{i:Nat}{s:Sy}(h:vD i s):kT s.k=true:=by
 unfold kT re
 rw[Bm h.p h.k _ (Nat.le_refl _),Jg h.b.k.ag h.b.k.own _ (Nat.le_refl _)];rfl
end Go.SLYtpbjdoplfgeliaaGreat
namespace Go.SLYtpbjdoplfgeliaaGreat
open Go Go.RowKit
theorem K2{l:Lib}{p:Int}(h:l.has p=true):∃ (i:Nat) (v:aH),p=(i:Int)∧l.vs[i]?=some v:=by
 obtain⟨i,v,rfl,hv⟩:=lF (qK h)
 exact⟨i,v,rfl,hv⟩
theorem C0{l:Lib}(hP:Pk l){p c:Int}(hc:(l.step p c).1.aJ=true):∃ (i:Nat) (v:aH),p=(i:Int)∧l.vs[i]?=some v∧l.has p=true∧0≤(l.step p c).1.slot∧1≤jR (l.step p c).1.slot v:=by
 unfold Lib.step at hc ⊢
 by_cases hh:l.has p=true
 ·rw[if_pos hh] at hc ⊢
  obtain⟨i,v,rfl,hv⟩:=K2 hh
  have hvv:l.v (i:Int)=v:=eV hv
  have hg:=hP.v v (List.mem_of_getElem? hv)
  rw[hvv] at hc ⊢
  have run:∀ {d:gg×Lib},d.1.slot=v.ab→(v.mode=5∨v.mode=6∨v.mode=7)→0≤d.1.slot∧1≤jR d.1.slot v:=fun {d} h1 h2=>by
   rw[h1]
   exact⟨hg.t h2,K0 (iS hg h2)⟩
  refine⟨i,v,rfl,hv,hh,?_⟩
  by_cases h1:v.mode=1
  ·simp only[h1,if_true] at hc ⊢
   unfold Lib.upcall at hc ⊢
   rw[hvv] at hc ⊢
   cases he:evWithin v.evs with
   | none=>rw[he] at hc;cases hc
   | some x =>
    obtain⟨x,r⟩:=x
    rw[he] at hc
    simp only at hc ⊢
    have hw:=rA (p:=may x.ab) he
    have hgx:=hg.e x hw.2.1
    unfold Lib.recover at hc ⊢
    by_cases hm:x.mode=7
    ·simp only[hm,if_true]
     show 0≤x.ab∧1≤jR x.ab v
     have h0:0≤x.ab:=by
      rcases hgx (by omega) with h | h
      ·exact h.2
      ·exact absurd hm h.1
     refine⟨h0,?_⟩
     have:may x.ab x=true:=by unfold may;simp[hm]
     rw[if_pos this] at hw
     unfold jR
     omega
    ·simp only[hm,if_false] at hc
     cases hc
  ·simp only[h1,if_false] at hc ⊢
   by_cases h2:v.mode=2
   ·simp only[h2,if_true] at hc;cases hc
   ·simp only[h2,if_false] at hc ⊢
    by_cases h3:v.mode=3
    ·simp only[h3,if_true] at hc;cases hc
    ·simp only[h3,if_false] at hc ⊢
     by_cases h4:v.mode=4
     ·simp only[h4,if_true] at hc;cases hc
     ·simp only[h4,if_false] at hc ⊢
      by_cases h5:v.mode=5
      ·simp only[h5,if_true] at hc ⊢
       refine run ?_ (.inl h5)
       unfold Lib.gR at hc ⊢
       rw[hvv] at hc ⊢
       simp only at hc ⊢
       split at hc
       ·cases hc
       ·rename_i hcl
        rw[if_neg hcl];rfl
      ·simp only[h5,if_false] at hc ⊢
       by_cases h6:v.mode=6
       ·simp only[h6,if_true] at hc;cases hc
       ·simp only[h6,if_false] at hc ⊢
        by_cases h7:v.mode=7
        ·simp only[h7,if_true] at hc ⊢
         refine run ?_ (.inr (.inr h7))
         unfold Lib.inside
         rw[hvv];rfl
        ·simp only[h7,if_false] at hc
         by_cases h8:v.mode=8
         ·simp only[h8,if_true] at hc;cases hc
         ·simp only[h8,if_false] at hc;cases hc
 ·rw[if_neg hh] at hc;cases hc
theorem v8{vs:List aH}:∀ {k i:Nat} {v:aH},vs[i]?=some v→v.mode≠0→((k+i:Nat):Int)∈procsFrom vs k:=by
 induction vs with
 | nil=>intro k i v h;simp at h
 | cons x vs ih =>
  intro k i v h hm
  unfold procsFrom
  cases i with
  | zero =>
   obtain rfl:x=v:=by simpa using h
   rw[if_neg hm];exact List.mem_cons_self ..
  | succ i =>
   have:=ih (k:=k+1) (i:=i) (by simpa using h) hm
   rw[show k+1+i=k+(i+1) by omega] at this
   split
   ·exact this
   ·exact List.mem_cons_of_mem _ this
theorem vG{l:Lib}{w p:Int}:∀ q∈df l w p,q.at_=p∧(q.kind=1∨q.kind=3):=fun q hq=>by
 unfold df at hq
 rcases List.mem_append.1 hq with h | h
 ·split at h
  ·obtain rfl:=List.mem_singleton.1 h;exact⟨rfl,.inl rfl⟩
  ·cases h
 ·obtain rfl:=(List.mem_replicate.1 h).2;exact⟨rfl,.inr rfl⟩
theorem FX{l:Lib}(hP:Pk l)(hK:Lk l)(ho:l.aI.aF.length=16){p c:Int}(hc:(l.step p c).1.aJ=true):∃ (w:Nat) (q:HT),(l.step p c).1.slot=(w:Int)∧w<16∧placeOf l (w:Int)=[q]∧q.at_=p∧(q.kind=1∨q.kind=3):=by
 obtain⟨i,v,rfl,hv,hh,h0,hpl⟩:=C0 hP hc
 obtain⟨w,hw⟩:∃ w:Nat,(l.step (i:Int) c).1.slot=(w:Int):=⟨((l.step (i:Int) c).1.slot).toNat,by omega⟩
 rw[hw] at hpl
 have hlen:=rB hP hK (w:=(w:Int)) (by omega)
 have hr:=vB l.aI (w:Int)
 have hat:=vC (l:=l) (w:=(w:Int)) (by omega) (i:Int)
 rw[uD hh hv] at hat
 have hmode:v.mode≠0:=by
  unfold Lib.has at hh
  rw[aV,hv] at hh
  simpa using hh
 have hin:(i:Int)∈l.procs:=by
  have:=v8 (k:=0) hv hmode
  rwa [Nat.zero_add] at this
 obtain⟨q,hq⟩:∃ q,q∈df l (w:Int) (i:Int):=by
  cases e:df l (w:Int) (i:Int) with
  | nil=>rw[e] at hat;simp only[List.length_nil] at hat;omega
  | cons q _=>exact⟨q,List.mem_cons_self ..⟩
 have hmem:q∈placeOf l (w:Int):=by
  unfold placeOf
  exact List.mem_append_left _ (List.mem_append_left _ (List.mem_flatMap.2 ⟨_,hin,hq⟩))
 have h1:placeOf l (w:Int)=[q]:=by
  cases e:placeOf l (w:Int) with
  | nil=>rw[e] at hmem;cases hmem
  | cons a t =>
   rw[e] at hlen hmem
   simp only[List.length_cons] at hlen
   have:t=[]:=List.eq_nil_of_length_eq_zero (by omega)
   subst this
   obtain rfl:=List.mem_singleton.1 hmem
   rfl
 refine⟨w,q,hw,?_,h1,(vG q hq).1,(vG q hq).2⟩
 rw[h1] at hlen
 have hm:c0 l.aI (w:Int)=1:=hlen.symm
 rcases Nat.lt_or_ge w 16 with g | g
 ·exact g
 ·have:l.aI.at (w:Int)=none:=by
   unfold Spc.at
   rw[aV,List.getElem?_eq_none_iff.2 (by omega)];rfl
  unfold c0 at hm
  rw[this] at hm
  cases hm
end Go.SLYtpbjdoplfgeliaaGreat
namespace Go.SLYtpbjdoplfgeliaaGreat
open Go Go.RowKit
def PV:Sy:=⟨OV,[0,0],0,[]⟩
theorem vD.mP{i:Nat}{s:Sy}(h:vD i s)(x:oo):(s.do x).2.k.libs.length=s.k.libs.length:=zl h.b.k.inv x
end Go.SLYtpbjdoplfgeliaaGreat
namespace Go.SLYtpbjdoplfgeliaaGreat
open Go Go.RowKit
def Jh(l:Lib)(c:Int)(r:gg×Lib):Prop:=r.2.aI=if r.1.aJ=true then (l.aI.run r.1.slot c).2.2 else l.aI
theorem Ji(l:Lib)(p c:Int):Jh l c ((l.step p c).1,(l.step p c).2.2):=by
 unfold Lib.step
 split
 ·simp only
  split
  ·unfold Lib.upcall
   split
   ·unfold Lib.recover
    simp only
    split
    ·show Lib.aI (if _ then _ else _)=_
     split <;> rfl
    ·rfl
   ·unfold Lib.enter;split <;> rfl
  ·split
   ·unfold Lib.handle
    split
    ·rfl
    ·show Lib.aI (Lib.je (if _ then _ else _) _ _)=_
     split <;> rfl
   ·split
    ·unfold Lib.enter;split <;> rfl
    ·split
     ·unfold Lib.pick;split <;> rfl
     ·split
      ·unfold Lib.gR
       simp only
       split
       ·rfl
       ·unfold Jh
        show Lib.aI (Lib.tell _ _)=_
        rw[(dB _ _).1.aI]
        split
        ·rfl
        ·split <;> rfl
      ·split
       ·unfold Lib.enter;split <;> rfl
       ·split
        ·unfold Lib.inside
         simp only
         split
         ·split <;> rfl
         ·rfl
        ·split
         ·split <;> rfl
         ·rfl
 ·rfl
theorem qA{k:Krn}{o:List Int}{j:Nat}(x:Lib):eO ⟨o,k.libs.set j x⟩=(eO k).set j x.aI:=by unfold eO;rw[List.map_set]
theorem Bn{k:Krn}{n:Int}:aL (eO k) n=(aL k.libs n).map (·.aI):=H3
theorem xM{k:Krn}{j:Nat}{l:Lib}(h:k.libs[j]?=some l):(eO k).set j l.aI=eO k:=gP (by unfold eO;rw[List.getElem?_map,h];rfl)
structure Lt(s s':Sy)(r:List k7):Prop where
 log:s'.log=s.log++r
 one:r=[]∧eO s'.k=eO s.k∨ ∃ a,r=[a]∧oDo (eO s.k) a=(0,eO s'.k)
theorem vD.cB{i:Nat}{s:Sy}(h:vD i s)(hi:i≤400)(x:oo):∃ r,Lt s (s.do x).2 r:=by
 have hO:fF (i+2) (eO s.k):=fun t ht=>by
  obtain⟨l,hl,rfl⟩:=List.mem_map.1 ht
  exact(h.b.k.gy l hl).sp
 have none:∀ {s':Sy},s'.log=s.log→eO s'.k=eO s.k→ ∃ r,Lt s s' r:=fun h1 h2=>⟨[],by rw[List.append_nil];exact h1,.inl ⟨rfl,h2⟩⟩
 unfold Sy.do
 split
 ·by_cases e:dx s.k x.a=0
  ·obtain⟨n,j,l,hn,ho,hl, -⟩:=dz h.b.k.ok e
   have hs:=Ji l (n:Int) x.b
   unfold Jh at hs
   have hm:=List.mem_of_getElem? hl
   cases hc:(s.k.step x.a x.b).1.2.1.aJ with
   | false =>
    refine none ?_ ?_
    ·rw[vx hc]
    ·rw[vx hc]
     rw[hn,iP ho hl] at hc ⊢
     simp only at hc ⊢
     rw[qA]
     rw[hc] at hs
     rw[show(l.step (n:Int) x.b).2.2.aI=l.aI from hs]
     exact xM hl
   | true =>
    refine⟨[⟨1,(s.k.step x.a x.b).1.1,(s.k.step x.a x.b).1.2.1.slot,x.b⟩],?_,.inr ⟨_,rfl,?_⟩⟩
    ·rw[rz hc]
    ·rw[rz hc]
     rw[hn,iP ho hl] at hc ⊢
     simp only at hc ⊢
     rw[hc] at hs
     obtain⟨w,q,hw,hw16,hpl, -, -⟩:=FX (h.p l hm) (h.k l hm) (h.b.k.ok.gy l hm).th hc
     have hlen:=rB (h.p l hm) (h.k l hm) (w:=(w:Int)) (by omega)
     rw[hpl] at hlen
     have hg:aL (eO s.k) (j:Int)=some l.aI:=by rw[Bn,aV,hl];rfl
     have h0:=(H4 hO (by omega) (a:=⟨1,(j:Int),(l.step (n:Int) x.b).1.slot,x.b⟩) rfl).2 (by
      unfold oReady
      simp only
      rw[hg,hw]
      exact mem_ready.2 hlen.symm)
     refine Prod.ext h0 ?_
     rw[Kn rfl hg,qA]
     show _=(eO s.k).set j _
     rw[show(l.step (n:Int) x.b).2.2.aI=_ from hs]
     simp only[Int.toNat_natCast,if_true]
  ·refine none ?_ ?_
   ·show s.log++ko _ _=_
    rw[gF e];exact List.append_nil _
   ·show eO (s.k.step x.a x.b).2=_
    rw[gF e]
 ·split
  ·refine⟨[⟨3,0,0,0⟩],rfl,.inr ⟨_,rfl,?_⟩⟩
   unfold oDo
   rw[if_pos rfl]
   refine Prod.ext rfl ?_
   show List.map _ (eO s.k)=eO s.k.tick
   unfold eO Krn.tick
   rw[List.map_map,List.map_map]
   refine List.map_congr_left fun l hl=>?_
   show l.aI.tick.2=l.cF.aI
   unfold Lib.cF
   rw[(dB _ _).1.aI]
  ·split
   ·by_cases e:(s.k.done x.a x.b).1=0
    ·refine⟨[⟨2,x.a,0,x.b⟩],?_,.inr ⟨_,rfl,?_⟩⟩
     ·show s.log++(if _ then _ else _)=_
      rw[if_pos e]
     ·cases g:aL s.k.libs x.a with
      | none=>rw[qk g] at e;cases e
      | some l =>
       obtain⟨h0, -,hl⟩:=ck g
       obtain⟨j,hj⟩:∃ j:Nat,x.a=(j:Int):=⟨x.a.toNat,by omega⟩
       rw[hj,Int.toNat_natCast] at hl
       have hg:aL (eO s.k) (j:Int)=some l.aI:=by rw[Bn,aV,hl];rfl
       rw[hj] at e ⊢
       rw[nh hl] at e
       rw[H6 rfl hg]
       refine Prod.ext e ?_
       show _=eO (s.k.done (j:Int) x.b).2
       rw[nh hl,qA]
       unfold Lib.fG
       rw[(dB _ _).1.aI]
       simp only[Int.toNat_natCast]
    ·refine none ?_ ?_
     ·show s.log++(if _ then _ else _)=_
      rw[if_neg e,List.append_nil]
     ·show eO (s.k.done x.a x.b).2=_
      rw[FT e]
   ·split
    ·refine none rfl ?_
     show eO (s.k.preempt x.a).2=_
     by_cases e:dx s.k x.a=0
     ·obtain⟨n,j,l,hn,ho,hl, -⟩:=dz h.b.k.ok e
      rw[hn,qj ho hl,qA,m8]
      exact xM hl
     ·rw[ng e]
    ·split
     ·exact none rfl rfl
     ·split
      ·exact none rfl (dH h.b.k.inv _ _).2.aI
      ·exact none rfl rfl
structure Ea(l0:List Spc)(s:Sy):Prop where
 run:jP l0 s.log=eO s.k
 ok:∀ n a,s.log[n]?=some a→(oDo (jP l0 (s.log.take n)) a).1=0
theorem Jj(l:List Spc)(cB:List k7)(a:k7):jP l (cB++[a])=(oDo (jP l cB) a).2:=by unfold jP;rw[List.foldl_append];rfl
theorem Ea.do{l0:List Spc}{i:Nat}{s:Sy}(h:Ea l0 s)(hp:vD i s)(hi:i≤400)(x:oo):Ea l0 (s.do x).2:=by
 obtain⟨r,hl,h1⟩:=hp.cB hi x
 rcases h1 with ⟨rfl,e⟩ | ⟨a,rfl,e⟩
 ·rw[List.append_nil] at hl
  exact⟨by rw[hl,h.run,e],by rw[hl];exact h.ok⟩
 ·refine⟨by rw[hl,Jj,h.run,e],fun n b hb=>?_⟩
  rw[hl] at hb ⊢
  by_cases g:n<s.log.length
  ·rw[List.getElem?_append_left g] at hb
   rw[List.take_append_of_le_length (by omega)]
   exact h.ok n b hb
  ·have hn:n=s.log.length:=by
    have:=(List.getElem?_eq_some_iff.1 hb).1
    rw[List.length_append] at this
    simp only[List.length_cons,List.length_nil] at this
    omega
   subst hn
   rw[List.getElem?_append_right (Nat.le_refl _),Nat.sub_self] at hb
   cases hb
   rw[List.take_left,h.run,e]
theorem Ea.new{procs:Int}{ps:List gn}(h:dF procs ps=0):Ea (ps.map Spc.new) (Sy.new procs ps):=by
 refine⟨?_,fun n a hb=>by cases hb⟩
 show ps.map Spc.new=eO _
 rw[show eO (Sy.new procs ps).k=eO (Krn.new procs ps) from(dH (gU h).1 _ _).2.aI]
 unfold eO Krn.new
 simp only[List.map_map]
 refine List.map_congr_left fun p _=>?_
 rfl
def replay:List Spc→List k7→Nat→Int×Int×List Spc
 | l,[],k=>((k:Int),0,l)
 | l,a::r,k=>if (oDo l a).1=0 then replay (oDo l a).2 r (k+1) else ((k:Int),(oDo l a).1,(oDo l a).2)
theorem vH{l:List Spc}:∀ (cB:List k7) (m:Nat),m≤cB.length→(∀ n a,cB[n]?=some a→(oDo (jP l (cB.take n)) a).1=0)→replay (jP l (cB.take (cB.length-m))) (cB.drop (cB.length-m)) (cB.length-m)=((cB.length:Int),0,jP l cB)
 | cB,0,_,_=>by rw[Nat.sub_zero,List.drop_length,List.take_length];rfl
 | cB,m+1,hm,hk=>by
  obtain⟨a,ha⟩:=ai (show cB.length - (m+1)<cB.length by omega)
  rw[drop_cons ha,replay,if_pos (hk _ a ha), ← xh ha]
  have:=vH cB m (by omega) hk
  rw[show cB.length-m=cB.length-(m+1)+1 by omega] at this
  exact this
theorem Bo{l:List Spc}{cB:List k7}(hk:∀ n a,cB[n]?=some a→(oDo (jP l (cB.take n)) a).1=0):replay l cB 0=((cB.length:Int),0,jP l cB):=by
 have:=vH cB cB.length (Nat.le_refl _) hk
 rw[Nat.sub_self,List.take_zero,List.drop_zero] at this
 exact this
theorem Ea.cut{l0:List Spc}{s:Sy}(h:Ea l0 s){n:Nat}:replay l0 (s.log.take n) 0=(((s.log.take n).length:Int),0,jP l0 (s.log.take n)):=Bo fun m a ha=>by
 have hm:=(List.getElem?_eq_some_iff.1 ha).1
 rw[List.length_take] at hm
 rw[List.getElem?_take_of_lt (by omega)] at ha
 rw[List.take_take,Nat.min_eq_left (by omega)]
 exact h.ok m a ha
theorem C1(l:List Spc)(a b:List k7):jP l (a++b)=jP (jP l a) b:=by unfold jP;rw[List.foldl_append]
end Go.SLYtpbjdoplfgeliaaGreat
namespace Go.SLYtpbjdoplfgeliaaGreat
open Go Go.RowKit
theorem oZ{procs:Int}{ps:List gn}(h:dF procs ps=0):kn ps=0:=by
 unfold dF at h
 split at h
 ·cases h
 ·unfold kn
  rw[if_neg (by omega)];exact h
theorem K3{n:Nat}{s:Spc}(h:gE n s)(hn:n≤1990)(k:Nat)(a:k7):s.aA <+: (H5 s k a).aA:=by
 unfold H5
 split
 ·exact h.Nv
 ·split
  ·exact List.prefix_rfl
  ·split
   ·exact h.Oo hn _ _
   ·split
    ·exact h.Nu _
    ·exact List.prefix_rfl
theorem Eb:∀ (cB:List k7) {l:List Spc} {k:Nat},fF k l→k+cB.length≤1990→ ∀ n:Int,m7 l n <+: m7 (jP l cB) n
 | [],_,_,_,_,_=>List.prefix_rfl
 | a::r,l,k,h,hk,n=>by
  simp only[List.length_cons] at hk
  refine List.IsPrefix.trans ?_ (Eb r (h.act (by omega) a) (by omega) n)
  cases g:aL l n with
  | none=>rw[show m7 l n=[] by unfold m7;rw[g]];exact List.nil_prefix
  | some s =>
   obtain⟨h0, -,hs⟩:=ck g
   obtain⟨j,rfl⟩:∃ j:Nat,n=(j:Int):=⟨n.toNat,by omega⟩
   rw[Int.toNat_natCast] at hs
   rw[AN hs,AN (Fc hs a)]
   exact K3 (h s (List.mem_of_getElem? hs)) (by omega) j a
theorem Ea.px{l0:List Spc}{s:Sy}(h:Ea l0 s)(ho:fF 1 l0)(hl:s.log.length≤1000)(n:Nat)(m:Int):m7 (jP l0 (s.log.take n)) m <+: m7 (eO s.k) m:=by
 rw[← h.run]
 conv=>rhs;rw[← List.take_append_drop n s.log,C1]
 have hc:fF (1+(s.log.take n).length) (jP l0 (s.log.take n)):=by
  have:=DR ho (s.log.take n) (s.log.take n).length (Nat.le_refl _) (by rw[List.length_take];omega)
  rwa [List.take_length] at this
 exact Eb _ hc (by rw[List.length_take,List.length_drop];omega) m
def K4(ps:List gn)(cB:List k7):Int×Int×List Spc:=if kn ps=0 then replay (ps.map Spc.new) cB 0 else (0,kn ps,[])
/-! law 20's own fact -/
def PE:List k7:=[⟨1,0,0,0⟩,⟨1,0,0,0⟩,⟨2,0,0,0⟩]
def PW:Int×Int×List Spc:=K4 [Pc] PE
end Go.SLYtpbjdoplfgeliaaGreat
