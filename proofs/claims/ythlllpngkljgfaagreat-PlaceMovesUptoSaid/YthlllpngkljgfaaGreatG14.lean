/- Walks of functions, and what they compute. Conditions: none, this text proves no statement. -/
import Derived.Test.YthlllpngkljgfaaGreatG12
namespace Go.SLYthlllpngkljgfaaGreat
open Go Go.RowKit
def may(w:Int)(e:Ev):Bool:=decide (e.ab=w) && (decide (0<e.mode) || decide (e.kind=3) || decide (e.kind=4))
def iV(w:Int)(v:aH):Nat:=(if v.runs=true∧v.ab=w then 1 else 0)+v.evs.countP (may w)
def sumP(w:Int):List aH→Nat
 | []=>0
 | v::l=>iV w v+sumP w l
def rowN(w:Int):List (List Int)→Nat
 | []=>0
 | r::l=>r.count w+rowN w l
def vL(w:Int)(l:Lib):Nat:=rowN w l.rows+sumP w l.vs+l.waiting.countP (may w)
def nm(e:Ev):Prop:=0<e.mode→(e.mode=7∧0≤e.ab)∨(e.mode≠7∧e.ab<0)
structure fw(v:aH):Prop where
 e:∀ e∈v.evs,nm e
 t:v.mode=5∨v.mode=6∨v.mode=7→0≤v.ab
structure Pk(l:Lib):Prop where
 n:∀ w,0≤w→vL w l=cS l.aK w
 v:∀ v∈l.vs,fw v
 w:∀ e∈l.waiting,nm e
 rl:l.rows.length=l.vs.length
 rg:∀ r∈l.rows, ∀ t∈r,(0:Int)≤t
theorem gv{w:Int}{vs:List aH}{i:Nat}{v:aH}(h:vs[i]?=some v)(x:aH):sumP w (vs.set i x)+iV w v=sumP w vs+iV w x:=by
 induction vs generalizing i with
 | nil=>simp at h
 | cons y vs ih =>
  cases i with
  | zero =>
   obtain rfl:y=v:=by simpa using h
   simp only[List.set_cons_zero,sumP];omega
  | succ i =>
   have:=ih (i:=i) (by simpa using h)
   simp only[List.set_cons_succ,sumP];omega
theorem AW{w:Int}{rows:List (List Int)}{i:Nat}{r:List Int}(h:rows[i]?=some r)(x:List Int):rowN w (rows.set i x)+r.count w=rowN w rows+x.count w:=by
 induction rows generalizing i with
 | nil=>simp at h
 | cons y rows ih =>
  cases i with
  | zero =>
   obtain rfl:y=r:=by simpa using h
   simp only[List.set_cons_zero,rowN];omega
  | succ i =>
   have:=ih (i:=i) (by simpa using h)
   simp only[List.set_cons_succ,rowN];omega
theorem IK{t:Int}:∀ {rows:List (List Int)},rowN t rows=0→yt rows t=false
 | [],_=>rfl
 | r::rows,h=>by
  unfold rowN at h
  have h1:r.contains t=false:=by
   rw[List.contains_eq_mem]
   exact decide_eq_false (fun hm=>by have:=List.count_pos_iff.2 hm;omega)
  have h2:=IK (t:=t) (rows:=rows) (by omega)
  unfold yt at h2 ⊢
  rw[List.any_cons,h1,h2];rfl
theorem DK{rows:List (List Int)}{i:Nat}{t:Int}(hi:i<rows.length)(h:rowN t rows=0)(w:Int):rowN w (rAdd rows (i:Int) t)=rowN w rows+(if t=w then 1 else 0):=by
 obtain⟨r,hr⟩:=ak hi
 unfold rAdd
 rw[IK h,bf,hr]
 simp only[Bool.false_eq_true,if_false,Int.toNat_natCast]
 have:=AW (w:=w) hr (r++[t])
 rw[List.count_append,List.count_singleton] at this
 by_cases e:t=w
 ·rw[if_pos e];rw[if_pos (by simpa using e)] at this;omega
 ·rw[if_neg e];rw[if_neg (by simpa using e)] at this;omega
theorem IL{i:Nat}:∀ {ts:List Int} {rows:List (List Int)},i<rows.length→(∀ x∈ts,rowN x rows=0)→(∀ x,ts.count x≤1)→ ∀ w,rowN w (dW rows (i:Int) ts)=rowN w rows+ts.count w
 | [],_,_,_,_,_=>rfl
 | t::ts,rows,hi,h0,h1,w=>by
  have ht:=h0 t (List.mem_cons_self ..)
  have hn:t ∉ ts:=fun hm=>by
   have:=h1 t
   rw[List.count_cons_self] at this
   have:=List.count_pos_iff.2 hm
   omega
  show rowN w (dW (rAdd rows (i:Int) t) (i:Int) ts)=_
  rw[IL (ts:=ts) (rows:=rAdd rows (i:Int) t) (by rw[Am];exact hi) (fun x hx=>by
   have hne:¬t=x:=fun e=>hn (by rw[e];exact hx)
   rw[DK hi ht,if_neg hne,h0 x (List.mem_cons_of_mem _ hx)]) (fun x=>by
   have:=h1 x
   rw[List.count_cons] at this
   omega) w,DK hi ht,List.count_cons]
  by_cases e:t=w
  ·rw[if_pos e,if_pos (by simpa using e)];omega
  ·rw[if_neg e,if_neg (by simpa using e)];omega
theorem Kn{rows:List (List Int)}{p t:Int}(h:∀ r∈rows, ∀ x∈r,(0:Int)≤x)(ht:0≤t):∀ r∈rAdd rows p t, ∀ x∈r,(0:Int)≤x:=fun r hr x hx=>by
 unfold rAdd at hr
 split at hr
 ·exact h r hr x hx
 ·split at hr
  ·exact h r hr x hx
  ·rename_i y e
   rcases List.mem_or_eq_of_mem_set hr with hr | rfl
   ·exact h r hr x hx
   ·rcases List.mem_append.1 hx with hx | hx
    ·exact h y (List.mem_of_getElem? (cB e).2.2) x hx
    ·obtain rfl:=List.mem_singleton.1 hx;exact ht
theorem nq:∀ {ts:List Int} {rows:List (List Int)} {p:Int},(∀ r∈rows, ∀ x∈r,(0:Int)≤x)→(∀ t∈ts,(0:Int)≤t)→ ∀ r∈dW rows p ts, ∀ x∈r,(0:Int)≤x
 | [],_,_,h,_=>h
 | t::ts,rows,p,h,ht=>nq (ts:=ts) (rows:=rAdd rows p t) (Kn h (ht t (List.mem_cons_self ..))) fun x hx=>ht x (List.mem_cons_of_mem _ hx)
/-! vessels told -/
theorem Ko{w:Int}(h:0≤w)(l:List Ev):(da l).countP (may w)=l.countP (may w):=by
 induction l with
 | nil=>rfl
 | cons e l ih =>
  unfold da at ih ⊢
  by_cases hk:(dG e || decide (0<e.mode))=true
  ·rw[List.filter_cons_of_pos (p:=fun e=>dG e || decide (0<e.mode)) hk,List.countP_cons,List.countP_cons,ih]
  ·rw[List.filter_cons_of_neg (p:=fun e=>dG e || decide (0<e.mode)) hk,List.countP_cons,ih]
   have:may w e=false:=by
    simp only[Bool.or_eq_true,decide_eq_true_eq,not_or] at hk
    unfold dG at hk
    unfold may
    by_cases ht:e.ab=w
    ·have h1:¬e.kind=3:=fun e3=>hk.1 (by simp[e3];omega)
     have h2:¬e.kind=4:=fun e4=>hk.1 (by simp[e4];omega)
     simp[hk.2,h1,h2]
    ·simp[ht]
   rw[this];rfl
theorem AX{w:Int}(h:0≤w)(v:aH):v.strip.countP (may w)=iV w v:=by
 unfold aH.strip iV
 rw[List.countP_append,Ko h]
 by_cases hh:v.holds=true
 ·rw[if_pos hh]
  by_cases hr:v.runs=true
  ·rw[if_pos hr,List.countP_cons,List.countP_nil]
   by_cases ht:v.ab=w
   ·have:may w ⟨4,v.ab,v.mode⟩=true:=by unfold may;simp[ht]
    rw[this];simp[hr,ht]
   ·have:may w ⟨4,v.ab,v.mode⟩=false:=by unfold may;simp[ht]
    rw[this];simp[hr,ht]
  ·rw[if_neg hr,if_neg (fun g=>hr g.1),List.countP_cons,List.countP_nil]
   have:may w ⟨4, -1,v.mode⟩=false:=by
    unfold may
    have:¬(-1:Int)=w:=by omega
    simp[this]
   rw[this];simp
 ·rw[if_neg hh]
  by_cases hr:v.runs=true
  ·rw[if_pos hr,List.countP_cons,List.countP_nil]
   by_cases ht:v.ab=w
   ·have:may w ⟨4,v.ab,0⟩=true:=by unfold may;simp[ht]
    rw[this];simp[hr,ht]
   ·have:may w ⟨4,v.ab,0⟩=false:=by unfold may;simp[ht]
    rw[this];simp[hr,ht]
  ·rw[if_neg hr,if_neg (fun g=>hr g.1)];simp
theorem CG(w:Int)(l:List Ev):iV w (aH.new l)=l.countP (may w):=by
 show(if aH.runs (aH.new l)=true∧_ then 1 else 0)+l.countP (may w)=_
 rw[if_neg (fun g=>by have:=g.1;unfold aH.runs aH.new at this;simp at this)];omega
theorem DL{w:Int}(h:0≤w)(v:aH)(l:List Ev):iV w (v.told l)=iV w v+l.countP (may w):=by
 unfold aH.told
 rw[CG,List.countP_append,AX h]
theorem Kq(w:Int):iV w aH.z=0:=by
 unfold iV
 rw[if_neg (fun g=>by have:=g.1;unfold aH.runs aH.z at this;simp at this)];rfl
theorem vh{v:aH}(h:fw v):∀ e∈v.strip,nm e:=fun e he=>by
 unfold aH.strip at he
 rcases List.mem_append.1 he with he | he
 ·split at he
  ·rename_i hh
   obtain rfl:=List.mem_singleton.1 he
   intro h0
   have hm:v.mode=2∨v.mode=4∨v.mode=7:=by unfold aH.holds at hh;simp only[Bool.or_eq_true,decide_eq_true_eq] at hh;omega
   by_cases h7:v.mode=7
   ·refine .inl ⟨h7,?_⟩
    have ht:=h.t (.inr (.inr h7))
    have hr:v.runs=true:=by unfold aH.runs;simp[h7,ht]
    show(0:Int)≤(if v.runs=true then v.ab else -1)
    rw[if_pos hr];exact ht
   ·refine .inr ⟨h7,?_⟩
    have hr:¬v.runs=true:=fun g=>by unfold aH.runs at g;simp only[Bool.and_eq_true,Bool.or_eq_true,decide_eq_true_eq] at g;omega
    show(if v.runs=true then v.ab else -1)<0
    rw[if_neg hr];omega
  ·split at he
   ·obtain rfl:=List.mem_singleton.1 he
    intro h0;exact absurd h0 (by show ¬(0:Int)<0;omega)
   ·cases he
 ·exact h.e e (List.mem_filter.1 he).1
theorem vi{l:List Ev}(h:∀ e∈l,nm e):fw (aH.new l):=⟨h,fun g=>by
 have:(aH.new l).mode=1:=rfl
 omega⟩
theorem xr{v:aH}{l:List Ev}(h:fw v)(hl:∀ e∈l,nm e):fw (v.told l):=vi fun e he=>by
 rcases List.mem_append.1 he with he | he
 ·exact vh h e he
 ·exact hl e he
theorem IM:fw aH.z:=by
 refine⟨fun _ h=>(by cases h),fun g=>?_⟩
 have:aH.z.mode=0:=rfl
 omega
theorem jh{w:Int}(l:List Int):(aB l).countP (may w)=l.count w:=by
 unfold aB
 rw[List.countP_map]
 unfold List.count
 refine List.countP_congr fun x _=>?_
 show may w ⟨3,x,0⟩=true↔_
 unfold may
 simp
theorem gT(l:List Int):∀ e∈aB l,nm e:=fun e he=>by
 obtain⟨n, -,rfl⟩:=List.mem_map.1 he
 intro h;exact absurd h (by show ¬(0:Int)<0;omega)
end Go.SLYthlllpngkljgfaaGreat
namespace Go.SLYthlllpngkljgfaaGreat
open Go Go.RowKit
structure IN(s s':Spc)(e:lB)(n:Int):Prop where
 q:∀ w,cS s' w+(if ¬e.cj=true∧w=n then 1 else 0)=cS s w+e.av.count w
 z:∀ x∈e.av,0≤x∧cS s x=0
 c:∀ x,e.av.count x≤1
theorem oV(s:Spc)(w:Int):cS s w≤1:=by
 unfold cS rO
 split
 ·omega
 ·split <;> omega
theorem yS{s:Spc}{w:Int}(h:w<0):cS s w=0:=by unfold cS;rw[ym h];rfl
theorem qB{e:lB}:¬e.cj=true↔(e.aR=true∨e.ended=true):=by
 unfold lB.cj
 cases e.aR <;> cases e.ended <;> simp
theorem Mj{k:Nat}{s:Spc}(h:gZ k s)(hk:k≤1990)(n c:Int):IN s (s.run n c).2.2 (s.run n c).1 n:=by
 obtain⟨-,h1,h2, -,h3,h4, -, -⟩:=h.1.run h.2.2 (n:=n) (c:=c) (by omega) (h.rec hk)
 have hq:∀ w,cS (s.run n c).2.2 w+(if ¬(s.run n c).1.cj=true∧w=n then 1 else 0)=cS s w+(s.run n c).1.av.count w:=fun w=>by
  have:=h1 w
  by_cases g:(s.run n c).1.cj=true
  ·rw[if_neg (fun x=>x.1 g)]
   rw[if_neg (fun x=>absurd x.1 (fun y=>qB.2 y g))] at this
   exact this
  ·have g2:=qB.1 g
   by_cases e:w=n
   ·rw[if_pos ⟨g,e⟩];rw[if_pos ⟨g2,e⟩] at this;exact this
   ·rw[if_neg (fun x=>e x.2)];rw[if_neg (fun x=>e x.2)] at this;exact this
 by_cases he:(s.run n c).2.1=0
 ·have hn:=h3.1 he
  have hn0:¬n<0:=fun g=>by rw[yS g] at hn;omega
  refine⟨hq,fun x hx=>⟨?_,h4 x hx⟩,fun x=>?_⟩
  ·rcases Int.lt_or_le x 0 with g | g
   ·have:=hq x
    rw[yS g,yS g,if_neg (fun y=>by have:=y.2;omega)] at this
    have:=List.count_pos_iff.2 hx
    omega
   ·exact g
  ·by_cases hx:x∈(s.run n c).1.av
   ·have h5:=h4 x hx
    have:=hq x
    rw[if_neg (fun y=>by rw[y.2] at h5;omega)] at this
    have:=oV (s.run n c).2.2 x
    omega
   ·rw[List.count_eq_zero.2 hx];omega
 ·obtain⟨e1,e2⟩:=h2 he
  refine⟨hq,fun x hx=>?_,fun x=>?_⟩
  ·rw[e2] at hx;cases hx
  ·rw[e2];exact Nat.zero_le _
theorem Pk.Mk{l:Lib}(h:Pk l){w:Int}(hw:0≤w)(h0:cS l.aK w=0):rowN w l.rows=0∧sumP w l.vs=0:=by
 have:=h.n w hw
 unfold vL at this
 omega
theorem DM{w:Int}{vs:List aH}{i:Nat}{v:aH}(h:vs[i]?=some v):iV w v≤sumP w vs:=by
 have:=gv (w:=w) h aH.z
 rw[Kq] at this
 omega
theorem Kr{v:aH}(h:v.runs=true):1≤iV v.ab v:=by
 unfold iV;rw[if_pos ⟨h,rfl⟩];omega
theorem gU{vs:List aH}{i:Nat}{x:aH}(h:∀ v∈vs,fw v)(hx:fw x):∀ v∈vs.set i x,fw v:=fun v hv=>by
 rcases List.mem_or_eq_of_mem_set hv with hv | rfl
 ·exact h v hv
 ·exact hx
theorem Pk.wT{l:Lib}{ys:List Ev}(hn:∀ w,0≤w→vL w l+ys.countP (may w)=cS l.aK w)(hv:∀ v∈l.vs,fw v)(hw:∀ e∈l.waiting,nm e)(hy:∀ e∈ys,nm e)(rl:l.rows.length=l.vs.length)(rg:∀ r∈l.rows, ∀ t∈r,(0:Int)≤t):Pk (l.tell ys):=by
 by_cases h0:ys=[]
 ·subst h0;rw[jD];exact⟨hn,hv,hw,rl,rg⟩
 ·cases hp:l.procs with
  | nil =>
   rw[jl h0 hp]
   refine⟨fun w h=>?_,hv,fun e he=>?_,rl,rg⟩
   ·have:=hn w h
    unfold vL at this ⊢
    simp only[List.countP_append];omega
   ·rcases List.mem_append.1 he with he | he
    ·exact hw e he
    ·exact hy e he
  | cons p r =>
   obtain⟨i,v,rfl,hiv, -⟩:=ig hp
   rw[jm h0 hp hiv]
   refine⟨fun w h=>?_,gU hv (xr (hv v (List.mem_of_getElem? hiv)) hy),hw,by show _=(l.vs.set i _).length;rw[List.length_set];exact rl,rg⟩
   have h1:=gv (w:=w) hiv (v.told ys)
   rw[DL h] at h1
   have:=hn w h
   unfold vL at this ⊢
   simp only at this ⊢
   omega
theorem Pk.set{l:Lib}(h:Pk l){i:Nat}{v x:aH}{b:Bool}(hv:l.vs[i]?=some v)(hx:fw x)(hn:∀ w,0≤w→iV w x=iV w v):Pk ⟨l.aK,l.rows,l.vs.set i x,l.waiting,b⟩:=by
 refine⟨fun w hw=>?_,gU h.v hx,h.w,by show _=(l.vs.set i x).length;rw[List.length_set];exact h.rl,h.rg⟩
 have h1:=gv (w:=w) hv x
 have h2:=h.n w hw
 have h3:=hn w hw
 unfold vL at h2 ⊢
 simp only at h2 ⊢
 omega
theorem Pk.cy{l:Lib}(h:Pk l)(hl:Lk l)(p:Int):Pk (l.cy p).2:=by
 unfold Lib.cy
 cases e:aU l.vs p with
 | none=>exact h
 | some v =>
  simp only
  by_cases hm:v.mode=0
  ·rw[if_pos hm]
   obtain⟨h0, -,hv⟩:=cB e
   have hev:=hl.run hv (by omega) (by omega)
   have hh:∀ w,iV w v=0:=fun w=>by
    unfold iV
    rw[hev,if_neg (fun g=>by have:=g.1;unfold aH.runs at this;simp[hm] at this)];rfl
   refine⟨fun w hw=>?_,gU h.v (vi fun e he=>?_),fun _ h=>(by cases h),by show _=(l.vs.set _ _).length;rw[List.length_set];exact h.rl,h.rg⟩
   ·have h1:=gv (w:=w) hv (aH.new (⟨1, -1,0⟩::l.waiting))
    have h2:=h.n w hw
    have hmw:may w ⟨1, -1,0⟩=false:=by
     unfold may
     have:¬(-1:Int)=w:=by omega
     simp[this]
    rw[CG,List.countP_cons,hmw,hh] at h1
    unfold vL at h2 ⊢
    simp only[List.countP_nil] at h1 h2 ⊢
    simp only[Bool.false_eq_true,if_false] at h1
    omega
   ·rcases List.mem_cons.1 he with rfl | he
    ·intro h;exact absurd h (by show ¬(0:Int)<0;omega)
    ·exact h.w e he
  ·rw[if_neg hm];exact h
theorem Pk.ck{l:Lib}(h:Pk l)(p:Int):Pk (l.ck p).2:=by
 cases hh:l.has p with
 | false=>rw[jo hh];exact h
 | true =>
  obtain⟨i,v,rfl,hv, -⟩:=gA hh
  rw[ij hh hv]
  refine Pk.wT (fun w hw=>?_) (gU h.v IM) h.w (vh (h.v v (List.mem_of_getElem? hv))) (by show _=(l.vs.set i _).length;rw[List.length_set];exact h.rl) h.rg
  have h1:=gv (w:=w) hv aH.z
  have h2:=h.n w hw
  rw[Kq] at h1
  rw[AX hw]
  unfold vL at h2 ⊢
  simp only at h2 ⊢
  omega
theorem Pk.preempt{l:Lib}(h:Pk l)(p:Int):Pk (l.preempt p).2:=by
 cases hh:l.has p with
 | false=>rw[jN hh];exact h
 | true =>
  obtain⟨i,v,rfl,hv, -⟩:=gA hh
  rw[iM hh hv]
  exact h.set hv (xr (h.v v (List.mem_of_getElem? hv)) fun _ h=>(by cases h)) fun w hw=>by rw[DL hw];rfl
end Go.SLYthlllpngkljgfaaGreat
namespace Go.SLYthlllpngkljgfaaGreat
open Go Go.RowKit
section
variable{l:Lib}{i:Nat}{v x:aH}{s':Spc}{e:lB}{n:Int}{b:Bool}
theorem Pk.yU(h:Pk l)(q:IN l.aK s' e n)(hv:l.vs[i]?=some v)(hx:fw x)(hn:∀ w,0≤w→iV w x+(if ¬e.cj=true∧w=n then 1 else 0)=iV w v):Pk ((⟨s',l.rows,l.vs.set i x,l.waiting,b⟩:Lib).tell (aB e.av)):=by
 refine Pk.wT (fun w hw=>?_) (gU h.v hx) h.w (gT _) (by show _=(l.vs.set i x).length;rw[List.length_set];exact h.rl) h.rg
 have h1:=gv (w:=w) hv x
 have h2:=h.n w hw
 have h3:=hn w hw
 have h4:=q.q w
 rw[jh]
 unfold vL at h2 ⊢
 simp only at h2 ⊢
 omega
theorem Pk.KQ(h:Pk l)(q:IN l.aK s' e n):(∀ y∈e.av,rowN y l.rows=0):=fun y hy=>(h.Mk (q.z y hy).1 (q.z y hy).2).1
theorem Pk.CH(h:Pk l)(q:IN l.aK s' e n)(hv:l.vs[i]?=some v)(hx:fw x)(hn:∀ w,0≤w→iV w x+(if ¬e.cj=true∧w=n then 1 else 0)=iV w v):Pk ⟨s',dW l.rows (i:Int) e.av,l.vs.set i x,l.waiting,b⟩:=by
 have hil:=(List.getElem?_eq_some_iff.1 hv).1
 refine⟨fun w hw=>?_,gU h.v hx,h.w,by show(dW _ _ _).length=(l.vs.set i x).length;rw[List.length_set,fY];exact h.rl,nq h.rg fun t ht=>(q.z t ht).1⟩
 have h1:=gv (w:=w) hv x
 have h2:=h.n w hw
 have h3:=hn w hw
 have h4:=q.q w
 have h5:=IL (i:=i) (by rw[h.rl];exact hil) (h.KQ q) q.c w
 unfold vL at h2 ⊢
 simp only at h2 ⊢
 omega
theorem Pk.DN(h:Pk l)(q:IN l.aK s' e n)(hg:e.cj=true)(h0:0≤n)(hv:l.vs[i]?=some v)(hx:fw x)(hn:∀ w,0≤w→iV w x+(if n=w then 1 else 0)=iV w v):Pk ⟨s',dW (dW l.rows (i:Int) e.av) (i:Int) [n],l.vs.set i x,l.waiting,b⟩:=by
 have hil:=(List.getElem?_eq_some_iff.1 hv).1
 have hr1:i<l.rows.length:=by rw[h.rl];exact hil
 have hA:=IL (i:=i) hr1 (h.KQ q) q.c
 have hn0:=hn n h0
 rw[if_pos rfl] at hn0
 have hpn:=h.n n h0
 have hsl:=DM (w:=n) hv
 have hrn:=oV l.aK n
 have hrow:rowN n l.rows=0∧cS l.aK n=1:=by unfold vL at hpn;omega
 have hwn:e.av.count n=0:=by
  rw[List.count_eq_zero]
  intro hm
  have:=(q.z n hm).2
  omega
 have hrow2:rowN n (dW l.rows (i:Int) e.av)=0:=by rw[hA];omega
 refine⟨fun w hw=>?_,gU h.v hx,h.w,by show(dW _ _ _).length=(l.vs.set i x).length;rw[List.length_set,fY,fY];exact h.rl,nq (nq h.rg fun t ht=>(q.z t ht).1) fun t ht=>by rw[List.mem_singleton.1 ht];exact h0⟩
 have h1:=gv (w:=w) hv x
 have h2:=h.n w hw
 have h3:=hn w hw
 have h4:=q.q w
 rw[if_neg (fun y=>y.1 hg)] at h4
 have h5:=DK (i:=i) (t:=n) (by rw[fY];exact hr1) hrow2 w
 have h6:=hA w
 show vL w ⟨s',rAdd (dW l.rows (i:Int) e.av) (i:Int) n,l.vs.set i x,l.waiting,b⟩=_
 unfold vL at h2 ⊢
 simp only at h2 ⊢
 omega
end
theorem rp{p:Ev→Bool}{l:List Ev}{x:Ev}{r:List Ev}(h:evWithin l=some (x,r)):l.countP p=r.countP p+(if p x=true then 1 else 0)∧x∈l∧(∀ y∈r,y∈l)∧0<x.mode:=by
 unfold evWithin at h
 split at h
 ·cases h
 ·split at h
  ·cases h
  ·rename_i h0 y e2
   cases h
   have hx:jb x=true:=uy (l:=l) (k:=0) (i:=(idxP jb l 0).toNat) (by omega) e2
   have e:l.take (idxP jb l 0).toNat++x::l.drop ((idxP jb l 0).toNat+1)=l:=by rw[← drop_cons e2,List.take_append_drop]
   have h1:=congrArg (List.countP p) e
   rw[List.countP_append,List.countP_cons] at h1
   refine⟨by rw[List.countP_append];omega,List.mem_of_getElem? e2,fun y hy=>?_,of_decide_eq_true hx⟩
   rcases List.mem_append.1 hy with hy | hy
   ·exact List.mem_of_mem_take hy
   ·exact List.mem_of_mem_drop hy
theorem eS{v:aH}(h:¬(v.mode=5∨v.mode=6∨v.mode=7)):v.runs=false:=by
 unfold aH.runs
 have h1:¬v.mode=5:=fun e=>h (.inl e)
 have h2:¬v.mode=6:=fun e=>h (.inr (.inl e))
 have h3:¬v.mode=7:=fun e=>h (.inr (.inr e))
 simp[h1,h2,h3]
theorem iP{v:aH}(g:fw v)(h:v.mode=5∨v.mode=6∨v.mode=7):v.runs=true:=by
 have ht:=g.t h
 unfold aH.runs
 rcases h with h | h | h <;> simp[h,ht]
theorem dC{w:Int}{v:aH}(h:v.runs=false):iV w v=v.evs.countP (may w):=by unfold iV;rw[h];simp
theorem ji{w:Int}{v:aH}(h:v.runs=true):iV w v=(if v.ab=w then 1 else 0)+v.evs.countP (may w):=by unfold iV;rw[h];simp
theorem Pk.enter{l:Lib}(h:Pk l){i:Nat}{v:aH}{m:Int}(hv:l.vs[i]?=some v)(hm:m=5∨m=6∨m=7↔v.mode=5∨v.mode=6∨v.mode=7):Pk (l.enter (i:Int) m):=by
 cases hl:l.locked with
 | true=>rw[qa hl];exact h
 | false =>
  rw[nH hv hl]
  have hg:=h.v v (List.mem_of_getElem? hv)
  have hg2:fw {v with mode:=m }:=⟨hg.e,fun g=>hg.t (hm.1 g)⟩
  refine h.set (x:={v with mode:=m }) hv hg2 fun w hw=>?_
  by_cases g:v.mode=5∨v.mode=6∨v.mode=7
  ·rw[ji (iP hg g),ji (iP hg2 (hm.2 g))]
  ·rw[dC (eS g),dC (eS (v:={v with mode:=m }) (fun y=>g (hm.1 y)))]
theorem Pk.leave{l:Lib}(h:Pk l){i:Nat}{v:aH}{m t:Int}(hv:l.vs[i]?=some v)(hg:fw {v with mode:=m,ab:=t })(hn:∀ w,0≤w→iV w {v with mode:=m,ab:=t }=iV w v):Pk (l.leave (i:Int) m t):=by
 rw[iL hv]
 exact h.set hv hg hn
theorem AY:∀ {rows rows':List (List Int)} {t:Int},rSteal rows=some (t,rows')→(∀ w,rowN w rows'+(if t=w then 1 else 0)=rowN w rows)∧ ∃ r∈rows,t∈r
 | [],_,_,h=>by cases h
 | r::rows,rows',t,h=>by
  unfold rSteal at h
  split at h
  ·rename_i t' e
   cases h
   obtain⟨r0,rfl⟩:∃ r0,r=r0++[t]:=by
    rw[List.getLast?_eq_some_iff] at e
    exact e
   refine⟨fun w=>?_,_,List.mem_cons_self ..,by simp⟩
   show(List.dropLast (r0++[t])).count w+rowN w rows+_=(r0++[t]).count w+rowN w rows
   rw[List.dropLast_concat,List.count_append,List.count_singleton]
   by_cases g:t=w
   ·rw[if_pos g,if_pos (by simpa using g)];omega
   ·rw[if_neg g,if_neg (by simpa using g)];omega
  ·split at h
   ·cases h
   ·rename_i t' r' e
    cases h
    obtain⟨h1,y,hy,hty⟩:=AY e
    refine⟨fun w=>?_,y,List.mem_cons_of_mem _ hy,hty⟩
    have:=h1 w
    show r.count w+rowN w r'+_=r.count w+rowN w rows
    omega
theorem DO{rows rows':List (List Int)}{p t:Int}(h:rPick rows p=some (t,rows')):(∀ w,rowN w rows'+(if t=w then 1 else 0)=rowN w rows)∧ ∃ r∈rows,t∈r:=by
 unfold rPick at h
 split at h
 ·cases h
 ·rename_i u r e
  cases h
  have hr:=(cB e).2.2
  refine⟨fun w=>?_,_,List.mem_of_getElem? hr,List.mem_cons_self ..⟩
  have h1:=AW (w:=w) hr r
  rw[List.count_cons] at h1
  by_cases g:t=w
  ·rw[if_pos g];rw[if_pos (by simpa using g)] at h1;omega
  ·rw[if_neg g];rw[if_neg (by simpa using g)] at h1;omega
 ·exact AY h
theorem Ks{rows rows':List (List Int)}{p t:Int}(h:rPick rows p=some (t,rows'))(hg:∀ r∈rows, ∀ x∈r,(0:Int)≤x):∀ r∈rows', ∀ x∈r,(0:Int)≤x:=fun r hr x hx=>by
 rcases Int.lt_or_le x 0 with g | g
 ·have h1:=(DO h).1 x
  have h0:rowN x rows=0:=by
   have:∀ l:List (List Int),(∀ r∈l, ∀ y∈r,(0:Int)≤y)→rowN x l=0:=fun l=>by
    induction l with
    | nil=>intro _;rfl
    | cons a l ih =>
     intro hl
     show a.count x+rowN x l=0
     rw[ih fun r hr=>hl r (List.mem_cons_of_mem _ hr),List.count_eq_zero.2 fun hm=>by have:=hl a (List.mem_cons_self ..) x hm;omega]
   exact this rows hg
  have h2:1≤rowN x rows':=by
   have:∀ l:List (List Int),r∈l→1≤rowN x l:=fun l=>by
    induction l with
    | nil=>intro hm;cases hm
    | cons a l ih =>
     intro hm
     show 1≤a.count x+rowN x l
     rcases List.mem_cons.1 hm with rfl | hm
     ·have:=List.count_pos_iff.2 hx;omega
     ·have:=ih hm;omega
   exact this rows' hr
  omega
 ·exact g
end Go.SLYthlllpngkljgfaaGreat
namespace Go.SLYthlllpngkljgfaaGreat
open Go Go.RowKit
theorem Pk.step{k:Nat}{l:Lib}(h:Pk l)(hl:Lk l)(ho:gZ k l.aK)(hk:k≤1990)(p c:Int):Pk (l.step p c).2.2:=by
 cases hh:l.has p with
 | false=>rw[kR hh];exact h
 | true =>
  obtain⟨i,v,rfl,hv,h0⟩:=gA hh
  have hvg:=h.v v (List.mem_of_getElem? hv)
  have hil:=(List.getElem?_eq_some_iff.1 hv).1
  by_cases h1:v.mode=1
  ·have hr:v.runs=false:=eS (by omega)
   rw[qd hh hv h1]
   show Pk (l.upcall (i:Int) c).2
   cases hw:evWithin v.evs with
   | none=>rw[nI hv (by rw[hw];rfl)];exact h.enter hv (by omega)
   | some z =>
    rw[lO hv (by rw[hw];rfl)]
    have hE:wE v.evs=z.1:=by unfold wE;rw[hw]
    have hR:wR v.evs=z.2:=by unfold wR;rw[hw]
    rw[hE,hR]
    obtain⟨-,hzm,hzs,hz0⟩:=rp (p:=may 0) (x:=z.1) (r:=z.2) hw
    have hc:=fun w=>(rp (p:=may w) (x:=z.1) (r:=z.2) hw).1
    have hxg:fw {v with evs:=z.2 }:=⟨fun e he=>hvg.e e (hzs e he),fun g=>by have:v.mode=5∨v.mode=6∨v.mode=7:=g;omega⟩
    have hxr:aH.runs {v with evs:=z.2 }=false:=hr
    have hpl:∀ w,iV w {v with evs:=z.2 }+(if may w z.1=true then 1 else 0)=iV w v:=fun w=>by
     rw[dC hr,dC hxr,hc w]
    have hgz:=hvg.e z.1 hzm hz0
    by_cases hm:z.1.mode=7
    ·have ht:0≤z.1.ab:=by rcases hgz with g | g;exact g.2;exact absurd hm g.1
     have hmay:∀ w,(may w z.1=true)↔z.1.ab=w:=fun w=>by unfold may;simp[hz0]
     have q:=Mj ho hk z.1.ab c
     by_cases hg:(l.aK.run z.1.ab c).1.cj=true
     ·rw[lN hv hm hg]
      exact h.DN q hg ht hv hxg fun w _=>by
       have:=hpl w
       by_cases e:z.1.ab=w
       ·rw[if_pos e];rw[if_pos ((hmay w).2 e)] at this;exact this
       ·rw[if_neg e];rw[if_neg (fun y=>e ((hmay w).1 y))] at this;exact this
     ·rw[jc hv hm hg]
      exact h.CH q hv hxg fun w _=>by
       have:=hpl w
       by_cases e:z.1.ab=w
       ·rw[if_pos ⟨hg,e.symm⟩];rw[if_pos ((hmay w).2 e)] at this;exact this
       ·rw[if_neg (fun y=>e y.2.symm)];rw[if_neg (fun y=>e ((hmay w).1 y))] at this;exact this
    ·rw[lM hv hm]
     refine h.set (x:={v with evs:=z.2 }) hv hxg fun w hw0=>?_
     have:=hpl w
     have ht:z.1.ab<0:=by rcases hgz with g | g;exact absurd g.1 hm;exact g.2
     rw[if_neg (fun y=>by unfold may at y;simp only[Bool.and_eq_true,decide_eq_true_eq] at y;omega)] at this
     exact this
  by_cases h2:v.mode=2
  ·have hr:v.runs=false:=eS (by omega)
   rw[qe hh hv h2]
   cases he:v.evs with
   | nil =>
    rw[lP hv he]
    exact h.leave hv ⟨hvg.e,fun g=>by have:(3:Int)=5∨(3:Int)=6∨(3:Int)=7:=g;omega⟩ fun w _=>by
     rw[dC hr,dC (eS (v:={v with mode:=3,ab := -1 }) (by show ¬((3:Int)=5∨(3:Int)=6∨(3:Int)=7);omega))]
   | cons e r =>
    have hn:v.holds=true:=by unfold aH.holds;rw[h2];rfl
    have hi1:m7 v=1+v.evs.countP jb:=by unfold m7;rw[hn];simp
    obtain⟨-,h3⟩:=hl.one hv (by omega)
    have hem:¬ 0<e.mode:=fun g=>by
     have:jb e=true:=decide_eq_true g
     rw[he,List.countP_cons,this] at hi1
     simp only[if_true] at hi1
     omega
    have hxg:fw {v with evs:=r }:=⟨fun y hy=>hvg.e y (by rw[he];exact List.mem_cons_of_mem _ hy),fun g=>by have:v.mode=5∨v.mode=6∨v.mode=7:=g;omega⟩
    have hxr:aH.runs {v with evs:=r }=false:=hr
    have hpl:∀ w,iV w {v with evs:=r }+(if may w e=true then 1 else 0)=iV w v:=fun w=>by
     rw[dC hr,dC hxr,he,List.countP_cons]
    by_cases hrn:dG e=true
    ·rw[nJ hv he hrn]
     have hrn2:=hrn
     unfold dG at hrn2
     simp only[Bool.and_eq_true,Bool.or_eq_true,decide_eq_true_eq] at hrn2
     have hmay:∀ w,(may w e=true)↔e.ab=w:=fun w=>by
      unfold may
      simp only[Bool.and_eq_true,Bool.or_eq_true,decide_eq_true_eq]
      constructor
      ·exact fun g=>g.1
      ·exact fun g=>⟨g,hrn2.2.elim (fun x=>.inl (.inr x)) fun x=>.inr x⟩
     have hvt:=hpl e.ab
     rw[if_pos ((hmay _).2 rfl)] at hvt
     have hpn:=h.n e.ab hrn2.1.1
     have hsl:=DM (w:=e.ab) hv
     have hrd:=oV l.aK e.ab
     have hrow:rowN e.ab l.rows=0:=by unfold vL at hpn;omega
     refine⟨fun w hw=>?_,gU h.v hxg,h.w,by show(dW _ _ _).length=(l.vs.set i _).length;rw[List.length_set,fY];exact h.rl,nq h.rg fun t ht=>by rw[List.mem_singleton.1 ht];exact hrn2.1.1⟩
     have g1:=gv (w:=w) hv {v with evs:=r }
     have g2:=h.n w hw
     have g3:=hpl w
     have g4:=DK (i:=i) (t:=e.ab) (by rw[h.rl];exact hil) hrow w
     show vL w ⟨l.aK,rAdd l.rows (i:Int) e.ab,l.vs.set i {v with evs:=r },l.waiting,l.locked⟩=_
     unfold vL at g2 ⊢
     simp only at g2 ⊢
     by_cases ht:e.ab=w
     ·rw[if_pos ht] at g4;rw[if_pos ((hmay w).2 ht)] at g3;omega
     ·rw[if_neg ht] at g4;rw[if_neg (fun y=>ht ((hmay w).1 y))] at g3;omega
    ·rw[lQ hv he hrn]
     refine h.set (x:={v with evs:=r }) hv hxg fun w hw0=>?_
     have:=hpl w
     rw[if_neg (fun y=>by
      unfold may at y
      unfold dG at hrn
      simp only[Bool.and_eq_true,Bool.or_eq_true,decide_eq_true_eq] at y hrn
      refine hrn ⟨⟨by omega,by omega⟩,?_⟩
      rcases y.2 with (g | g) | g
      ·exact absurd g hem
      ·exact .inl g
      ·exact .inr g)] at this
     exact this
  have hev:=hl.run hv h1 h2
  by_cases h3:v.mode=3
  ·rw[qf hh hv h3];exact h.enter hv (by omega)
  by_cases h4:v.mode=4
  ·have hr:v.runs=false:=eS (by omega)
   rw[qg hh hv h4]
   cases hp:rPick l.rows (i:Int) with
   | none =>
    rw[(qb (by rw[hp];rfl)).1]
    exact h.leave hv ⟨hvg.e,fun g=>by have:(8:Int)=5∨(8:Int)=6∨(8:Int)=7:=g;omega⟩ fun w _=>by
     rw[dC hr,dC (eS (v:={v with mode:=8,ab := -1 }) (by show ¬((8:Int)=5∨(8:Int)=6∨(8:Int)=7);omega))]
   | some z =>
    rw[nK (by rw[hp];rfl),(js (t:=z.1) (rows':=z.2) hp).1,(js (t:=z.1) (rows':=z.2) hp).2]
    rw[iL (l:={l with rows:=z.2 }) hv]
    obtain⟨hpn,r0,hr0,ht0⟩:=DO (t:=z.1) (rows':=z.2) hp
    have ht:=h.rg r0 hr0 z.1 ht0
    have hxg:fw {v with mode:=5,ab:=z.1 }:=⟨hvg.e,fun _=>ht⟩
    refine⟨fun w hw=>?_,gU h.v hxg,h.w,by show z.2.length=(l.vs.set i _).length;rw[List.length_set,(wH (t:=z.1) (rows':=z.2) hp).1];exact h.rl,Ks (t:=z.1) (rows':=z.2) hp h.rg⟩
    have g1:=gv (w:=w) hv {v with mode:=5,ab:=z.1 }
    have g2:=h.n w hw
    have g3:=hpn w
    rw[dC hr,ji (iP hxg (.inl rfl))] at g1
    unfold vL at g2 ⊢
    simp only at g1 g2 ⊢
    omega
  by_cases h5:v.mode=5
  ·have hr:v.runs=true:=iP hvg (.inl h5)
   have hpv:∀ w,iV w v=if v.ab=w then 1 else 0:=fun w=>by rw[ji hr,hev];rfl
   have q:=Mj ho hk v.ab c
   rw[qh hh hv h5]
   show Pk (l.hJ (i:Int) c).2
   by_cases hc:l.aK.class v.ab=2
   ·rw[lR hv hc]
    have hxg:fw {v with mode:=6 }:=⟨hvg.e,fun _=>hvg.t (.inl h5)⟩
    exact h.set (x:={v with mode:=6 }) hv hxg fun w _=>by rw[ji hr,ji (iP hxg (.inr (.inl rfl)))]
   ·by_cases hs:(l.aK.run v.ab c).1.aR=true
    ·rw[nL hv hc hs]
     have hg:¬(l.aK.run v.ab c).1.cj=true:=qB.2 (.inl hs)
     refine(show Pk ((⟨(l.aK.run v.ab c).2.2,l.rows,l.vs.set i (aH.new [⟨2,v.ab,0⟩]),l.waiting,l.locked⟩:Lib).tell (aB (l.aK.run v.ab c).1.av)) from Pk.yU (l:=l) h q hv (x:=aH.new [⟨2,v.ab,0⟩]) (vi fun e he=>by
      rw[List.mem_singleton.1 he];intro g;exact absurd g (by show ¬(0:Int)<0;omega)) fun w _=>?_)
     have hz:iV w (aH.new [⟨2,v.ab,0⟩])=0:=by
      rw[CG,List.countP_cons,List.countP_nil]
      have:may w ⟨2,v.ab,0⟩=false:=by unfold may;simp
      rw[this];rfl
     rw[hz,hpv w]
     by_cases e:v.ab=w
     ·rw[if_pos ⟨hg,e.symm⟩,if_pos e]
     ·rw[if_neg (fun y=>e y.2.symm),if_neg e]
    ·by_cases he:(l.aK.run v.ab c).1.ended=true
     ·rw[qc hv hc hs he]
      have hg:¬(l.aK.run v.ab c).1.cj=true:=qB.2 (.inr he)
      refine(show Pk ((⟨(l.aK.run v.ab c).2.2,l.rows,l.vs.set i {v with mode:=3,ab := -1 },l.waiting,l.locked⟩:Lib).tell (aB (l.aK.run v.ab c).1.av)) from Pk.yU (l:=l) h q hv (x:={v with mode:=3,ab := -1 }) ⟨hvg.e,fun g=>by have:(3:Int)=5∨(3:Int)=6∨(3:Int)=7:=g;omega⟩ fun w _=>?_)
      have hz:iV w {v with mode:=3,ab := -1 }=0:=by
       rw[dC (eS (v:={v with mode:=3,ab := -1 }) (by show ¬((3:Int)=5∨(3:Int)=6∨(3:Int)=7);omega))]
       show v.evs.countP (may w)=0
       rw[hev];rfl
      rw[hz,hpv w]
      by_cases e:v.ab=w
      ·rw[if_pos ⟨hg,e.symm⟩,if_pos e]
      ·rw[if_neg (fun y=>e y.2.symm),if_neg e]
     ·rw[nM hv hc hs he]
      have hg:(l.aK.run v.ab c).1.cj=true:=by unfold lB.cj;simp[hs,he]
      have:=Pk.yU h q hv (b:=l.locked) hvg fun w _=>by rw[if_neg (fun y=>y.1 hg)];rfl
      rw[gP hv] at this
      exact this
  by_cases h6:v.mode=6
  ·rw[qi hh hv h6];exact h.enter hv (by omega)
  by_cases h7:v.mode=7
  ·have hr:v.runs=true:=iP hvg (.inr (.inr h7))
   have hpv:∀ w,iV w v=if v.ab=w then 1 else 0:=fun w=>by rw[ji hr,hev];rfl
   have q:=Mj ho hk v.ab c
   have hx3:fw {v with mode:=3,ab := -1 }:=⟨hvg.e,fun g=>by have:(3:Int)=5∨(3:Int)=6∨(3:Int)=7:=g;omega⟩
   have hz:∀ w,iV w {v with mode:=3,ab := -1 }=0:=fun w=>by
    rw[dC (eS (v:={v with mode:=3,ab := -1 }) (by show ¬((3:Int)=5∨(3:Int)=6∨(3:Int)=7);omega))]
    show v.evs.countP (may w)=0
    rw[hev];rfl
   rw[qj hh hv h7]
   show Pk (l.inside (i:Int) c).2
   by_cases hg:(l.aK.run v.ab c).1.cj=true
   ·by_cases hy:(l.aK.run v.ab c).1.yielded=true
    ·rw[jd hv hg hy]
     show Pk (Lib.leave _ _ _ _)
     rw[iL (l:=((l.aL v.ab c).2.fO (i:Int) (l.aK.run v.ab c).1.av).fO (i:Int) [v.ab]) hv]
     exact h.DN q hg (hvg.t (.inr (.inr h7))) hv hx3 fun w _=>by rw[hz w,hpv w,Nat.zero_add]
    ·rw[nN hv hg hy]
     show Pk (Lib.leave _ _ _ _)
     rw[iL (l:=(l.aL v.ab c).2.fO (i:Int) (l.aK.run v.ab c).1.av) hv]
     have hx5:fw {v with mode:=5,ab:=v.ab }:=⟨hvg.e,fun _=>hvg.t (.inr (.inr h7))⟩
     exact h.CH q hv hx5 fun w _=>by
      rw[if_neg (fun y=>y.1 hg),ji hr,ji (iP hx5 (.inl rfl))];rfl
   ·rw[lS hv hg]
    show Pk (Lib.leave _ _ _ _)
    rw[iL (l:=(l.aL v.ab c).2.fO (i:Int) (l.aK.run v.ab c).1.av) hv]
    exact h.CH q hv hx3 fun w _=>by
     rw[hz w,hpv w]
     by_cases e:v.ab=w
     ·rw[if_pos ⟨hg,e.symm⟩,if_pos e]
     ·rw[if_neg (fun y=>e y.2.symm),if_neg e]
  by_cases h8:v.mode=8
  ·cases he:gR l.rows with
   | true=>rw[m5 hh hv h8 he];exact h
   | false =>
    rw[m6 hh hv h8 he]
    have hx3:fw {v with mode:=3 }:=⟨hvg.e,fun g=>by have:(3:Int)=5∨(3:Int)=6∨(3:Int)=7:=g;omega⟩
    exact h.set (x:={v with mode:=3 }) hv hx3 fun w _=>by
     rw[dC (eS (v:=v) (by omega)),dC (eS (v:={v with mode:=3 }) (by show ¬((3:Int)=5∨(3:Int)=6∨(3:Int)=7);omega))]
  ·rw[qk hh hv ⟨h1,h2,h3,h4,h5,h6,h7,h8⟩];exact h
theorem Pk.cv{k:Nat}{l:Lib}(h:Pk l)(ho:gZ k l.aK):Pk l.cv:=by
 obtain⟨-,h1, -, -, -, -, -⟩:=ho.1.Ag ho.2.2
 refine Pk.wT (fun w hw=>?_) h.v h.w (gT _) h.rl h.rg
 rw[jh]
 have h2:=h.n w hw
 have h3:=h1 w
 show vL w l+_=cS l.aK.tick.2 w
 rw[h3,h2];rfl
theorem Pk.eW{k:Nat}{l:Lib}(h:Pk l)(ho:gZ k l.aK)(c:Int):Pk (l.eW c):=by
 obtain⟨-,h1, -, -,hs,he, -, -⟩:=ho.1.pW ho.2.2 (c:=c)
 refine Pk.wT (fun w hw=>?_) h.v h.w (gT _) h.rl h.rg
 rw[jh]
 have h2:=h.n w hw
 have h3:=h1 w
 rw[hs,he] at h3
 simp only[Bool.false_eq_true,or_self,if_false,Nat.add_zero] at h3
 show vL w l+_=cS (l.aK.done c).2.2 w
 rw[h3,h2]
theorem Pk.new(s:Spc)(p:Int):Pk (Lib.new s p):=by
 have hz:∀ (w:Int) n,sumP w (List.replicate n aH.z)=0:=fun w n=>by
  induction n with
  | zero=>rfl
  | succ n ih=>rw[List.replicate_succ,sumP,ih,Kq]
 have hr:∀ (w:Int) n,rowN w (List.replicate n [])=0:=fun w n=>by
  induction n with
  | zero=>rfl
  | succ n ih=>rw[List.replicate_succ,rowN,ih];rfl
 refine⟨fun w hw=>?_,fun v hv=>by rw[(List.mem_replicate.1 hv).2];exact IM,gT _,by show(List.replicate _ _).length=(List.replicate _ _).length;rw[List.length_replicate,List.length_replicate],fun r hr t ht=>by rw[(List.mem_replicate.1 hr).2] at ht;cases ht⟩
 show rowN w (List.replicate _ _)+sumP w (List.replicate _ _)+(aB s.ready).countP (may w)=cS s w
 rw[hz,hr,jh,kc];omega
end Go.SLYthlllpngkljgfaaGreat
namespace Go.SLYthlllpngkljgfaaGreat
open Go Go.RowKit
def my(f:Int→Nat):List Int:=(List.range 16).map fun(w:Nat)=>((f (w:Int):Nat):Int)
theorem gV(f:Int→Nat):(my f).length=16:=by unfold my;rw[List.length_map,List.length_range]
theorem rq{f:Int→Nat}{j:Nat}(h:j<16):(my f)[j]?=some ((f (j:Int):Nat):Int):=by
 unfold my
 rw[List.getElem?_map,List.getElem?_range h];rfl
theorem IP:my (fun _=>0)=List.replicate 16 (0:Int):=by decide
theorem jw{f g:Int→Nat}(h:∀ w,0≤w→w<16→f w=g w):my f=my g:=by
 unfold my
 refine List.map_congr_left fun(w:Nat) hw=>?_
 have hw2:=List.mem_range.1 hw
 rw[h (w:Int) (by omega) (by omega)]
theorem Kt{f:Int→Nat}{j:Nat}(h:j<16):(my f).set j (((f (j:Int):Nat):Int)+1)=my fun w=>f w+if w=(j:Int) then 1 else 0:=by
 refine List.ext_getElem? fun k=>?_
 by_cases hk:k<16
 ·rw[rq (f:=fun w=>f w+if w=(j:Int) then 1 else 0) hk]
  by_cases e:j=k
  ·subst e
   rw[List.getElem?_set_self (by rw[gV];exact h)]
   simp
  ·rw[List.getElem?_set_ne e,rq hk,if_neg (by omega)];rfl
 ·rw[List.getElem?_eq_none (by rw[List.length_set,gV];omega),List.getElem?_eq_none (by rw[gV];omega)]
def fo(v:aH)(w:Int):Nat:=if v.runs=true∧v.ab=w then 1 else 0
theorem yV{f:Int→Nat}{t:Int}(h0:0≤t)(h1:t<16):(my f).set t.toNat (((f ((t.toNat:Nat):Int):Nat):Int)+1)=my fun w=>f w+if w=t then 1 else 0:=by
 rw[Kt (by omega)]
 rw[show((t.toNat:Nat):Int)=t by omega]
theorem Ku{f:Int→Nat}{v:aH}(hm:(v.mode=5∨v.mode=6)∨v.mode=7)(h0:0≤v.ab)(h1:v.ab<16):(my f).set v.ab.toNat (((f ((v.ab.toNat:Nat):Int):Nat):Int)+1)=my fun w=>f w+fo v w:=by
 rw[yV h0 h1]
 refine jw fun w _ _=>?_
 have hr:v.runs=true:=by unfold aH.runs;rcases hm with (h | h) | h <;> simp[h,h0]
 unfold fo
 by_cases e:w=v.ab
 ·rw[if_pos e,if_pos ⟨hr,e.symm⟩]
 ·rw[if_neg e,if_neg (fun y=>e y.2.symm)]
theorem Kv{f:Int→Nat}{v:aH}(h:¬((0≤v.ab∧v.ab<16)∧((v.mode=5∨v.mode=6)∨v.mode=7))):my (fun w=>f w+fo v w)=my f:=jw fun w h0 h1=>by
 unfold fo
 rw[if_neg (fun y=>h ⟨by rw[y.2];exact⟨h0,h1⟩,by
  have:=y.1
  unfold aH.runs at this
  simp only[Bool.and_eq_true,Bool.or_eq_true,decide_eq_true_eq] at this
  exact this.1⟩)];omega
theorem Kw{g:Int→Nat}{R:List Int}{k:Nat}{t:Int}(hx:R[k]?=some t)(h0:0≤t)(h1:t<16):(my fun w=>g w+(R.take k).count w).set t.toNat (((g ((t.toNat:Nat):Int)+(R.take k).count ((t.toNat:Nat):Int):Nat):Int)+1)=my fun w=>g w+(R.take (k+1)).count w:=by
 rw[yV (f:=fun w=>g w+(R.take k).count w) h0 h1]
 refine jw fun w _ _=>?_
 rw[aQ hx,List.count_append,List.count_singleton]
 by_cases e:w=t
 ·rw[if_pos e,if_pos (by simpa using e.symm)];omega
 ·rw[if_neg e,if_neg (by simpa using fun y:t=w=>e y.symm)];omega
theorem Ml{g:Int→Nat}{L:List Ev}{j:Nat}{e:Ev}(he:L[j]?=some e)(hm:(0<e.mode∨e.kind=3)∨e.kind=4)(h0:0≤e.ab)(h1:e.ab<16):(my fun w=>g w+(L.take j).countP (may w)).set e.ab.toNat (((g ((e.ab.toNat:Nat):Int)+(L.take j).countP (may ((e.ab.toNat:Nat):Int)):Nat):Int)+1)=my fun w=>g w+(L.take (j+1)).countP (may w):=by
 rw[yV (f:=fun w=>g w+(L.take j).countP (may w)) h0 h1]
 refine jw fun w _ _=>?_
 rw[aQ he,List.countP_append,List.countP_cons,List.countP_nil]
 by_cases q:w=e.ab
 ·have:may w e=true:=by unfold may;simp only[Bool.and_eq_true,Bool.or_eq_true,decide_eq_true_eq];exact⟨q.symm,hm⟩
  rw[if_pos q,this];simp only[if_true];omega
 ·have:may w e=false:=by unfold may;rw[decide_eq_false (show ¬e.ab=w from fun y=>q y.symm)];rfl
  rw[if_neg q,this];simp only[Bool.false_eq_true,if_false];omega
theorem Kx{g:Int→Nat}{L:List Ev}{j:Nat}{e:Ev}(he:L[j]?=some e)(h:¬((((0<e.mode∨e.kind=3)∨e.kind=4)∧0≤e.ab)∧e.ab<16)):(my fun w=>g w+(L.take j).countP (may w))=my fun w=>g w+(L.take (j+1)).countP (may w):=jw fun w h0 h1=>by
 rw[aQ he,List.countP_append,List.countP_cons,List.countP_nil]
 have:may w e=false:=by
  cases hq:may w e with
  | false=>rfl
  | true =>
   unfold may at hq
   simp only[Bool.and_eq_true,Bool.or_eq_true,decide_eq_true_eq] at hq
   exact absurd ⟨⟨hq.2,by omega⟩,by omega⟩ h
 rw[this];simp only[Bool.false_eq_true,if_false];omega
def cP(l:Lib):Nat→Int→Nat
 | 0,_=>0
 | q+1,w=>cP l q w+fo (bS l (q:Int)) w+(l.rows.getD q []).count w
theorem FA{w:Int}{rows:List (List Int)}{q:Nat}(h:q<rows.length):rowN w (rows.take (q+1))=rowN w (rows.take q)+(rows.getD q []).count w:=by
 obtain⟨r,hr⟩:=ak h
 rw[aQ hr,aY hr]
 have:∀ (a b:List (List Int)),rowN w (a++b)=rowN w a+rowN w b:=fun a b=>by
  induction a with
  | nil=>show _=0+_;rw[Nat.zero_add];rfl
  | cons x a ih=>show x.count w+rowN w (a++b)=x.count w+rowN w a+_;rw[ih];omega
 rw[this];rfl
theorem sh(w:Int):∀ (a b:List aH),sumP w (a++b)=sumP w a+sumP w b
 | [],b=>by show sumP w b=0+_;omega
 | v::a,b=>by show iV w v+sumP w (a++b)=iV w v+sumP w a+_;rw[sh w a b];omega
theorem AZ{l:Lib}(hl:Lk l)(hr:l.rows.length=l.vs.length)(w:Int):∀ n,n≤l.vs.length→cP l n w+(cW l n).countP (may w)=rowN w (l.rows.take n)+sumP w (l.vs.take n)+l.waiting.countP (may w)
 | 0,_=>by show 0+l.waiting.countP (may w)=_;rw[List.take_zero,List.take_zero];rfl
 | n+1,hn=>by
  have ih:=AZ hl hr w n (by omega)
  obtain⟨v,hv⟩:=ak (show n<l.vs.length by omega)
  rw[FA (by omega),aQ hv,sh]
  show cP l n w+fo _ w+_+(cW l n++_).countP (may w)=_
  rw[List.countP_append]
  have key:fo (bS l (n:Int)) w+(bS l (n:Int)).evs.countP (may w)=iV w v:=by
   unfold bS
   by_cases hm:v.mode=0
   ·rw[if_neg (by unfold Lib.has;rw[bf,hv];simp[hm])]
    have h0:iV w v=0:=by rw[dC (eS (v:=v) (by omega)),hl.run hv (by omega) (by omega)];rfl
    rw[h0];exact Kq w
   ·rw[if_pos (by unfold Lib.has;rw[bf,hv];simp[hm]),Int.toNat_natCast,aY hv];rfl
  show _=_+(_+(iV w v+0))+_
  omega
theorem eC.eW{k:Nat}{l:Lib}(h:eC k l)(c:Int):eC (k+1) (l.eW c):=by
 have h0:aE 0 0 l ({l with aK:=(l.aK.done c).2.2 }:Lib):=⟨rfl,rfl,Nat.le_refl _,fun _ h=>h⟩
 have h1:=lU l.aK c
 have h2:=eD (l.aK.done c).1.av
 refine h.of ((h0.trans (aE.tell _ _)).le (by omega) (by omega)) ?_
 show gZ (k+2) (Lib.tell _ _).aK
 rw[(eR _ _).1.aK]
 exact h.sp.done c
theorem Lk.eW{l:Lib}(h:Lk l)(c:Int):Lk (l.eW c):=Lk.tell h.same (fZ _)
theorem A0{l:Lib}(h:Pk l)(hl:Lk l){w:Int}(hw:0≤w):cP l l.vs.length w+(cW l l.vs.length).countP (may w)=cS l.aK w:=by
 rw[AZ hl h.rl w _ (Nat.le_refl _),List.take_length,List.take_of_length_le (by rw[h.rl];exact Nat.le_refl _)]
 exact h.n w hw
theorem xt(l:Lib)(w:Int):∀ {a b:Nat},a≤b→cP l a w≤cP l b w
 | a,0,h=>by
  obtain rfl:a=0:=by omega
  exact Nat.le_refl _
 | a,b+1,h=>by
  by_cases e:a=b+1
  ·rw[e];exact Nat.le_refl _
  ·have:=xt l w (a:=a) (b:=b) (by omega)
   show _≤cP l b w+_+_
   omega
theorem yW{l:Lib}(h:Pk l)(hl:Lk l){w:Int}(hw:0≤w){q:Nat}(hq:q≤l.vs.length):cP l q w≤1:=by
 have h1:=xt l w hq
 have h2:=A0 h hl hw
 have h3:=oV l.aK w
 omega
theorem Ky{l:Lib}(h:Pk l)(hl:Lk l){n:Nat}(hn:l.vs.length=n):(my fun w=>cP l n w+(cW l n).countP (may w))=my (cS l.aK):=jw fun w h0 _=>by rw[← hn];exact A0 h hl h0
theorem FB{l:Lib}(h:Pk l)(hlt:l.aK.aF.length=16){q:Nat}{t:Int}(hq:q<l.rows.length)(ht:t∈l.rows.getD q []):0≤t∧t<16:=by
 obtain⟨r,hr⟩:=ak hq
 rw[aY hr] at ht
 have h0:=h.rg r (List.mem_of_getElem? hr) t ht
 refine⟨h0,?_⟩
 rcases Int.lt_or_le t 16 with g | g
 ·exact g
 ·have h1:=h.n t h0
  have h2:1≤rowN t l.rows:=by
   have:∀ x:List (List Int),r∈x→1≤rowN t x:=fun x=>by
    induction x with
    | nil=>intro hm;cases hm
    | cons a x ih =>
     intro hm
     show 1≤a.count t+rowN t x
     rcases List.mem_cons.1 hm with rfl | hm
     ·have:=List.count_pos_iff.2 ht;omega
     ·have:=ih hm;omega
   exact this _ (List.mem_of_getElem? hr)
  unfold vL at h1
  have h3:1≤cS l.aK t:=by omega
  unfold cS at h3
  cases ha:l.aK.at t with
  | none=>rw[ha] at h3;unfold rO at h3;simp at h3
  | some u =>
   have:=(List.getElem?_eq_some_iff.1 (iI ha).2).1
   omega
end Go.SLYthlllpngkljgfaaGreat
