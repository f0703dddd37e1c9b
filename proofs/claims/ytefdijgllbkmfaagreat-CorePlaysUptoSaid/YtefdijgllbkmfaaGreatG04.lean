/- Walks of functions, and what they compute. Conditions: none, this text proves no statement. -/
import Derived.Test.YtefdijgllbkmfaaGreatG03
import Derived.Laws.FloatBits
namespace Go.SLYtefdijgllbkmfaaGreat
open Go Go.RowKit
def eF(d e:Dng)(a n:Nat):Prop:=e.s.av.length≤d.s.av.length+a∧e.ends.length≤d.ends.length+n
theorem eF.refl{d:Dng}:eF d d 0 0:=⟨Nat.le_refl _,Nat.le_refl _⟩
theorem eF.up{d e:Dng}{a n a' n':Nat}(h:eF d e a n)(ha:a≤a')(hn:n≤n'):eF d e a' n':=⟨Nat.le_trans h.1 (by omega),Nat.le_trans h.2 (by omega)⟩
theorem eF.trans{d e f:Dng}{a n a' n':Nat}(h:eF d e a n)(k:eF e f a' n'):eF d f (a+a') (n+n'):=⟨by have:=h.1;have:=k.1;omega,by have:=h.2;have:=k.2;omega⟩
theorem eF.same{d e:Dng}(h1:e.s.av=d.s.av)(h2:e.ends=d.ends):eF d e 0 0:=⟨by rw[h1];exact Nat.le_refl _,by rw[h2];exact Nat.le_refl _⟩
theorem gx{d:Dng}{x y e:Int}{f:Bool}:eF d (d.tell x y e f) 1 0:=⟨by simp[Dng.tell,Spc.tell],Nat.le_refl _⟩
theorem cr{d:Dng}{x y e:Int}:eF d (d.pass x y e) 1 0:=⟨by simp[Dng.pass,Dng.aj,Spc.aj,Dng.tell,Spc.tell],Nat.le_refl _⟩
theorem fy{d:Dng}{w i x y:Int}:eF d (d.block w i x y) 1 0:=⟨by simp[Dng.block,Dng.aj,Spc.aj,Dng.tell,Spc.tell],Nat.le_refl _⟩
theorem mn{d:Dng}{n:Nat}{y:Int}:eF d (d.dU n y) 0 1:=⟨by simp[Dng.dU,Spc.cZ,Spc.aj],by simp[Dng.dU]⟩
theorem j7{d:Dng}{v:Int}:eF d (d.fin v) 0 1:=by
 unfold Dng.fin
 split
 ·exact(eF.same rfl rfl).up (Nat.le_refl _) (by decide)
 ·split
  ·exact(eF.same rfl rfl).up (Nat.le_refl _) (by decide)
  ·exact(eF.same (d:=d) (e:=d.ended) rfl rfl).trans (mn.trans (eF.same rfl rfl))
theorem m4{d:Dng}:eF d d.plain 1 1:=by
 unfold Dng.plain
 split
 ·have:∀ e:Dng,eF d e 1 0→ ∀ s:Spc,s.av=e.s.av→eF d {e with s:=s } 1 1:=fun e h s hs=>⟨by show s.av.length≤_;rw[hs];exact h.1,Nat.le_trans h.2 (by omega)⟩
  simp only
  refine this _ ?_ _ rfl
  split
  ·exact gx
  ·split
   ·exact gx
   ·exact eF.refl.up (by decide) (by decide)
 ·split
  ·exact gx.trans j7
  ·exact gx.trans j7
theorem m5{d:Dng}{n:Int}{ok:Bool}:eF d (d.given n ok) 0 1:=by
 unfold Dng.given
 split
 ·exact mn
 ·exact eF.refl.up (by decide) (by decide)
theorem cR{d e f:Dng}{a n:Nat}(h:eF e f a n)(h1:e.s.av=d.s.av)(h2:e.ends=d.ends):eF d f a n:=⟨by rw[← h1];exact h.1,by rw[← h2];exact h.2⟩
theorem je{s:Spc}{f a:Int}:(s.begin f a).2.2.av=s.av:=by
 unfold Spc.begin
 split <;> rfl
theorem yQ{d:Dng}:eF d d.spawn 1 1:=by
 unfold Dng.spawn
 refine eF.up (a:=1) (n:=0) ?_ (Nat.le_refl _) (by decide)
 exact cR cr (je (s:=d.s) (f:=d.i.n) (a:=d.b)) rfl
theorem BG{d:Dng}:eF d d.join 1 1:=by
 unfold Dng.join
 simp only
 repeat' split
 ·exact cr.up (Nat.le_refl _) (by decide)
 ·exact(cR cr rfl rfl).up (Nat.le_refl _) (by decide)
 ·exact(cR fy rfl rfl).up (Nat.le_refl _) (by decide)
theorem w9{d:Dng}:eF d d.cH 1 1:=by
 unfold Dng.cH
 simp only
 repeat' split
 ·exact cr.up (Nat.le_refl _) (by decide)
 ·exact(cR cr rfl rfl).up (Nat.le_refl _) (by decide)
 ·exact(cR cr rfl rfl).up (Nat.le_refl _) (by decide)
theorem yR{d:Dng}:eF d d.mutex 1 1:=by
 unfold Dng.mutex
 simp only
 repeat' split
 ·exact(cR fy rfl rfl).up (Nat.le_refl _) (by decide)
 ·exact(cR cr rfl rfl).up (Nat.le_refl _) (by decide)
 ·exact cR (cr.trans m5) rfl rfl
 ·exact(cR cr rfl rfl).up (Nat.le_refl _) (by decide)
 ·exact cR (fy.trans m5) rfl rfl
theorem D1{d:Dng}:eF d d.cf 1 1:=by
 unfold Dng.cf
 simp only
 repeat' split
 ·exact cR (cr.trans m5) rfl rfl
 ·exact(cR fy rfl rfl).up (Nat.le_refl _) (by decide)
 ·exact(cR cr rfl rfl).up (Nat.le_refl _) (by decide)
theorem xa{d:Dng}{b y i:Int}:eF d (d.ask b y i) 1 1:=by
 unfold Dng.ask
 simp only
 repeat' split
 ·exact(cR cr rfl rfl).up (Nat.le_refl _) (by decide)
 ·exact(cR fy rfl rfl).up (Nat.le_refl _) (by decide)
 ·exact cr.up (Nat.le_refl _) (by decide)
theorem D2{d:Dng}:eF d d.put 1 1:=by
 unfold Dng.put
 simp only
 repeat' split
 ·exact(cR fy rfl rfl).up (Nat.le_refl _) (by decide)
 ·exact cR (cr.trans mn) rfl rfl
 ·exact(cR cr rfl rfl).up (Nat.le_refl _) (by decide)
theorem D3{d:Dng}:eF d d.get 1 1:=by
 unfold Dng.get
 simp only
 repeat' split
 ·exact(cR fy rfl rfl).up (Nat.le_refl _) (by decide)
 ·exact cR (cr.trans mn) rfl rfl
 ·exact(cR cr rfl rfl).up (Nat.le_refl _) (by decide)
theorem yS{d:Dng}:eF d d.sleep 1 1:=by
 unfold Dng.sleep
 simp only
 repeat' split
 ·exact cr.up (Nat.le_refl _) (by decide)
 ·exact cr.up (Nat.le_refl _) (by decide)
 ·exact(cR fy rfl rfl).up (Nat.le_refl _) (by decide)
theorem xb{d:Dng}:eF d d.kernel 1 1:=by
 unfold Dng.kernel
 repeat' split
 ·exact xa
 ·exact xa
 ·exact D2
 ·exact D3
 ·exact yS
 ·exact cr.up (Nat.le_refl _) (by decide)
theorem xd(s:Spc)(a:List Int):(bX s a).av=s.av:=by
 induction a generalizing s with
 | nil=>rfl
 | cons x l ih=>exact(ih _).trans rfl
theorem vn(d:Dng)(a:List Int):(d.dv a).s.av=d.s.av:=by
 induction a generalizing d with
 | nil=>rfl
 | cons x l ih=>exact(ih _).trans rfl
theorem yU{d:Dng}{l:List Int}:eF d (d.jT l) 0 l.length:=by
 unfold Dng.jT
 refine⟨?_,?_⟩
 ·rw[vn];show(bX d.s d.waits).av.length≤_;rw[xd];exact Nat.le_refl _
 ·rw[(qm _ _).1];exact Nat.le_refl _
theorem pF{d:Dng}(h:∀ r∈d.s.ag.bm,r.length≤400000):eF d d.call 1 400001:=by
 unfold Dng.call
 simp only
 repeat' split
 ·exact yQ.up (Nat.le_refl _) (by decide)
 ·exact(cR cr rfl rfl).up (Nat.le_refl _) (by decide)
 ·exact(cr (d:=d)).up (Nat.le_refl _) (by decide)
 ·exact BG.up (Nat.le_refl _) (by decide)
 ·exact w9.up (Nat.le_refl _) (by decide)
 ·exact(gx.trans j7).up (Nat.le_refl _) (by decide)
 ·exact yR.up (Nat.le_refl _) (by decide)
 ·exact(cR (cr.trans yU) rfl rfl).up (Nat.le_refl _) (by have:=m3 (c:=d.i.n) (ch:=d.choice) (all:=decide (d.i.op=29)) h;omega)
 ·exact D1.up (Nat.le_refl _) (by decide)
 ·exact xb.up (Nat.le_refl _) (by decide)
end Go.SLYtefdijgllbkmfaaGreat
namespace Go.SLYtefdijgllbkmfaaGreat
open Go Go.RowKit
section
variable{P:Program}
theorem cN {d : Nat} {xs ys : Array Value} {f : Field} {fs : List Field} {a b : Value} {r : Bool} {w : World} (hn : (f.name != "_") = true) (pa : Part P f.type xs f.offset a) (pb : Part P f.type ys f.offset b) (h : (Op.equalIn d f.type a b).run P w = .ok r w) :
  (Op.eqFields d xs ys (f::fs)).run P w=if r=true then (Op.eqFields d xs ys fs).run P w else .ok false w:=by
 simp only[Op.eqFields,Sem.run_bind,Sem.run_ite,pa w,pb w,Result.andThen_ok,h]
 cases r
 ·simp;intro e;simp[e] at hn
 ·simp
end
def m6(t:bc):List Value:=[.int .u64 t.handle,.int .i64 t.why,.int .i64 t.fn,.int .i64 t.pc,.int .u64 (t.aq.getD 0 0),.int .u64 (t.aq.getD 1 0),.int .u64 (t.aq.getD 2 0),.int .u64 (t.aq.getD 3 0),.int .u64 (t.aq.getD 4 0),.int .u64 (t.aq.getD 5 0),.int .u64 (t.aq.getD 6 0),.int .u64 (t.aq.getD 7 0),.int .u64 t.value]
def F2:bc:=⟨0,0,[],0,0,0,false,0,0,0⟩
theorem rN{s:Spc}{n:Int}(h:s.at n=none):s.class n=0:=by unfold Spc.class;rw[h]
theorem yV{s:Spc}{n:Int}{t:bc}(h:s.at n=some t)(hw:t.why≠0):s.class n=0:=by unfold Spc.class;rw[h];simp only;rw[if_pos hw]
theorem BH{s:Spc}{n:Int}{t:bc}(h:s.at n=some t)(hw:¬t.why≠0)(hn:dD s.di t.gb=none):s.class n=2:=by unfold Spc.class;rw[h];simp only;rw[if_neg hw,hn]
theorem yW{s:Spc}{n:Int}{t:bc}{i:Ins}(h:s.at n=some t)(hw:¬t.why≠0)(hn:dD s.di t.gb=some i):s.class n=cls i.op:=by unfold Spc.class;rw[h];simp only;rw[if_neg hw,hn]
theorem D4{d:jy}{k:Int}(h:(d.done k).2.2.1=true):(d.done k).1∈d.wait∧(d.done k).2.2.2.wait.length≤d.wait.length:=by
 unfold jy.done at h ⊢
 split at h
 ·cases h
 ·rename_i h0
  rw[if_neg h0]
  simp only
  have hm:d.wait.getD (pick k d.wait.length) ⟨0,0,false,0⟩∈d.wait:=by
   have:=eY (t:=k) (n:=d.wait.length) (by omega)
   rw[List.getD_eq_getElem?_getD,List.getElem?_eq_getElem this];exact List.getElem_mem _
  split
  ·exact⟨hm,by simp only;rw[List.length_eraseIdx];split <;> omega⟩
  ·exact⟨hm,by simp only;rw[List.length_eraseIdx];split <;> omega⟩
theorem H9{b:Nat}{x:Int}:∀ h,seps [arr b 0 [.int .i64 x]] h→sl aH 1 (.slice (some ⟨b,0,none⟩) 1 1) [x] h:=fun h a=>by
 have a:arr b 0 [.int .i64 x] h:=by simpa only[seps,aR] using a
 exact .inr ⟨b,1,[],rfl,Nat.le_refl _,fun _ _=>rfl,rfl,a⟩
theorem BI{d:jy}{k:Int}(h:(d.done k).2.2.1=false):(d.done k).2.2.2=d:=by
 by_cases h0:d.wait.length=0
 ·rw[mi h0]
 ·cases hw:(d.wait.getD (pick k d.wait.length) rD).write with
  | true=>rw[kK h0 rfl hw] at h;cases h
  | false=>rw[mj h0 rfl hw] at h;cases h
theorem lQ{s:Spc}{k:Int}(h:(s.aO.done k).2.2.1=false):s.done k=(fF.z,3,s):=by unfold Spc.done;simp only;rw[if_pos h]
theorem lR{s:Spc}{k:Int}{t:bc}(h:(s.aO.done k).2.2.1=true)(ht:s.thr[(s.aO.done k).1.who.toNat]?=some (some t)) :
  s.done k=(⟨[(s.aO.done k).1.who],false,false,false⟩,0,(({s with aO:=(s.aO.done k).2.2.2 }:Spc).cZ (s.aO.done k).1.who.toNat (s.aO.done k).2.1).tell (t.dE (s.aO.done k).2.1)):=by
 unfold Spc.done;simp only;rw[if_neg (by rw[h];simp),show({s with aO:=(s.aO.done k).2.2.2 }:Spc).t (s.aO.done k).1.who.toNat=t from cO ht]
theorem vo(s:Spc)(a:List Int)(n:Int):cW s (a++[n])=((cW s a).cZ n.toNat 0).tell (((cW s a).t n.toNat).dE 0):=by
 induction a generalizing s with
 | nil=>rfl
 | cons x l ih=>exact ih _
theorem vq{ps:List (Option Nat)}(m:Nat)(a:List Int):∀ (s:Spc),bZ ps s m→(∀ w∈a,bZ ps s w.toNat)→bZ ps (cW s a) m:=by
 induction a with
 | nil=>intro d h _;exact h
 | cons x l ih =>
  intro s h ha
  obtain⟨hn16,q,u,hq,hu,hR⟩:=ha x List.mem_cons_self
  have key:∀ {k:Nat},bZ ps s k→bZ ps ((s.cZ x.toNat 0).tell ((s.t x.toNat).dE 0)) k:=fun hk=>by
   have:=hk.aj (n:=x.toNat) (hR.cE (y:=0) (by decide))
   refine bZ.of (s:=s.aj x.toNat (u.cE 0)) this ?_
   unfold Spc.tell Spc.cZ;rw[cO hu]
  exact ih _ (key h) (fun w hw=>key (ha w (List.mem_cons_of_mem _ hw)))
theorem og(s:Spc)(a:List Int):(cW s a).av.length=s.av.length+a.length:=by
 induction a generalizing s with
 | nil=>rfl
 | cons x l ih =>
  show(cW _ l).av.length=_
  rw[ih];simp[Spc.tell,Spc.cZ,Spc.aj];omega
theorem Ap{w:jS}{x:Int}(h:x∈w.due):∃ y∈w.dT,y.1=x:=by
 unfold jS.due at h
 have hs:∀ (l:List Int),x∈gr l→x∈l:=by
  intro l
  induction l with
  | nil=>exact fun h=>h
  | cons a l ih =>
   intro h
   have hi:∀ (m:List Int),x∈dB a m→x=a∨x∈m:=by
    intro m
    induction m with
    | nil=>intro h;rcases List.mem_singleton.1 h with rfl;exact .inl rfl
    | cons b m ihm =>
     intro h
     unfold dB at h
     split at h
     ·rcases List.mem_cons.1 h with h | h
      ·exact .inl h
      ·exact .inr h
     ·rcases List.mem_cons.1 h with h | h
      ·exact .inr (h ▸ List.mem_cons_self)
      ·rcases ihm h with h | h
       ·exact .inl h
       ·exact .inr (List.mem_cons_of_mem _ h)
   rcases hi _ h with h | h
   ·rw[h];exact List.mem_cons_self
   ·exact List.mem_cons_of_mem _ (ih h)
 obtain⟨y,hy,e⟩:=List.mem_map.1 (hs _ h)
 exact⟨y,(List.mem_filter.1 hy).1,e⟩
theorem BJ(l:List Int):(gr l).length=l.length:=by
 induction l with
 | nil=>rfl
 | cons a l ih =>
  have hi:∀ (m:List Int),(dB a m).length=m.length+1:=by
   intro m
   induction m with
   | nil=>rfl
   | cons b m ihm=>unfold dB;split <;> simp[ihm]
  show(dB a (gr l)).length=_
  rw[hi,ih,List.length_cons]
theorem xe(w:jS):w.due.length≤w.dT.length:=by
 unfold jS.due;rw[BJ,List.length_map];exact List.length_filter_le ..
end Go.SLYtefdijgllbkmfaaGreat
namespace Go.SLYtefdijgllbkmfaaGreat
open Go Go.RowKit
def kP{α:Type}(f:α→Nat)(l:List α):Nat:=(l.map f).sum
theorem gd{α:Type}{f:α→Nat}:∀ {l:List α} {i:Nat} {x:α} (y:α),l[i]?=some x→kP f (l.set i y)+f x=kP f l+f y
 | a::l,0,x,y,h=>by
  obtain rfl:a=x:=by simpa using h
  simp[kP];omega
 | a::l,i+1,x,y,h=>by
  have:=gd (f:=f) (l:=l) (i:=i) y (by simpa using h)
  simp[kP] at this ⊢;omega
theorem cX{α:Type}{f:α→Nat}:∀ {l:List α} {x:α},x∈l→f x≤kP f l
 | a::l,x,h=>by
  rcases List.mem_cons.1 h with rfl | h
  ·simp[kP]
  ·have:=cX (f:=f) h
   simp[kP] at this ⊢;omega
theorem pG{α:Type}{f:α→Nat}{l:List α}(h:∀ x∈l,f x=0):kP f l=0:=by
 induction l with
 | nil=>rfl
 | cons a l ih =>
  have:=ih (fun x hx=>h x (List.mem_cons_of_mem _ hx))
  have:=h a List.mem_cons_self
  simp[kP] at *;omega
theorem kQ{α:Type}{P:α→Bool}:∀ {l:List α} {i:Nat} {x:α},l[i]?=some x→(l.eraseIdx i).countP P+(if P x=true then 1 else 0)=l.countP P
 | a::l,0,x,h=>by
  obtain rfl:a=x:=by simpa using h
  simp[List.countP_cons]
 | a::l,i+1,x,h=>by
  have:=kQ (P:=P) (l:=l) (i:=i) (x:=x) (by simpa using h)
  simp[List.countP_cons] at this ⊢;omega
def D5(w:Int)(x:cV):Bool:=decide (x.who=w)
def da(w:Int)(l:List cV):Nat:=l.countP (D5 w)
def cG(g:Gates)(w:Int):Nat:=kP (fun m:dt=>da w m.wait) g.aG+kP (da w) g.bm+kP (fun m:jo=>da w m.wait) g.cf
def cU(w:Int)(u:Tub):Nat:=u.bC.count w+u.bN.countP fun x=>decide (x.who=w)
def cT(l:List Tub)(w:Int):Nat:=kP (cU w) l
def cD(d:jy)(w:Int):Nat:=d.wait.countP fun r=>decide (r.who=w)
def cL(u:jS)(w:Int):Nat:=u.dT.countP fun x=>decide (x.1=w)
def jn(w:Int):Option bc→Nat
 | none=>0
 | some t=>if t.au=w∧¬w = -1 then 1 else 0
def cJ(l:List (Option bc))(w:Int):Nat:=kP (jn w) l
def gF(s:Spc)(w:Int):Nat:=cG s.ag w+cT s.bx w+cD s.aO w+cL s.ay w+cJ s.thr w
def bT(t:bc):Nat:=if t.why=0∨t.why=9 then 0 else 1
def bO:Option bc→Nat
 | none=>0
 | some t=>bT t
def rO:Option bc→Nat
 | none=>0
 | some t=>if t.why=0 then 1 else 0
def dX(s:Spc)(w:Int):Nat:=bO (s.at w)
def dV(s:Spc)(w:Int):Nat:=rO (s.at w)
def fJ(x:Int):Prop:=0≤x∧x≤18446744073709551615
structure qL(p:fE)(g:Gates):Prop where
 m:g.aG.length=p.aA.toNat
 c:g.bm.length=p.conds.toNat
 s:g.cf.length=p.aW.length
 sc:∀ x∈g.cf,0≤x.count∧x.count≤1048576
 cm:∀ r∈g.bm, ∀ w∈r,0≤w.mutex∧w.mutex<(g.aG.length:Int)
structure Hk(u:Tub):Prop where
 r:u.room≤8
 l:u.words.length≤8
 w:∀ x∈u.words,fJ x
 p:∀ x∈u.bN,fJ x.x
structure yX(d:jy):Prop where
 l:d.blocks.length≤64
 b:∀ x∈d.blocks,fJ x
 w:∀ r∈d.wait,0≤r.block∧r.block<(d.blocks.length:Int)∧fJ r.x
structure Ia(o:Bool×Int)(n:Nat)(t:bc):Prop where
 h:t.handle=dh o.2 n
 R:gJ t
 pc:0≤t.pc∧t.pc≤257
 d:t.bq=true→t.au = -1
 f:t.why=9→t.au = -1
def tB(p:fE):Prop:=ew p=0∧ ∀ f∈p.funcs, ∀ i∈f,fJ i.n
structure Ok(k:Nat)(s:Spc)(p q:List Int):Prop where
 ye:tB s.di
 lt:s.thr.length=16
 ll:s.table.length=16
 tk:∀ o∈s.table,0≤o.2∧o.2≤(k:Int)
 us:∀ n:Nat,n<16→((s.table.getD n (false,0)).1=true↔ ∃ t,s.thr[n]?=some (some t))
 th:∀ (n:Nat) (t:bc),s.thr[n]?=some (some t)→Ia (s.table.getD n (false,0)) n t
 me:s.mem.length=s.di.words.toNat∧ ∀ x∈s.mem,fJ x
 gt:qL s.di s.ag
 tb:s.bx.length=s.di.aL.length∧ ∀ u∈s.bx,Hk u
 dk:yX s.aO
 wl:0≤s.ay.now∧s.ay.now≤1099511627776
 oh:∀ w,gF s w+p.count w=dX s w+q.count w
/-! who is at a place -/
theorem iA{s:Spc}{n:Nat}:s.at (n:Int)=(s.thr[n]?).getD none:=by
 unfold Spc.at eU;rw[if_neg (by omega),Int.toNat_natCast]
theorem yY{s:Spc}{w:Int}(h:w<0):s.at w=none:=by unfold Spc.at eU;rw[if_pos h];rfl
theorem jL{s:Spc}{n:Nat}{o:Option bc}(hn:n<s.thr.length)(w:Int):({s with thr:=s.thr.set n o }:Spc).at w=if w=(n:Int) then o else s.at w:=by
 by_cases h0:w<0
 ·rw[yY h0,yY h0,if_neg (by omega)]
 ·obtain⟨m,rfl⟩:∃ m:Nat,w=(m:Int):=⟨w.toNat,by omega⟩
  rw[iA,iA]
  simp only
  by_cases e:m=n
  ·subst e;rw[List.getElem?_set_self hn,if_pos rfl];rfl
  ·rw[List.getElem?_set_ne (fun h=>e h.symm),if_neg (by omega)]
theorem jE{s:Spc}{n:Nat}{t:bc}(h:s.thr[n]?=some (some t)):s.at (n:Int)=some t:=by rw[iA,h];rfl
theorem eL{s:Spc}{w:Int}{t:bc}(h:s.at w=some t):0≤w∧s.thr[w.toNat]?=some (some t):=by
 by_cases h0:w<0
 ·rw[yY h0] at h;cases h
 ·obtain⟨m,rfl⟩:∃ m:Nat,w=(m:Int):=⟨w.toNat,by omega⟩
  rw[iA] at h
  refine⟨by omega,?_⟩
  rw[Int.toNat_natCast]
  cases e:s.thr[m]? with
  | none=>rw[e] at h;cases h
  | some o=>rw[e] at h;exact congrArg some h
theorem gG{s:Spc}{w:Int}(h:0<dX s w):∃ t,s.at w=some t∧t.why≠0∧t.why≠9:=by
 unfold dX bO at h
 cases e:s.at w with
 | none=>rw[e] at h;exact absurd h (by simp)
 | some t =>
  rw[e] at h;simp only[bT] at h
  split at h
  ·exact absurd h (by simp)
  ·exact⟨t,rfl,by omega,by omega⟩
theorem pH{s:Spc}{w:Int}:dX s w≤1:=by
 unfold dX bO
 split
 ·omega
 ·unfold bT;split <;> omega
theorem m7{t:bc}(h:t.why=0):bT t=0:=by unfold bT;rw[if_pos (.inl h)]
theorem jM{t:bc}(h:t.why≠0)(h9:t.why≠9):bT t=1:=by unfold bT;rw[if_neg (by omega)]
/-! steps that keep a space in order -/
section
variable{k:Nat}{s:Spc}{p q:List Int}
theorem Ok.av(h:Ok k s p q)(l:List Rec):Ok k {s with av:=l } p q:=⟨h.ye,h.lt,h.ll,h.tk,h.us,h.th,h.me,h.gt,h.tb,h.dk,h.wl,h.oh⟩
theorem Ok.Ib(h:Ok k s p q){p' q':List Int}(e:∀ w,p'.count w+q.count w=p.count w+q'.count w):Ok k s p' q':=⟨h.ye,h.lt,h.ll,h.tk,h.us,h.th,h.me,h.gt,h.tb,h.dk,h.wl,fun w=>by have:=h.oh w;have:=e w;omega⟩
theorem Ok.more(h:Ok k s p q){k':Nat}(hk:k≤k'):Ok k' s p q:=⟨h.ye,h.lt,h.ll,fun o ho=>by have:=h.tk o ho;omega,h.us,h.th,h.me,h.gt,h.tb,h.dk,h.wl,h.oh⟩
theorem Ok.mem(h:Ok k s p q){m:List Int}(hl:m.length=s.mem.length)(hw:∀ x∈m,fJ x):Ok k {s with mem:=m } p q:=⟨h.ye,h.lt,h.ll,h.tk,h.us,h.th,⟨hl.trans h.me.1,hw⟩,h.gt,h.tb,h.dk,h.wl,h.oh⟩
theorem Ok.ag(h:Ok k s p q){g:Gates}(hg:qL s.di g){p' q':List Int}(e:∀ w,cG g w+p'.count w+q.count w=cG s.ag w+p.count w+q'.count w):Ok k {s with ag:=g } p' q' :=
 ⟨h.ye,h.lt,h.ll,h.tk,h.us,h.th,h.me,hg,h.tb,h.dk,h.wl,fun w=>by
  have h1:=h.oh w;have h2:=e w
  have h3:dX {s with ag:=g } w=dX s w:=rfl
  rw[h3];unfold gF at h1 ⊢;simp only;omega⟩
theorem Ok.bx(h:Ok k s p q){l:List Tub}(hl:l.length=s.bx.length)(hu:∀ u∈l,Hk u){p' q':List Int}(e:∀ w,cT l w+p'.count w+q.count w=cT s.bx w+p.count w+q'.count w):Ok k {s with bx:=l } p' q' :=
 ⟨h.ye,h.lt,h.ll,h.tk,h.us,h.th,h.me,h.gt,⟨hl.trans h.tb.1,hu⟩,h.dk,h.wl,fun w=>by
  have h1:=h.oh w;have h2:=e w
  have h3:dX {s with bx:=l } w=dX s w:=rfl
  rw[h3];unfold gF at h1 ⊢;simp only;omega⟩
theorem Ok.aO(h:Ok k s p q){d:jy}(hd:yX d){p' q':List Int}(e:∀ w,cD d w+p'.count w+q.count w=cD s.aO w+p.count w+q'.count w):Ok k {s with aO:=d } p' q' :=
 ⟨h.ye,h.lt,h.ll,h.tk,h.us,h.th,h.me,h.gt,h.tb,hd,h.wl,fun w=>by
  have h1:=h.oh w;have h2:=e w
  have h3:dX {s with aO:=d } w=dX s w:=rfl
  rw[h3];unfold gF at h1 ⊢;simp only;omega⟩
theorem Ok.ay(h:Ok k s p q){u:jS}(hu:0≤u.now∧u.now≤1099511627776){p' q':List Int}(e:∀ w,cL u w+p'.count w+q.count w=cL s.ay w+p.count w+q'.count w):Ok k {s with ay:=u } p' q' :=
 ⟨h.ye,h.lt,h.ll,h.tk,h.us,h.th,h.me,h.gt,h.tb,h.dk,hu,fun w=>by
  have h1:=h.oh w;have h2:=e w
  have h3:dX {s with ay:=u } w=dX s w:=rfl
  rw[h3];unfold gF at h1 ⊢;simp only;omega⟩
theorem Ok.aj(h:Ok k s p q){n:Nat}{t t':bc}(ht:s.thr[n]?=some (some t))(hh:Ia (s.table.getD n (false,0)) n t'){p' q':List Int}
  (e:∀ w,jn w (some t')+(if w=(n:Int) then bT t else 0)+p'.count w+q.count w=jn w (some t)+(if w=(n:Int) then bT t' else 0)+p.count w+q'.count w):Ok k (s.aj n t') p' q':=by
 have hn:n<s.thr.length:=(List.getElem?_eq_some_iff.1 ht).1
 refine⟨h.ye,?_,h.ll,h.tk,fun m hm=>?_,fun m u hu=>?_,h.me,h.gt,h.tb,h.dk,h.wl,fun w=>?_⟩
 ·show(s.thr.set n _).length=16;rw[List.length_set];exact h.lt
 ·refine(h.us m hm).trans ?_
  show(∃ t,s.thr[m]?=_)↔ ∃ t,(s.thr.set n (some t'))[m]?=_
  by_cases e:n=m
  ·subst e;rw[List.getElem?_set_self hn];exact⟨fun _=>⟨_,rfl⟩,fun _=>⟨_,ht⟩⟩
  ·rw[List.getElem?_set_ne e]
 ·have hu:(s.thr.set n (some t'))[m]?=some (some u):=hu
  by_cases e:n=m
  ·subst e;rw[List.getElem?_set_self hn] at hu;cases hu;exact hh
  ·rw[List.getElem?_set_ne e] at hu;exact h.th m u hu
 ·have h1:=h.oh w;have h2:=e w
  have h3:cJ (s.aj n t').thr w+jn w (some t)=cJ s.thr w+jn w (some t'):=gd (f:=jn w) (some t') ht
  have h4:dX (s.aj n t') w+(if w=(n:Int) then bT t else 0)=dX s w+(if w=(n:Int) then bT t' else 0):=by
   unfold dX
   rw[show(s.aj n t').at w=_ from jL hn w]
   by_cases e:w=(n:Int)
   ·subst e;simp only[if_pos];rw[jE ht];simp only[bO];omega
   ·simp only[if_neg e]
  have h5:gF (s.aj n t') w=cG s.ag w+cT s.bx w+cD s.aO w+cL s.ay w+cJ (s.aj n t').thr w:=rfl
  rw[h5];unfold gF at h1;omega
end
end Go.SLYtefdijgllbkmfaaGreat
namespace Go.SLYtefdijgllbkmfaaGreat
open Go Go.RowKit
section
variable{k:Nat}{s:Spc}{p q:List Int}
theorem xf{l:List (Bool×Int)}{n:Nat}(hn:n<16)(hl:l.length=16)(h1:(l.getD n (false,0)).1=true)(_h0:0≤(l.getD n (false,0)).2):bj l (dh (l.getD n (false,0)).2 n)=some n:=by
 unfold bj
 have e:dh (l.getD n (false,0)).2 n % 65536=(n:Int)+1:=by unfold dh;omega
 rw[e,if_neg (by omega),show((n:Int)+1-1).toNat=n from by omega]
 have hx:=getD_some (d:=(false,(0:Int))) (show n<l.length by omega)
 rw[hx]
 simp only
 rw[if_pos (by simp only[and_true];exact h1)]
theorem Ok.D6(h:Ok k s p q){n:Nat}{t:bc}(ht:s.thr[n]?=some (some t)):s.free n = {s with table:=s.table.set n (false,(s.table.getD n (false,0)).2),thr:=s.thr.set n none }:=by
 have hn:n<16:=h.lt ▸ (List.getElem?_eq_some_iff.1 ht).1
 have hx:=getD_some (d:=(false,(0:Int))) (show n<s.table.length by rw[h.ll];exact hn)
 have h0:=h.tk _ (List.mem_of_getElem? hx)
 unfold Spc.free
 rw[cO ht,(h.th n t ht).h,ry (xf hn h.ll ((h.us n hn).2 ⟨t,ht⟩) h0.1)]
 rfl
theorem Ok.free(h:Ok k s p q){n:Nat}{t:bc}(ht:s.thr[n]?=some (some t)){p' q':List Int}
  (e:∀ w,(if w=(n:Int) then bT t else 0)+p'.count w+q.count w=jn w (some t)+p.count w+q'.count w):Ok k (s.free n) p' q':=by
 have hn:n<s.thr.length:=(List.getElem?_eq_some_iff.1 ht).1
 have hn16:n<16:=h.lt ▸ hn
 have hlt:n<s.table.length:=by rw[h.ll];exact hn16
 have hx:=getD_some (d:=(false,(0:Int))) hlt
 rw[h.D6 ht]
 refine⟨h.ye,?_,?_,fun o ho=>?_,fun m hm=>?_,fun m u hu=>?_,h.me,h.gt,h.tb,h.dk,h.wl,fun w=>?_⟩
 ·show(s.thr.set n _).length=16;rw[List.length_set];exact h.lt
 ·show(s.table.set n _).length=16;rw[List.length_set];exact h.ll
 ·rcases List.mem_or_eq_of_mem_set ho with ho | rfl
  ·exact h.tk o ho
  ·show 0≤(s.table.getD n (false,0)).2∧_
   exact h.tk _ (List.mem_of_getElem? hx)
 ·show((s.table.set n _).getD m (false,0)).1=true↔ ∃ t,(s.thr.set n none)[m]?=_
  by_cases e:n=m
  ·subst e
   rw[List.getElem?_set_self hn,List.getD_eq_getElem?_getD,List.getElem?_set_self hlt]
   exact⟨fun h=>(by cases h),fun⟨t,h⟩=>(by cases h)⟩
  ·rw[List.getElem?_set_ne e,List.getD_eq_getElem?_getD,List.getElem?_set_ne e, ← List.getD_eq_getElem?_getD]
   exact h.us m hm
 ·have hu:(s.thr.set n none)[m]?=some (some u):=hu
  by_cases e:n=m
  ·subst e;rw[List.getElem?_set_self hn] at hu;cases hu
  ·rw[List.getElem?_set_ne e] at hu
   show Ia ((s.table.set n _).getD m (false,0)) m u
   rw[List.getD_eq_getElem?_getD,List.getElem?_set_ne e, ← List.getD_eq_getElem?_getD]
   exact h.th m u hu
 ·have h1:=h.oh w;have h2:=e w
  have h3:cJ (s.thr.set n none) w+jn w (some t)=cJ s.thr w+0:=gd (f:=jn w) none ht
  have h4:dX {s with thr:=s.thr.set n none } w+(if w=(n:Int) then bT t else 0)=dX s w:=by
   unfold dX
   rw[jL hn w]
   by_cases e:w=(n:Int)
   ·subst e;simp only[if_pos];rw[jE ht];simp only[bO];omega
   ·simp only[if_neg e];omega
  have h5:dX {s with table:=s.table.set n (false,(s.table.getD n (false,0)).2),thr:=s.thr.set n none } w=dX {s with thr:=s.thr.set n none } w:=rfl
  rw[h5]
  unfold gF at h1 ⊢
  simp only
  omega
theorem Ok.begin(h:Ok k s p q)(hk:k≤1000000){f arg:Int}(ha:fJ arg):Ok (k+1) (s.begin f arg).2.2 p q:=by
 cases hf:slotFree? s.table 0 with
 | none=>rw[iY hf];exact h.more (Nat.le_succ _)
 | some n =>
  have hfr:∀ (l:List (Bool×Int)) (i n:Nat),slotFree? l i=some n→i≤n∧ ∃ o,l[n-i]?=some o∧o.1=false:=by
   intro l
   induction l with
   | nil=>intro i n h;cases h
   | cons o l ih =>
    intro i n h
    unfold slotFree? at h
    split at h
    ·obtain⟨a,o',b,c⟩:=ih (i+1) n h
     exact⟨by omega,o',by rw[show n-i=(n-(i+1))+1 from by omega];simpa using b,c⟩
    ·cases h;rename_i hb
     exact⟨Nat.le_refl _,o,by simp,by simpa using hb⟩
  obtain⟨-,o,ho,ho1⟩:=hfr _ _ _ hf
  rw[Nat.sub_zero] at ho
  have hlt:n<s.table.length:=(List.getElem?_eq_some_iff.1 ho).1
  have hn16:n<16:=h.ll ▸ hlt
  have hn:n<s.thr.length:=by rw[h.lt];exact hn16
  have hgd:s.table.getD n (false,0)=o:=by rw[List.getD_eq_getElem?_getD,ho];rfl
  have hno:s.thr[n]?=some none:=by
   obtain⟨x,hx⟩:=aB hn
   cases x with
   | none=>exact hx
   | some t=>have:=(h.us n hn16).2 ⟨t,hx⟩;rw[hgd,ho1] at this;cases this
  have htk:=h.tk o (List.mem_of_getElem? ho)
  rw[dS hf,hgd]
  refine⟨h.ye,?_,?_,fun o' ho'=>?_,fun m hm=>?_,fun m u hu=>?_,h.me,h.gt,h.tb,h.dk,h.wl,fun w=>?_⟩
  ·show(s.thr.set n _).length=16;rw[List.length_set];exact h.lt
  ·show(s.table.set n _).length=16;rw[List.length_set];exact h.ll
  ·rcases List.mem_or_eq_of_mem_set ho' with ho' | rfl
   ·have:=h.tk o' ho';omega
   ·show 0≤o.2+1∧o.2+1≤((k+1:Nat):Int);omega
  ·show((s.table.set n _).getD m (false,0)).1=true↔ ∃ t,(s.thr.set n _)[m]?=_
   by_cases e:n=m
   ·subst e
    rw[List.getElem?_set_self hn,List.getD_eq_getElem?_getD,List.getElem?_set_self hlt]
    exact⟨fun _=>⟨_,rfl⟩,fun _=>rfl⟩
   ·rw[List.getElem?_set_ne e,List.getD_eq_getElem?_getD,List.getElem?_set_ne e, ← List.getD_eq_getElem?_getD]
    exact h.us m hm
  ·have hu:(s.thr.set n _)[m]?=some (some u):=hu
   by_cases e:n=m
   ·subst e;rw[List.getElem?_set_self hn] at hu;cases hu
    show Ia ((s.table.set n _).getD n (false,0)) n _
    rw[List.getD_eq_getElem?_getD,List.getElem?_set_self hlt]
    refine⟨rfl,⟨rfl,fun m=>?_,by show(-1:Int)≤ -1∧(-1:Int)<8;decide,by show(0:Int)≤0∧(0:Int)≤_;decide,?_⟩,by show(0:Int)≤0∧(0:Int)≤257;decide,fun h=>(by cases h),fun h=>rfl⟩
    ·have h0:(0:Int)≤0∧(0:Int)≤18446744073709551615:=by decide
     show 0≤([arg,0,0,0,0,0,0,0]:List Int).getD m 0∧_
     match m with
     | 0=>exact ha
     | 1=>exact h0
     | 2=>exact h0
     | 3=>exact h0
     | 4=>exact h0
     | 5=>exact h0
     | 6=>exact h0
     | 7=>exact h0
     | m+8=>exact h0
    ·show 0≤dh (o.2+1) n∧dh (o.2+1) n≤_;unfold dh;omega
   ·rw[List.getElem?_set_ne e] at hu
    show Ia ((s.table.set n _).getD m (false,0)) m u
    rw[List.getD_eq_getElem?_getD,List.getElem?_set_ne e, ← List.getD_eq_getElem?_getD]
    exact h.th m u hu
  ·have h1:=h.oh w
   have h3:cJ (s.thr.set n (some (mD f arg (dh (o.2+1) n)))) w+0=cJ s.thr w+jn w (some (mD f arg (dh (o.2+1) n))):=gd (f:=jn w) _ hno
   have hj:jn w (some (mD f arg (dh (o.2+1) n)))=0:=by unfold jn;exact if_neg (by rintro⟨a,b⟩;exact b a.symm)
   have h4:dX {s with thr:=s.thr.set n (some (mD f arg (dh (o.2+1) n))) } w=dX s w:=by
    unfold dX
    rw[jL hn w]
    by_cases e:w=(n:Int)
    ·subst e;simp only[if_pos];rw[iA,hno];rfl
    ·simp only[if_neg e]
   have h5:dX {s with table:=s.table.set n (true,o.2+1),thr:=s.thr.set n (some (mD f arg (dh (o.2+1) n))) } w=dX {s with thr:=s.thr.set n (some (mD f arg (dh (o.2+1) n))) } w:=rfl
   rw[h5]
   unfold gF at h1 ⊢
   simp only
   omega
end
end Go.SLYtefdijgllbkmfaaGreat
namespace Go.SLYtefdijgllbkmfaaGreat
open Go Go.RowKit
def opn(V:List Rec)(h:Int):Option Int:=match (V.filter fun r=>decide (r.ef=h)).getLast? with | none=>none | some r=>if r.fin=true then none else some r.op
theorem D7{V:List Rec}{r:Rec}{h:Int}(e:r.ef=h):opn (V++[r]) h=if r.fin=true then none else some r.op:=by
 unfold opn;rw[List.filter_append];simp[e]
theorem BK{V:List Rec}{r:Rec}{h:Int}(e:r.ef≠h):opn (V++[r]) h=opn V h:=by
 unfold opn;rw[List.filter_append];simp[e]
def rP(V:List Rec):Prop:=∀ a r b,V=a++r::b→ ∀ op,opn a r.ef=some op→r.fin=true∧r.op=op∧r.x=0∧r.result=0
theorem rP.nil:rP []:=fun a r b e=>by cases a <;> cases e
theorem rP.snoc{V:List Rec}{r:Rec}(h:rP V)(hr:∀ op,opn V r.ef=some op→r.fin=true∧r.op=op∧r.x=0∧r.result=0):rP (V++[r]):=fun a q b e=>by
 rcases List.eq_nil_or_concat b with rfl | ⟨b',z,rfl⟩
 ·have:=List.append_inj' e rfl
  obtain⟨rfl,h2⟩:=this
  cases h2
  exact hr
 ·rw[List.concat_eq_append, ← List.cons_append, ← List.append_assoc] at e
  have:=List.append_inj' e rfl
  exact h a q b' this.1
structure eg(s:Spc)(V:List Rec):Prop where
 pr:rP V
 op:∀ (n:Nat) (t:bc),s.thr[n]?=some (some t)→opn V t.handle=if bT t=1 then some t.op else none
 hd:∀ r∈V, ∃ (n:Nat) (k:Int),n<16∧r.ef=dh k n∧k≤(s.table.getD n (false,0)).2
theorem tC{a b:Int}{n m:Nat}(hn:n<16)(hm:m<16)(h:dh a n=dh b m):n=m∧a=b:=by unfold dh at h;omega
section
variable{k:Nat}{s:Spc}{p q:List Int}{V:List Rec}{n:Nat}{t t':bc}
theorem eg.of(h:eg s V){s':Spc}(e1:s'.thr=s.thr)(e2:s'.table=s.table):eg s' V:=⟨h.pr,fun n t ht=>h.op n t (by rw[← e1];exact ht),fun r hr=>by rw[e2];exact h.hd r hr⟩
theorem BL(hO:Ok k s p q){m:Nat}{u:bc}(ht:s.thr[n]?=some (some t))(hu:s.thr[m]?=some (some u))(hne:n≠m):t.handle≠u.handle:=fun e=>by
 rw[(hO.th n t ht).h,(hO.th m u hu).h] at e
 exact hne (tC (hO.lt ▸ (List.getElem?_eq_some_iff.1 ht).1) (hO.lt ▸ (List.getElem?_eq_some_iff.1 hu).1) e).1
theorem eg.vu(h:eg s V)(hO:Ok k s p q)(ht:s.thr[n]?=some (some t)){r:Rec}(hr:r.ef=t.handle)(hh:t'.handle=t.handle)(hp:∀ op,opn V t.handle=some op→r.fin=true∧r.op=op∧r.x=0∧r.result=0)
  (he:(if r.fin=true then none else some r.op)=if bT t'=1 then some t'.op else none):eg (s.aj n t') (V++[r]):=by
 have hn:n<s.thr.length:=(List.getElem?_eq_some_iff.1 ht).1
 refine⟨h.pr.snoc (by rw[hr];exact hp),fun m u hu=>?_,fun x hx=>?_⟩
 ·have hu:(s.thr.set n (some t'))[m]?=some (some u):=hu
  by_cases e:n=m
  ·subst e;rw[List.getElem?_set_self hn] at hu;cases hu
   rw[hh,D7 hr];exact he
  ·rw[List.getElem?_set_ne e] at hu
   rw[BK (by rw[hr];exact BL hO ht hu e)]
   exact h.op m u hu
 ·rcases List.mem_append.1 hx with hx | hx
  ·exact h.hd x hx
  ·rw[List.mem_singleton] at hx
   rw[hx,hr,(hO.th n t ht).h]
   exact⟨n,_,hO.lt ▸ hn,rfl,Int.le_refl _⟩
theorem eg.aj(h:eg s V)(ht:s.thr[n]?=some (some t))(hh:t'.handle=t.handle)(hb:bT t'=bT t)(ho:bT t=1→t'.op=t.op):eg (s.aj n t') V:=by
 have hn:n<s.thr.length:=(List.getElem?_eq_some_iff.1 ht).1
 refine⟨h.pr,fun m u hu=>?_,h.hd⟩
 have hu:(s.thr.set n (some t'))[m]?=some (some u):=hu
 by_cases e:n=m
 ·subst e;rw[List.getElem?_set_self hn] at hu;cases hu
  rw[hh,h.op n t ht,hb]
  by_cases e:bT t=1
  ·rw[if_pos e,if_pos e,ho e]
  ·rw[if_neg e,if_neg e]
 ·rw[List.getElem?_set_ne e] at hu
  exact h.op m u hu
theorem eg.tell(h:eg s V)(hO:Ok k s p q)(ht:s.thr[n]?=some (some t))(hb:bT t=0){o x y e:Int}:eg s (V++[⟨t.handle,o,x,y,e,true⟩]):=by
 have h0:opn V t.handle=none:=by rw[h.op n t ht,hb];rfl
 have:=h.vu (t':=t) hO ht (r:=⟨t.handle,o,x,y,e,true⟩) rfl rfl (fun op e=>by rw[h0] at e;cases e) (by rw[hb];rfl)
 refine this.of ?_ rfl
 show s.thr=s.thr.set n (some t)
 rw[jY ht]
theorem eg.free(h:eg s V)(hO:Ok k s p q)(ht:s.thr[n]?=some (some t)):eg (s.free n) V:=by
 have hn:n<s.thr.length:=(List.getElem?_eq_some_iff.1 ht).1
 have hlt:n<s.table.length:=by rw[hO.ll, ← hO.lt];exact hn
 rw[hO.D6 ht]
 refine⟨h.pr,fun m u hu=>?_,fun r hr=>?_⟩
 ·have hu:(s.thr.set n none)[m]?=some (some u):=hu
  by_cases e:n=m
  ·subst e;rw[List.getElem?_set_self hn] at hu;cases hu
  ·rw[List.getElem?_set_ne e] at hu;exact h.op m u hu
 ·obtain⟨m,k,h1,h2,h3⟩:=h.hd r hr
  refine⟨m,k,h1,h2,?_⟩
  show k≤((s.table.set n (false,(s.table.getD n (false,0)).2)).getD m (false,0)).2
  by_cases e:n=m
  ·subst e;rw[List.getD_eq_getElem?_getD,List.getElem?_set_self hlt];exact h3
  ·rw[List.getD_eq_getElem?_getD,List.getElem?_set_ne e, ← List.getD_eq_getElem?_getD];exact h3
theorem D8{V:List Rec}{h:Int}(e:∀ r∈V,r.ef≠h):opn V h=none:=by
 unfold opn
 rw[List.filter_eq_nil_iff.2 (fun r hr=>by simpa using e r hr)];rfl
theorem eg.begin(h:eg s V)(hO:Ok k s p q){f a:Int}:eg (s.begin f a).2.2 V:=by
 cases hf:slotFree? s.table 0 with
 | none=>rw[iY hf];exact h
 | some n =>
  have hn16:n<16:=by
   have hfr:∀ (l:List (Bool×Int)) (i n:Nat),slotFree? l i=some n→n<i+l.length:=by
    intro l
    induction l with
    | nil=>intro i n h;cases h
    | cons o l ih =>
     intro i n h
     unfold slotFree? at h
     split at h
     ·have:=ih (i+1) n h;simp only[List.length_cons];omega
     ·cases h;simp only[List.length_cons];omega
   have:=hfr _ _ _ hf
   have:=hO.ll
   omega
  have hn:n<s.thr.length:=by rw[hO.lt];exact hn16
  have hlt:n<s.table.length:=by rw[hO.ll];exact hn16
  rw[dS hf]
  refine⟨h.pr,fun m u hu=>?_,fun r hr=>?_⟩
  ·have hu:(s.thr.set n _)[m]?=some (some u):=hu
   by_cases e:n=m
   ·subst e;rw[List.getElem?_set_self hn] at hu;cases hu
    refine(D8 fun r hr e=>?_).trans rfl
    obtain⟨m,k,h1,h2,h3⟩:=h.hd r hr
    rw[h2] at e
    obtain⟨rfl,rfl⟩:=tC h1 hn16 e
    omega
   ·rw[List.getElem?_set_ne e] at hu;exact h.op m u hu
  ·obtain⟨m,k,h1,h2,h3⟩:=h.hd r hr
   refine⟨m,k,h1,h2,?_⟩
   show k≤((s.table.set n (true,(s.table.getD n (false,0)).2+1)).getD m (false,0)).2
   by_cases e:n=m
   ·subst e;rw[List.getD_eq_getElem?_getD,List.getElem?_set_self hlt];show k≤(s.table.getD n (false,0)).2+1;omega
   ·rw[List.getD_eq_getElem?_getD,List.getElem?_set_ne e, ← List.getD_eq_getElem?_getD];exact h3
theorem xg{u:bc}{y:Int}:(u.cE y).handle=u.handle:=by show(if u.into = -1 then u else u.put u.into y).handle=_;split <;> rfl
theorem eg.cZ(h:eg s V)(hO:Ok k s p q){w0:Int}{u:bc}(hu:s.at w0=some u)(hu0:u.why≠0)(hu9:u.why≠9){y:Int}:eg (s.cZ w0.toNat y) (V++[u.dE y]):=by
 obtain⟨h0,hat⟩:=eL hu
 unfold Spc.cZ
 rw[cO hat]
 have hb:bT u=1:=jM hu0 hu9
 refine h.vu hO hat rfl xg (fun op e=>?_) ?_
 ·rw[h.op _ u hat,hb,if_pos rfl] at e
  cases e
  exact⟨rfl,rfl,rfl,rfl⟩
 ·rw[show bT (u.cE y)=0 from m7 rfl];rfl
end
end Go.SLYtefdijgllbkmfaaGreat
namespace Go.SLYtefdijgllbkmfaaGreat
open Go Go.RowKit
structure dJ(k:Nat)(s0:Spc)(d:Dng)(p q:List Int):Prop where
 ok:Ok k d.s p q
 rd:∀ w,dV d.s w+(if (d.out.aU=true∨d.out.ended=true)∧w=(d.n:Int) then 1 else 0)=dV s0 w+d.out.aC.count w
 wk:∀ w∈d.out.aC,dV s0 w=0
 rc:eg d.s (d.s.av++d.ends)
 px:s0.av <+: d.s.av
section
variable{k:Nat}{s0:Spc}{d:Dng}{p q:List Int}{t:bc}
theorem gk{w:Int}{t:bc}:jn w (some t)=if t.au=w∧¬w = -1 then 1 else 0:=rfl
theorem dI{t:bc}:rO (some t)=if t.why=0 then 1 else 0:=rfl
theorem lS{s:Spc}{n:Nat}{t t':bc}(ht:s.thr[n]?=some (some t))(w:Int):dV (s.aj n t') w=if w=(n:Int) then rO (some t') else dV s w:=by
 unfold dV
 rw[show(s.aj n t').at w=_ from jL (List.getElem?_eq_some_iff.1 ht).1 w]
 split <;> rfl
theorem m8{s:Spc}{n:Nat}{t:bc}(ht:s.thr[n]?=some (some t)):dV s (n:Int)=rO (some t):=by unfold dV;rw[jE ht]
theorem dJ.oh(h:dJ k s0 d p q){p' q':List Int}(e:∀ w,p'.count w+q.count w=p.count w+q'.count w):dJ k s0 d p' q':=⟨h.ok.Ib e,h.rd,h.wk,h.rc,h.px⟩
theorem dJ.tell(h:dJ k s0 d p q)(ht:d.s.thr[d.n]?=some (some t))(hw:t.why=0)(hn:d.ends=[]){x y e:Int}:dJ k s0 (d.tell x y e true) p q:=⟨h.ok.av _,h.rd,h.wk,by
 have h1:=h.rc
 rw[hn,List.append_nil] at h1
 have h2:=h1.tell h.ok ht (m7 hw) (o:=d.i.op) (x:=x) (y:=y) (e:=e)
 show eg (d.s.tell ⟨d.t.handle,d.i.op,x,y,e,true⟩) ((d.s.av++[⟨d.t.handle,d.i.op,x,y,e,true⟩])++d.ends)
 rw[hn,List.append_nil,ck ht]
 exact h2.of rfl rfl,h.px.trans (List.prefix_append _ _)⟩
theorem dJ.own(h:dJ k s0 d p q)(ht:d.s.thr[d.n]?=some (some t)){t':bc}(hR:gJ t')(hpc:0≤t'.pc∧t'.pc≤257)(e1:t'.handle=t.handle)(e2:t'.why=t.why)(e3:t'.au=t.au)(e4:t'.bq=t.bq)(e5:t'.op=t.op):dJ k s0 (d.aj t') p q:=by
 have ho:=h.ok.th d.n t ht
 refine⟨h.ok.aj ht ⟨e1.trans ho.h,hR,hpc,fun a=>by rw[e3];exact ho.d (by rw[← e4];exact a),fun a=>by rw[e3];exact ho.f (by rw[← e2];exact a)⟩ (fun w=>?_),fun w=>?_,h.wk,h.rc.aj ht e1 (by unfold bT;rw[e2]) (fun _=>e5),h.px⟩
 ·have hjj:jn w (some t')=jn w (some t):=by rw[gk,gk,e3]
  have hbb:bT t'=bT t:=by unfold bT;rw[e2]
  rw[hjj,hbb]
 ·have:=h.rd w
  have hr:dV (d.aj t').s w=dV d.s w:=by
   show dV (d.s.aj d.n t') w=_
   rw[lS ht]
   split
   ·rename_i e;rw[e,m8 ht,dI,dI,e2]
   ·rfl
  rw[hr];exact this
theorem dJ.pass(h:dJ k s0 d p q)(ht:d.s.thr[d.n]?=some (some t))(hw:t.why=0)(hn:d.ends=[]){x y e:Int}(he:0≤e∧e≤11):dJ k s0 (d.pass x y e) p q:=by
 have ho:=h.ok.th d.n t ht
 unfold Dng.pass
 rw[ck ht]
 exact dJ.own (d:=d.tell x y e true) (h.tell ht hw hn) ht (ho.R.put (by omega)) ho.pc rfl rfl rfl rfl rfl
theorem dJ.block(h:dJ k s0 d p ((d.n:Int)::q))(ht:d.s.thr[d.n]?=some (some t))(hw:t.why=0)(hn:d.ends=[])(hs:d.out.aU=false)(hd:d.out.ended=false){a i x y:Int}(ha:a≠0∧a≠9)(hi : -1≤i∧i<8):dJ k s0 (d.block a i x y) p q:=by
 have ho:=h.ok.th d.n t ht
 have hTo:Ok k (d.tell x y 0 false).s p ((d.n:Int)::q):=h.ok.av _
 have ht2:(d.tell x y 0 false).s.thr[d.n]?=some (some t):=ht
 unfold Dng.block
 rw[ck ht]
 refine⟨hTo.aj ht2 (t':={t with why:=a,op:=d.i.op,into:=i }) ⟨ho.h,ho.R.with hi,ho.pc,ho.d,fun e=>absurd e ha.2⟩ (fun w=>?_),fun w=>?_,h.wk,?_,h.px.trans (List.prefix_append _ _)⟩
 ·have e1:bT t=0:=m7 hw
  have e2:bT {t with why:=a,op:=d.i.op,into:=i }=1:=jM ha.1 ha.2
  have e3:jn w (some {t with why:=a,op:=d.i.op,into:=i })=jn w (some t):=rfl
  rw[e1,e2,e3,List.count_cons]
  simp only[beq_iff_eq]
  by_cases e:w=(d.n:Int)
  ·rw[if_pos e,if_pos e,if_pos e.symm];omega
  ·rw[if_neg e,if_neg e,if_neg (fun h=>e h.symm)];omega
 ·have h1:=h.rd w
  rw[if_neg (by rw[hs,hd];simp)] at h1
  show dV ((d.tell x y 0 false).s.aj d.n {t with why:=a,op:=d.i.op,into:=i }) w+(if (true=true∨d.out.ended=true)∧w=(d.n:Int) then 1 else 0)=dV s0 w+d.out.aC.count w
  rw[lS ht2]
  by_cases e:w=(d.n:Int)
  ·rw[if_pos e,if_pos ⟨.inl rfl,e⟩]
   rw[e,m8 ht] at h1
   have:rO (some t)=1:=by rw[dI,if_pos hw]
   have:rO (some {t with why:=a,op:=d.i.op,into:=i })=0:=by rw[dI];exact if_neg ha.1
   rw[e];omega
  ·rw[if_neg e,if_neg (fun h=>e h.2)]
   exact h1
 ·have h1:=h.rc
  rw[hn,List.append_nil] at h1
  have e2:bT {t with why:=a,op:=d.i.op,into:=i }=1:=jM ha.1 ha.2
  have h0:opn d.s.av t.handle=none:=by rw[h1.op d.n t ht,m7 hw];rfl
  have h2:=h1.vu (t':={t with why:=a,op:=d.i.op,into:=i }) h.ok ht (r:=⟨t.handle,d.i.op,x,y,0,false⟩) rfl rfl (fun op e=>by rw[h0] at e;cases e) (by rw[e2];rfl)
  show eg ((d.tell x y 0 false).s.aj d.n {t with why:=a,op:=d.i.op,into:=i }) ((d.s.av++[⟨d.t.handle,d.i.op,x,y,0,false⟩])++d.ends)
  rw[hn,List.append_nil,ck ht]
  exact h2.of rfl rfl
theorem oq{u:bc}{y:Int}:(u.cE y).au=u.au:=by show(if u.into = -1 then u else u.put u.into y).au=_;split <;> rfl
theorem Ok.cZ{s:Spc}(h:Ok k s p q){w0:Int}{u:bc}(hu:s.at w0=some u)(hu0:u.why≠0)(hu9:u.why≠9){y:Int}(hy:fJ y):Ok k (s.cZ w0.toNat y) p (w0::q):=by
 obtain⟨h0,hat⟩:=eL hu
 have ho:=h.th _ u hat
 have hc:((w0.toNat:Nat):Int)=w0:=by omega
 unfold Spc.cZ
 rw[cO hat]
 refine h.aj hat ⟨?_,ho.R.cE hy,?_,?_,?_⟩ (fun w=>?_)
 ·rw[← ho.h];show(if u.into = -1 then u else u.put u.into y).handle=_;split <;> rfl
 ·show 0≤(if u.into = -1 then u else u.put u.into y).pc∧(if u.into = -1 then u else u.put u.into y).pc≤257;split <;> exact ho.pc
 ·intro e
  rw[oq];refine ho.d ?_
  rw[← e];show _=(if u.into = -1 then u else u.put u.into y).bq;split <;> rfl
 ·intro e;exact absurd (show(0:Int)=9 from e) (by decide)
 ·have e1:bT u=1:=jM hu0 hu9
  have e2:bT (u.cE y)=0:=m7 rfl
  have e3:jn w (some (u.cE y))=jn w (some u):=by rw[gk,gk,oq]
  rw[e1,e2,e3,List.count_cons,hc]
  simp only[beq_iff_eq]
  by_cases e:w=w0
  ·rw[if_pos e,if_pos e,if_pos e.symm];omega
  ·rw[if_neg e,if_neg e,if_neg (fun h=>e h.symm)];omega
theorem ot{s:Spc}{w0:Int}{u:bc}(hu:s.at w0=some u){y:Int}(w:Int):dV (s.cZ w0.toNat y) w=if w=w0 then 1 else dV s w:=by
 obtain⟨h0,hat⟩:=eL hu
 unfold Spc.cZ
 rw[cO hat,lS hat,show((w0.toNat:Nat):Int)=w0 from by omega]
 rfl
theorem dJ.JF(h:dJ k s0 d p q){w0:Int}{u:bc}(hu:d.s.at w0=some u)(hu0:u.why≠0)(hu9:u.why≠9){y:Int}(hy:fJ y)(hne:w0=(d.n:Int)→d.out.aU=false∧d.out.ended=false):dJ k s0 (d.dU w0.toNat y) p (w0::q):=by
 have h0:=(eL hu).1
 have hr:dV d.s w0=0:=by unfold dV;rw[hu,dI];exact if_neg hu0
 refine⟨h.ok.cZ hu hu0 hu9 hy,fun w=>?_,fun w hw=>?_,?_,h.px⟩
 ·have h1:=h.rd w
  show dV (d.s.cZ w0.toNat y) w+(if (d.out.aU=true∨d.out.ended=true)∧w=(d.n:Int) then 1 else 0)=dV s0 w+(d.out.aC++[((w0.toNat:Nat):Int)]).count w
  rw[ot hu,List.count_append,List.count_singleton,show((w0.toNat:Nat):Int)=w0 from by omega]
  simp only[beq_iff_eq]
  generalize (if (d.out.aU=true∨d.out.ended=true)∧w=(d.n:Int) then 1 else 0)=B at h1 ⊢
  by_cases e:w=w0
  ·rw[if_pos e,if_pos e.symm]
   rw[e] at h1 ⊢
   omega
  ·rw[if_neg e,if_neg (fun h=>e h.symm)];omega
 ·have hw:w∈d.out.aC++[((w0.toNat:Nat):Int)]:=hw
  rcases List.mem_append.1 hw with hw | hw
  ·exact h.wk w hw
  ·rw[List.mem_singleton,show((w0.toNat:Nat):Int)=w0 from by omega] at hw
   subst hw
   have h1:=h.rd w
   by_cases e:w=(d.n:Int)
   ·obtain⟨e1,e2⟩:=hne e
    rw[if_neg (by rw[e1,e2];simp)] at h1;omega
   ·rw[if_neg (fun h=>e h.2)] at h1;omega
 ·have h2:=h.rc.cZ h.ok hu hu0 hu9 (y:=y)
  show eg (d.s.cZ w0.toNat y) (d.s.av++(d.ends++[(d.s.t w0.toNat).dE y]))
  rw[← List.append_assoc,cO (eL hu).2]
  exact h2
theorem dJ.dU(h:dJ k s0 d p q){w0:Int}(hpq:q.count w0<p.count w0){y:Int}(hy:fJ y)(hne:w0=(d.n:Int)→d.out.aU=false∧d.out.ended=false):dJ k s0 (d.dU w0.toNat y) p (w0::q):=by
 have hb:=h.ok.oh w0
 obtain⟨u,hu,hu0,hu9⟩:=gG (show 0<dX d.s w0 by omega)
 exact h.JF hu hu0 hu9 hy hne
theorem dJ.aY(h:dJ k s0 d p q){g:Gates}(hg:qL d.s.di g){p' q':List Int}(e:∀ w,cG g w+p'.count w+q.count w=cG d.s.ag w+p.count w+q'.count w):dJ k s0 (d.aY g) p' q':=⟨h.ok.ag hg e,h.rd,h.wk,h.rc.of rfl rfl,h.px⟩
theorem dJ.dK(h:dJ k s0 d p q){i:Nat}{u v:Tub}(hi:d.s.bx[i]?=some u)(hv:Hk v){p' q':List Int}(e:∀ w,cU w v+p'.count w+q.count w=cU w u+p.count w+q'.count w):dJ k s0 (d.dK i v) p' q':=by
 refine⟨h.ok.bx (by rw[List.length_set]) (fun x hx=>?_) (fun w=>?_),h.rd,h.wk,h.rc.of rfl rfl,h.px⟩
 ·rcases List.mem_or_eq_of_mem_set hx with hx | rfl
  ·exact h.ok.tb.2 x hx
  ·exact hv
 ·have h1:cT (d.s.bx.set i v) w+cU w u=cT d.s.bx w+cU w v:=gd (f:=cU w) v hi
  have:=e w;omega
theorem dJ.du(h:dJ k s0 d p q){u:jy}(hu:yX u){p' q':List Int}(e:∀ w,cD u w+p'.count w+q.count w=cD d.s.aO w+p.count w+q'.count w):dJ k s0 (d.du u) p' q':=⟨h.ok.aO hu e,h.rd,h.wk,h.rc.of rfl rfl,h.px⟩
theorem dJ.ru(h:dJ k s0 d p q){u:jS}(hu:0≤u.now∧u.now≤1099511627776){p' q':List Int}(e:∀ w,cL u w+p'.count w+q.count w=cL d.s.ay w+p.count w+q'.count w):dJ k s0 (d.ru u) p' q':=⟨h.ok.ay hu e,h.rd,h.wk,h.rc.of rfl rfl,h.px⟩
theorem rQ(h:Ok k d.s p q){n:Nat}(ht:d.s.thr[n]?=some (some t))(w:Int):dV (d.s.free n) w=if w=(n:Int) then 0 else dV d.s w:=by
 rw[h.D6 ht]
 unfold dV
 rw[show({d.s with table:=d.s.table.set n (false,(d.s.table.getD n (false,0)).2),thr:=d.s.thr.set n none }:Spc).at w=({d.s with thr:=d.s.thr.set n none }:Spc).at w from rfl,jL (List.getElem?_eq_some_iff.1 ht).1 w]
 split <;> rfl
theorem dJ.free(h:dJ k s0 d p q){m:Nat}(ht:d.s.thr[m]?=some (some t))(h9:t.why=9):dJ k s0 (d.free m) p q:=by
 have ho:=h.ok.th m t ht
 refine⟨h.ok.free ht (fun w=>?_),fun w=>?_,h.wk,h.rc.free h.ok ht,h.px⟩
 ·have e1:bT t=0:=by unfold bT;rw[if_pos (.inr h9)]
  have e2:jn w (some t)=0:=by rw[gk,ho.f h9];exact if_neg (by rintro⟨a,b⟩;exact b a.symm)
  rw[e1,e2];split <;> omega
 ·have h1:=h.rd w
  show dV (d.s.free m) w+_=_
  rw[rQ h.ok ht]
  by_cases e:w=(m:Int)
  ·have h2:dV d.s w=0:=by rw[e,m8 ht,dI];exact if_neg (by omega)
   rw[if_pos e];rw[h2] at h1;exact h1
  ·rw[if_neg e];exact h1
theorem dJ.fin(h:dJ k s0 d [] [])(ht:d.s.thr[d.n]?=some (some t))(hw:t.why=0)(hs:d.out.aU=false)(hd:d.out.ended=false){v:Int}(hv:fJ v):dJ k s0 (d.fin v) [] []:=by
 have ho:=h.ok.th d.n t ht
 have hr0:rO (some t)=1:=by rw[dI];exact if_pos hw
 have hbt:bT t=0:=m7 hw
 have h1:=h.rd
 have hend:∀ w,(if (d.ended.out.aU=true∨d.ended.out.ended=true)∧w=(d.ended.n:Int) then 1 else 0)=if w=(d.n:Int) then 1 else 0:=fun w=>by
  by_cases e:w=(d.n:Int)
  ·rw[if_pos (show(d.ended.out.aU=true∨d.ended.out.ended=true)∧w=(d.ended.n:Int) from⟨.inr rfl,e⟩),if_pos e]
  ·rw[if_neg (show ¬((d.ended.out.aU=true∨d.ended.out.ended=true)∧w=(d.ended.n:Int)) from fun h=>e h.2),if_neg e]
 have hrd:∀ w,dV d.s w=dV s0 w+d.out.aC.count w:=fun w=>by
  have:=h1 w;rw[if_neg (by rw[hs,hd];simp)] at this;exact this
 cases hdt:t.bq with
 | true =>
  rw[u7 ht hdt]
  refine⟨h.ok.free ht (fun w=>?_),fun w=>?_,h.wk,h.rc.free h.ok ht,h.px⟩
  ·have e2:jn w (some t)=0:=by rw[gk,ho.d hdt];exact if_neg (by rintro⟨a,b⟩;exact b a.symm)
   rw[hbt,e2];split <;> omega
  ·show dV (d.s.free d.n) w+(if (d.ended.out.aU=true∨d.ended.out.ended=true)∧w=(d.ended.n:Int) then 1 else 0)=dV s0 w+d.out.aC.count w
   rw[hend,rQ h.ok ht, ← hrd]
   by_cases e:w=(d.n:Int)
   ·rw[if_pos e,if_pos e,e,m8 ht,hr0]
   ·rw[if_neg e,if_neg e];rfl
 | false =>
  by_cases hj:t.au = -1
  ·rw[rF ht hdt hj]
   refine⟨h.ok.aj (s:=d.s) (t':={t with why:=9,value:=v }) ht ⟨ho.h,⟨ho.R.l,ho.R.r,ho.R.i,hv,ho.R.h⟩,ho.pc,ho.d,fun _=>hj⟩ (fun w=>?_),fun w=>?_,h.wk,h.rc.aj (s:=d.s) (t':={t with why:=9,value:=v }) ht rfl (by rw[hbt];try rfl) (fun e=>absurd e (by rw[hbt];decide)),h.px⟩
   ·have e1:bT {t with why:=9,value:=v }=0:=by unfold bT;exact if_pos (.inr rfl)
    have e3:jn w (some {t with why:=9,value:=v })=jn w (some t):=rfl
    rw[hbt,e1,e3]
   ·show dV (d.s.aj d.n {t with why:=9,value:=v }) w+(if (d.ended.out.aU=true∨d.ended.out.ended=true)∧w=(d.ended.n:Int) then 1 else 0)=dV s0 w+d.out.aC.count w
    rw[hend,lS ht, ← hrd]
    by_cases e:w=(d.n:Int)
    ·rw[if_pos e,if_pos e,e,m8 ht,hr0,dI,if_neg (by show(9:Int)≠0;decide)]
    ·rw[if_neg e,if_neg e];rfl
  ·rw[rG ht hdt hj]
   -- who joined dU on: it is counted by this thread's own word
   have hcj:1≤gF d.s t.au:=by
    have:jn t.au (some t)=1:=by rw[gk];exact if_pos ⟨rfl,hj⟩
    have h2:jn t.au (some t)≤cJ d.s.thr t.au:=cX (f:=jn t.au) (List.mem_of_getElem? ht)
    unfold gF;omega
   have hb:=h.ok.oh t.au
   obtain⟨u,hu,hu0,hu9⟩:=gG (s:=d.s) (w:=t.au) (by simp at hb;omega)
   obtain⟨h0,hat⟩:=eL hu
   have hne:t.au.toNat≠d.n:=fun e=>by rw[e,ht] at hat;cases hat;exact hu0 hw
   have hc:((t.au.toNat:Nat):Int)=t.au:=by omega
   have hk:=h.ok.cZ hu hu0 hu9 hv
   have ht2:(d.s.cZ t.au.toNat v).thr[d.n]?=some (some t):=by
    unfold Spc.cZ;exact cn ht hne
   refine⟨hk.free (n:=d.n) ht2 (fun w=>?_),fun w=>?_,fun w hw=>?_,?_,h.px⟩
   ·rw[hbt,gk,List.count_cons]
    simp only[beq_iff_eq,List.count_nil]
    by_cases e:t.au=w
    ·rw[if_pos (show t.au=w∧¬w = -1 from⟨e,by rw[← e];exact hj⟩),if_pos e];split <;> omega
    ·rw[if_neg (show ¬(t.au=w∧¬w = -1) from fun h=>e h.1),if_neg e];split <;> omega
   ·show dV ((d.s.cZ t.au.toNat v).free d.n) w+(if (d.ended.out.aU=true∨d.ended.out.ended=true)∧w=(d.ended.n:Int) then 1 else 0)=dV s0 w+(d.out.aC++[((t.au.toNat:Nat):Int)]).count w
    rw[hend,rQ (d:={d with s:=d.s.cZ t.au.toNat v }) hk ht2,hc,List.count_append,List.count_singleton]
    simp only[beq_iff_eq]
    rw[ot hu]
    have h2:=hrd w
    by_cases e:w=(d.n:Int)
    ·rw[if_pos e,if_pos e,if_neg (show ¬t.au=w by rw[e];omega)]
     rw[e,m8 ht,hr0] at h2
     rw[e];omega
    ·rw[if_neg e,if_neg e]
     by_cases e2:w=t.au
     ·rw[if_pos e2,if_pos e2.symm]
      have:dV d.s w=0:=by rw[e2];unfold dV;rw[hu,dI];exact if_neg hu0
      omega
     ·rw[if_neg e2,if_neg (fun h=>e2 h.symm)];omega
   ·have hw:w∈d.out.aC++[((t.au.toNat:Nat):Int)]:=hw
    rcases List.mem_append.1 hw with hw | hw
    ·exact h.wk w hw
    ·rw[List.mem_singleton,hc] at hw
     have h2:=hrd w
     have:dV d.s w=0:=by rw[hw];unfold dV;rw[hu,dI];exact if_neg hu0
     omega
   ·have h2:=h.rc.cZ h.ok hu hu0 hu9 (y:=v)
    have h3:=h2.free hk (n:=d.n) ht2
    show eg ((d.s.cZ t.au.toNat v).free d.n) (d.s.av++(d.ends++[(d.s.t t.au.toNat).dE v]))
    rw[← List.append_assoc,cO hat]
    exact h3
end
end Go.SLYtefdijgllbkmfaaGreat
namespace Go.SLYtefdijgllbkmfaaGreat
open Go Go.RowKit
theorem Aq{n:Int}:fJ (gL n):=by unfold gL fJ;omega
theorem vv:fJ mK:=by unfold mK fJ;decide
theorem qM{n:Int}(h:fJ n):fJ (ft n):=by unfold ft;split;exact vv;exact h
theorem Ar{o:Option Nat}(h:∀ r,o=some r→r<18446744073709551616):fJ (Bq o):=by
 cases o with
 | none=>exact vv
 | some r=>have:=h r rfl;exact qM ⟨by omega,by omega⟩
theorem gy{c:Prop}[Decidable c]{a b:Int}(h1:fJ a)(h2:fJ b):fJ (if c then a else b):=by split;exact h1;exact h2
theorem Hl{b:Bool}:fJ (rr b):=by unfold rr;exact gy ⟨by decide,by decide⟩ ⟨by decide,by decide⟩
theorem D9{neg:Bool}{win:Ordering}{x y:Nat}(hx:x<18446744073709551616)(hy:y<18446744073709551616):fJ ((eB neg win x y:Nat):Int):=by
 have h1:Go.FloatKind.f64.encode (.infinity neg)<18446744073709551616:=by cases neg <;> decide +kernel
 unfold eB
 simp only
 unfold fJ
 repeat' split
 all_goals omega
theorem Au{op a b:Int}(ha:fJ a)(hb:fJ b):fJ (aI op a b):=by
 have hx:a.toNat<18446744073709551616:=by have:=ha.1;have:=ha.2;omega
 have hy:b.toNat<18446744073709551616:=by have:=hb.1;have:=hb.2;omega
 have h0:fJ 0:=⟨by decide,by decide⟩
 have hmin:fJ (nO a b):=by unfold nO;exact gy vv (qM (D9 hx hy))
 have hmax:fJ (nP a b):=by unfold nP;exact gy vv (qM (D9 hx hy))
 have hti:fJ (eZ a):=by unfold eZ;exact gy h0 (gy ⟨by decide,by decide⟩ (gy ⟨by decide,by decide⟩ Aq))
 have htf:fJ (fc a):=by
  unfold fc
  refine qM ⟨by omega,?_⟩
  have:Go.FloatKind.f64.nearest (Go.IntKind.i64.wrap a)<18446744073709551616:=(Ieee.Format.write_lt Ieee.double (.number (decide (Go.IntKind.i64.wrap a<0)) (Go.IntKind.i64.wrap a).natAbs 0):_)
  omega
 unfold aI
 refine gy ha (gy Aq (gy Aq (gy Aq (gy Hl (gy (Ar fun r h=>Ieee.Format.add_lt _ h) (gy (Ar fun r h=>Ieee.Format.sub_lt _ h) (gy (Ar fun r h=>Ieee.Format.mul_lt _ h) (gy (Ar fun r h=>Ieee.Format.div_lt _ h) (gy hmin (gy hmax (gy Hl (gy hti (gy htf h0)))))))))))))
end Go.SLYtefdijgllbkmfaaGreat
namespace Go.SLYtefdijgllbkmfaaGreat
open Go Go.RowKit
def b2(p:Prop)[Decidable p]:Nat:=if p then 1 else 0
theorem lT{w:Int}{l:List cV}{a b:Int}:da w (l++[⟨a,b⟩])=da w l+b2 (a=w):=by
 unfold da b2 D5;rw[List.countP_append];simp[List.countP_cons]
theorem pI{w:Int}{l:List cV}{c:Int}:da w (aK l c).2.2+b2 ((aK l c).2.1=true∧(aK l c).1.who=w)=da w l:=by
 by_cases h0:l.length=0
 ·rw[uX h0];unfold b2;rw[if_neg (by rintro⟨a,b⟩;cases a)];rfl
 ·rw[qI h0]
  have hp:=eY (t:=c) (n:=l.length) (by omega)
  have hx:l[pick c l.length]?=some (l.getD (pick c l.length) ⟨0,0⟩):=getD_some hp
  have:=kQ (P:=D5 w) hx
  unfold da b2
  rw[← this]
  simp only[true_and,D5,decide_eq_true_eq]
theorem pJ{w:Int}{l:List cV}(h:da w l=0):lj l w=false:=by
 unfold lj
 rw[List.any_eq_false]
 intro x hx e
 have:0<da w l:=List.countP_pos_iff.2 ⟨x,hx,e⟩
 omega
theorem yZ{g:Gates}{w:Int}(h:cG g w=0):g.waits w=false:=by
 unfold cG at h
 unfold Gates.waits
 rw[Bool.or_eq_false_iff,Bool.or_eq_false_iff,List.any_eq_false,List.any_eq_false,List.any_eq_false]
 refine⟨⟨fun x hx=>?_,fun x hx=>?_⟩,fun x hx=>?_⟩
 ·have:=cX (f:=fun m:dt=>da w m.wait) hx
  rw[pJ (by omega)];simp
 ·have:=cX (f:=da w) hx
  rw[pJ (by omega)];simp
 ·have:=cX (f:=fun m:jo=>da w m.wait) hx
  rw[pJ (by omega)];simp
theorem d1:(1:Int)≠0:=by decide
theorem d4:(4:Int)≠0:=by decide
theorem d5:(5:Int)≠0:=by decide
section
variable{g:Gates}{p:fE}
theorem vx{i:Nat}{x y:dt}(h:g.aG[i]?=some x)(w:Int):cG {g with aG:=g.aG.set i y } w+da w x.wait=cG g w+da w y.wait:=by
 have:=gd (f:=fun m:dt=>da w m.wait) y h
 unfold cG;simp only at this ⊢;omega
theorem Ea{i:Nat}{x y:List cV}(h:g.bm[i]?=some x)(w:Int):cG {g with bm:=g.bm.set i y } w+da w x=cG g w+da w y:=by
 have:=gd (f:=da w) y h
 unfold cG;simp only at this ⊢;omega
theorem vy{i:Nat}{x y:jo}(h:g.cf[i]?=some x)(w:Int):cG {g with cf:=g.cf.set i y } w+da w x.wait=cG g w+da w y.wait:=by
 have:=gd (f:=fun m:jo=>da w m.wait) y h
 unfold cG;simp only at this ⊢;omega
theorem qL.aG(h:qL p g){i:Nat}{y:dt}:qL p {g with aG:=g.aG.set i y }:=⟨by simp only[List.length_set];exact h.m,h.c,h.s,h.sc,fun r hr w hw=>by simp only[List.length_set];exact h.cm r hr w hw⟩
theorem qL.bm(h:qL p g){i:Nat}{y:List cV}(hy:∀ w∈y,0≤w.mutex∧w.mutex<(g.aG.length:Int)):qL p {g with bm:=g.bm.set i y }:=⟨h.m,by simp only[List.length_set];exact h.c,h.s,h.sc,fun r hr w hw=>by
 rcases List.mem_or_eq_of_mem_set hr with hr | rfl
 ·exact h.cm r hr w hw
 ·exact hy w hw⟩
theorem qL.cf(h:qL p g){i:Nat}{y:jo}(hy:0≤y.count∧y.count≤1048576):qL p {g with cf:=g.cf.set i y }:=⟨h.m,h.c,by simp only[List.length_set];exact h.s,fun x hx=>by
 rcases List.mem_or_eq_of_mem_set hx with hx | rfl
 ·exact h.sc x hx
 ·exact hy,h.cm⟩
theorem eC{q:Prop}[Decidable q](h:¬q):b2 q=0:=if_neg h
theorem gT{q:Prop}[Decidable q](h:q):b2 q=1:=if_pos h
theorem Ic(h:qL p g){n m:Int}:qL p (g.lock n m).2.2∧ ∀ w,cG (g.lock n m).2.2 w=cG g w+b2 (((g.lock n m).2.1=0∧(g.lock n m).1=false)∧n=w):=by
 have nope:∀ (b:Bool) (e:Int),(e≠0∨b=true)→ ∀ w,cG g w=cG g w+b2 ((e=0∧b=false)∧n=w):=fun b e he w=>by
  rw[eC (by rintro⟨⟨a,c⟩, -⟩;rcases he with he | he;exact he a;rw[he] at c;cases c)];rfl
 by_cases hm:0≤m∧m<(g.aG.length:Int)
 ·obtain⟨x,hx,hgx⟩:=cq hm
  cases hb:(g.waits n || x.is n) with
  | true=>rw[qg hgx hb];exact⟨h,nope _ _ (.inl d4)⟩
  | false =>
   rw[tg hgx hb]
   cases hh:x.held with
   | true =>
    rw[uY hh]
    refine⟨h.aG,fun w=>?_⟩
    have:=vx (y:={x with wait:=x.wait++[⟨n,0⟩] }) hx w
    rw[lT] at this
    have e:b2 (((0:Int)=0∧false=false)∧n=w)=b2 (n=w):=by unfold b2;simp
    rw[e];simp only at this ⊢;omega
   | false =>
    rw[uZ hh]
    refine⟨h.aG,fun w=>?_⟩
    have:=vx (y:={x with held:=true,owner:=n }) hx w
    rw[eC (by rintro⟨⟨a,c⟩, -⟩;cases c)]
    simp only at this ⊢;omega
 ·rw[tf hm];exact⟨h,nope _ _ (.inl d1)⟩
theorem qn{x:dt}{c w:Int}:da w (x.unlock c).2.2.wait+b2 ((x.unlock c).2.1=true∧(x.unlock c).1=w)=da w x.wait:=pI
theorem xh(h:qL p g){n m c:Int}:qL p (g.unlock n m c).2.2.2∧ ∀ w,cG (g.unlock n m c).2.2.2 w+b2 ((g.unlock n m c).2.1=true∧(g.unlock n m c).1=w)=cG g w:=by
 have nope:∀ w,cG g w+b2 (false=true∧(0:Int)=w)=cG g w:=fun w=>by rw[eC (by rintro⟨a, -⟩;cases a)];rfl
 by_cases hm:0≤m∧m<(g.aG.length:Int)
 ·obtain⟨x,hx,hgx⟩:=cq hm
  cases hb:x.is n with
  | false=>rw[nX hgx hb];exact⟨h,nope⟩
  | true =>
   rw[qi hgx hb]
   refine⟨h.aG,fun w=>?_⟩
   have:=vx (y:=(x.unlock c).2.2) hx w
   have:=qn (x:=x) (c:=c) (w:=w)
   simp only at *;omega
 ·rw[qh hm];exact⟨h,nope⟩
theorem Ie(h:qL p g){n c m ch:Int}(hw0:g.waits n=false):qL p (g.wait n c m ch).2.2.2∧ ∀ w,cG (g.wait n c m ch).2.2.2 w+b2 ((g.wait n c m ch).2.1=true∧(g.wait n c m ch).1=w)=cG g w+b2 ((g.wait n c m ch).2.2.1=0∧n=w):=by
 have nope:∀ e:Int,e≠0→ ∀ w,cG g w+b2 (false=true∧(0:Int)=w)=cG g w+b2 (e=0∧n=w):=fun e he w=>by rw[eC (by rintro⟨a, -⟩;cases a),eC (fun h=>he h.1)]
 by_cases hm:0≤m∧m<(g.aG.length:Int)
 ·by_cases hc:0≤c∧c<(g.bm.length:Int)
  ·obtain⟨x,hx,hgx⟩:=cq hm
   obtain⟨r,hr,hgr⟩:=cq hc
   cases hb:x.is n with
   | false=>rw[mZ hgx hgr hw0 hb];exact⟨h,nope _ d5⟩
   | true =>
    rw[py hgx hgr hw0 hb]
    have h1:=h.aG (i:=m.toNat) (y:=(x.unlock ch).2.2)
    refine⟨h1.bm (i:=c.toNat) (y:=r++[⟨n,m⟩]) (fun w hw=>?_),fun w=>?_⟩
    ·simp only[List.length_set]
     rcases List.mem_append.1 hw with hw | hw
     ·exact h.cm r (List.mem_of_getElem? hr) w hw
     ·rw[List.mem_singleton] at hw;rw[hw];exact hm
    ·have a1:=vx (y:=(x.unlock ch).2.2) hx w
     have a2:=qn (x:=x) (c:=ch) (w:=w)
     have a3:=Ea (g:={g with aG:=g.aG.set m.toNat (x.unlock ch).2.2 }) (y:=r++[⟨n,m⟩]) hr w
     rw[lT] at a3
     have e:b2 ((0:Int)=0∧n=w)=b2 (n=w):=by unfold b2;simp
     simp only at *
     omega
  ·rw[mY hc];exact⟨h,nope _ d1⟩
 ·rw[mX hm];exact⟨h,nope _ d1⟩
theorem Ig(h:qL p g){n s:Int}(hw0:g.waits n=false):qL p (g.down n s).2.2∧ ∀ w,cG (g.down n s).2.2 w=cG g w+b2 (((g.down n s).2.1=0∧(g.down n s).1=false)∧n=w):=by
 by_cases hs:0≤s∧s<(g.cf.length:Int)
 ·obtain⟨x,hx,hgx⟩:=cq hs
  have hxc:=h.sc x (List.mem_of_getElem? hx)
  by_cases hc:0<x.count
  ·rw[tn hgx hw0 hc]
   refine⟨h.cf (by simp only;omega),fun w=>?_⟩
   have:=vy (y:={x with count:=x.count-1 }) hx w
   rw[eC (by rintro⟨⟨a,c⟩, -⟩;cases c)]
   simp only at this ⊢;omega
  ·rw[ql hgx hw0 hc]
   refine⟨h.cf hxc,fun w=>?_⟩
   have:=vy (y:={x with wait:=x.wait++[⟨n,0⟩] }) hx w
   rw[lT] at this
   have e:b2 (((0:Int)=0∧false=false)∧n=w)=b2 (n=w):=by unfold b2;simp
   rw[e];simp only at this ⊢;omega
 ·rw[tm hs]
  exact⟨h,fun w=>by rw[eC (by rintro⟨⟨a,c⟩, -⟩;exact d1 a)];rfl⟩
theorem JG(h:qL p g){s c:Int}:qL p (g.up s c).2.2.2∧ ∀ w,cG (g.up s c).2.2.2 w+b2 ((g.up s c).2.1=true∧(g.up s c).1=w)=cG g w:=by
 have no:∀ w,b2 (false=true∧(0:Int)=w)=0:=fun w=>eC (by rintro⟨a, -⟩;cases a)
 by_cases hs:0≤s∧s<(g.cf.length:Int)
 ·obtain⟨x,hx,hgx⟩:=cq hs
  have hxc:=h.sc x (List.mem_of_getElem? hx)
  cases ht:(aK x.wait c).2.1 with
  | true =>
   rw[tq hgx ht]
   refine⟨h.cf hxc,fun w=>?_⟩
   have a1:=vy (y:={x with wait:=(aK x.wait c).2.2 }) hx w
   have a2:=pI (w:=w) (l:=x.wait) (c:=c)
   rw[ht] at a2
   simp only at *;omega
  | false =>
   by_cases hc:1048576≤x.count
   ·rw[tt hgx ht hc];exact⟨h,fun w=>by rw[no];rfl⟩
   ·rw[Ag hgx ht hc]
    refine⟨h.cf (by simp only;omega),fun w=>?_⟩
    have:=vy (y:={x with count:=x.count+1 }) hx w
    rw[no];simp only at this ⊢;omega
 ·rw[Af hs];exact⟨h,fun w=>by rw[no];rfl⟩
theorem Hm:∀ (n:Nat) (c:Int) (r:List cV) (ms:List dt) (out:List Int) (w:Int),n≤r.length→(∀ y∈r,0≤y.mutex∧y.mutex<(ms.length:Int))→
  da w (sigLoop n c r ms out).1+kP (fun m:dt=>da w m.wait) (sigLoop n c r ms out).2.1+(sigLoop n c r ms out).2.2.count w=da w r+kP (fun m:dt=>da w m.wait) ms+out.count w∧ ∀ y∈(sigLoop n c r ms out).1,y∈r
 | 0,_,_,_,_,_,_,_=>⟨rfl,fun _ h=>h⟩
 | n+1,c,r,ms,out,w,hn,hr=>by
  obtain⟨h1,h2,h3⟩:=jZ (l:=r) (c:=c) (by omega)
  have hm:=hr _ h1
  obtain⟨x,hx⟩:=aB (show(aK r c).1.mutex.toNat<ms.length by omega)
  have ht:(aK r c).2.1=true:=by rw[qI (by omega)]
  have hgx:ms.getD (aK r c).1.mutex.toNat ⟨[],false,0⟩=x:=by rw[List.getD_eq_getElem?_getD,hx];rfl
  unfold sigLoop
  simp only
  rw[hgx]
  obtain⟨a1,a2⟩:=Hm n c (aK r c).2.2 (ms.set (aK r c).1.mutex.toNat (x.lock (aK r c).1.who).2) (if (x.lock (aK r c).1.who).1=true then out++[(aK r c).1.who] else out) w (by omega) (fun y hy=>by rw[List.length_set];exact hr y (h3 y hy))
  refine⟨a1.trans ?_,fun y hy=>h3 y (a2 y hy)⟩
  have b1:=pI (w:=w) (l:=r) (c:=c)
  have b3:=gd (f:=fun m:dt=>da w m.wait) (x.lock (aK r c).1.who).2 hx
  have e:b2 ((aK r c).2.1=true∧(aK r c).1.who=w)=b2 ((aK r c).1.who=w):=by unfold b2;simp[ht]
  rw[e] at b1
  cases hh:x.held with
  | true =>
   rw[uY hh] at b3 ⊢
   simp only[Bool.false_eq_true,if_false] at b3 ⊢
   rw[lT] at b3
   omega
  | false =>
   rw[uZ hh] at b3 ⊢
   simp only[if_true] at b3 ⊢
   rw[List.count_append,List.count_singleton]
   have e2:(if ((aK r c).1.who == w)=true then 1 else 0)=b2 ((aK r c).1.who=w):=by unfold b2;simp
   rw[e2];omega
theorem xi(h:qL p g){c ch:Int}{all:Bool}:qL p (g.signal c ch all).2.2∧ ∀ w,cG (g.signal c ch all).2.2 w+(g.signal c ch all).1.count w=cG g w:=by
 by_cases hc:0≤c∧c<(g.bm.length:Int)
 ·obtain⟨r,hr,hgr⟩:=cq hc
  have hrm:=h.cm r (List.mem_of_getElem? hr)
  rw[qk hgr rfl]
  have hs:=fun w=>Hm (if all=true then r.length else min r.length 1) (if all=true then 0 else ch) r g.aG [] w (by split <;> omega) hrm
  refine⟨⟨?_,?_,h.s,h.sc,fun y hy w hw=>?_⟩,fun w=>?_⟩
  ·rw[od];exact h.m
  ·simp only[List.length_set];exact h.c
  ·rw[od]
   rcases List.mem_or_eq_of_mem_set hy with hy | rfl
   ·exact h.cm y hy w hw
   ·exact hrm w ((hs 0).2 w hw)
  ·have a1:=(hs w).1
   have a2:=gd (f:=da w) (sigLoop (if all=true then r.length else min r.length 1) (if all=true then 0 else ch) r g.aG []).1 hr
   unfold cG
   simp only[List.count_nil] at *
   omega
 ·rw[qj hc];exact⟨h,fun w=>rfl⟩
end
end Go.SLYtefdijgllbkmfaaGreat
namespace Go.SLYtefdijgllbkmfaaGreat
open Go Go.RowKit
theorem m9{n w:Int}:[n].count w=b2 (n=w):=by rw[List.count_singleton];unfold b2;simp
theorem xj{ok:Bool}{n w:Int}:(if ok=true then [n] else []).count w=b2 (ok=true∧n=w):=by
 cases ok
 ·simp[b2]
 ·simp only[if_true,m9,true_and]
structure St(k:Nat)(s0:Spc)(d:Dng)(t:bc):Prop where
 h:dJ k s0 d [] []
 ht:d.s.thr[d.n]?=some (some t)
 hw:t.why=0
 hs:d.out.aU=false
 he:d.out.ended=false
 I:ja d.i
 hn:d.ends=[]
section
variable{k:Nat}{s0:Spc}{d:Dng}{p q:List Int}{t:bc}
theorem St.o(S:St k s0 d t):Ia (d.s.table.getD d.n (false,0)) d.n t:=S.h.ok.th d.n t S.ht
theorem St.zero(S:St k s0 d t):gF d.s d.n=0:=by
 have:=S.h.ok.oh d.n
 have e:dX d.s d.n=0:=by unfold dX;rw[jE S.ht];exact m7 S.hw
 simp at this;omega
theorem St.a(S:St k s0 d t):fJ d.a:=by unfold Dng.a;rw[ck S.ht];exact S.o.R.r _
theorem St.b(S:St k s0 d t):fJ d.b:=by unfold Dng.b;rw[ck S.ht];exact S.o.R.r _
theorem St.pass(S:St k s0 d t){x y e:Int}(he:0≤e∧e≤11):dJ k s0 (d.pass x y e) [] []:=S.h.pass S.ht S.hw S.hn he
theorem dJ.given{ok:Bool}{n:Int}(h:dJ k s0 d (if ok=true then [n] else []) [])(hne:ok=true→n=(d.n:Int)→d.out.aU=false∧d.out.ended=false):dJ k s0 (d.given n ok) [] []:=by
 unfold Dng.given
 cases ok with
 | false=>exact h
 | true =>
  have:=dJ.dU (y:=0) h (w0:=n) (by simp) ⟨by decide,by decide⟩ (hne rfl)
  exact this.oh (fun w=>by simp)
theorem Eb{g:Gates}{n c m ch:Int}(h:(g.wait n c m ch).2.2.1≠0):(g.wait n c m ch).2.1=false:=by
 unfold Gates.wait at h ⊢
 repeat' split
 all_goals first | rfl | skip
 rename_i h1 h2 h3 h4
 rw[h1,h2] at h
 simp only at h
 rw[if_neg h3,if_pos h4] at h
 exact absurd rfl h
theorem St.waits(S:St k s0 d t):d.s.ag.waits d.n=false:=yZ (by have:=S.zero;unfold gF at this;omega)
theorem Ec{g:Gates}{n c m ch:Int}(hw0:g.waits n=false)(h:(g.wait n c m ch).2.2.1=0):1≤cG (g.wait n c m ch).2.2.2 n:=by
 by_cases hm:0≤m∧m<(g.aG.length:Int)
 ·by_cases hc:0≤c∧c<(g.bm.length:Int)
  ·obtain⟨x,hx,hgx⟩:=cq hm
   obtain⟨r,hr,hgr⟩:=cq hc
   cases hb:x.is n with
   | false=>rw[mZ hgx hgr hw0 hb] at h;exact absurd h d5
   | true =>
    rw[py hgx hgr hw0 hb]
    have a3:=Ea (g:={g with aG:=g.aG.set m.toNat (x.unlock ch).2.2 }) (y:=r++[⟨n,m⟩]) hr n
    have a4:da n r≤cG {g with aG:=g.aG.set m.toNat (x.unlock ch).2.2 } n:=by
     have:=cX (f:=da n) (List.mem_of_getElem? hr)
     unfold cG;simp only;omega
    rw[lT,gT rfl] at a3
    simp only at a3 ⊢
    omega
  ·rw[mY hc] at h;exact absurd h d1
 ·rw[mX hm] at h;exact absurd h d1
theorem St.mutex(S:St k s0 d t):dJ k s0 d.mutex [] []:=by
 unfold Dng.mutex
 simp only
 split
 ·obtain⟨hg,hc⟩:=Ic (n:=d.n) (m:=d.i.n) S.h.ok.gt
  split
  ·rename_i hb
   have h1:=S.h.aY hg (p':=[]) (q':=[(d.n:Int)]) (fun w=>by
    rw[hc w,m9]
    have:b2 (((d.s.ag.lock d.n d.i.n).2.1=0∧(d.s.ag.lock d.n d.i.n).1=false)∧(d.n:Int)=w)=b2 ((d.n:Int)=w):=by unfold b2;simp[hb]
    rw[this];simp)
   exact h1.block S.ht S.hw S.hn S.hs S.he ⟨by decide,by decide⟩ (by decide)
  ·rename_i hb
   have h1:=S.h.aY hg (p':=[]) (q':=[]) (fun w=>by rw[hc w,eC (fun h=>hb h.1)];rfl)
   exact h1.pass S.ht S.hw S.hn Aj
 ·split
  ·obtain⟨hg,hc⟩:=xh (n:=d.n) (m:=d.i.n) (c:=d.choice) S.h.ok.gt
   have h1:=S.h.aY hg (p':=if (d.s.ag.unlock d.n d.i.n d.choice).2.1=true then [(d.s.ag.unlock d.n d.i.n d.choice).1] else []) (q':=[]) (fun w=>by rw[xj];have:=hc w;simp;omega)
   exact(h1.pass S.ht S.hw S.hn pB).given (fun _ _=>⟨S.hs,S.he⟩)
  ·obtain⟨hg,hc⟩:=Ie (n:=d.n) (c:=d.i.n) (m:=d.i.c) (ch:=d.choice) S.h.ok.gt S.waits
   have hc2:=fun w=>hc w
   split
   ·rename_i he
    have h1:=S.h.aY hg (p':=[]) (q':=[]) (fun w=>by
     have:=hc w
     rw[eC (fun h=>by rw[Eb he] at h;exact absurd h.1 (by simp)),eC (fun h=>he h.1)] at this
     simp;omega)
    exact h1.pass S.ht S.hw S.hn Ak
   ·rename_i he
    have he:(d.s.ag.wait d.n d.i.n d.i.c d.choice).2.2.1=0:=Decidable.not_not.mp he
    have hno:(d.s.ag.wait d.n d.i.n d.i.c d.choice).2.1=true→¬(d.s.ag.wait d.n d.i.n d.i.c d.choice).1=(d.n:Int):=fun ho hn=>by
     have h1:=hc d.n
     have h2:cG d.s.ag d.n=0:=by have:=S.zero;unfold gF at this;omega
     have h3:=Ec (g:=d.s.ag) (n:=d.n) (c:=d.i.n) (m:=d.i.c) (ch:=d.choice) S.waits he
     rw[gT ⟨ho,hn⟩,gT ⟨he,rfl⟩] at h1
     omega
    have h1:=S.h.aY hg (p':=if (d.s.ag.wait d.n d.i.n d.i.c d.choice).2.1=true then [(d.s.ag.wait d.n d.i.n d.i.c d.choice).1] else []) (q':=[(d.n:Int)]) (fun w=>by
     rw[xj,m9]
     have:=hc w
     have e:b2 ((d.s.ag.wait d.n d.i.n d.i.c d.choice).2.2.1=0∧(d.n:Int)=w)=b2 ((d.n:Int)=w):=by unfold b2;simp[he]
     rw[e] at this
     simp;omega)
    exact(h1.block S.ht S.hw S.hn S.hs S.he ⟨by decide,by decide⟩ (by decide)).given (fun ho hn=>absurd hn (hno ho))
theorem St.cf(S:St k s0 d t):dJ k s0 d.cf [] []:=by
 unfold Dng.cf
 simp only
 split
 ·obtain⟨hg,hc⟩:=JG (s:=d.i.n) (c:=d.choice) S.h.ok.gt
  have h1:=S.h.aY hg (p':=if (d.s.ag.up d.i.n d.choice).2.1=true then [(d.s.ag.up d.i.n d.choice).1] else []) (q':=[]) (fun w=>by rw[xj];have:=hc w;simp;omega)
  exact(h1.pass S.ht S.hw S.hn DV).given (fun _ _=>⟨S.hs,S.he⟩)
 ·obtain⟨hg,hc⟩:=Ig (n:=d.n) (s:=d.i.n) S.h.ok.gt S.waits
  split
  ·rename_i hb
   have h1:=S.h.aY hg (p':=[]) (q':=[(d.n:Int)]) (fun w=>by
    rw[hc w,m9]
    have:b2 (((d.s.ag.down d.n d.i.n).2.1=0∧(d.s.ag.down d.n d.i.n).1=false)∧(d.n:Int)=w)=b2 ((d.n:Int)=w):=by unfold b2;simp[hb]
    rw[this];simp)
   exact h1.block S.ht S.hw S.hn S.hs S.he ⟨by decide,by decide⟩ (by decide)
  ·rename_i hb
   have h1:=S.h.aY hg (p':=[]) (q':=[]) (fun w=>by rw[hc w,eC (fun h=>hb h.1)];rfl)
   exact h1.pass S.ht S.hw S.hn Al
/-! those who go on by a signal -/
theorem Ok.KF{s:Spc}(h:Ok k s p q){w0:Int}{u:bc}(hu:s.at w0=some u)(hu0:u.why≠0)(hu9:u.why≠9):Ok k (s.aj w0.toNat {u with why:=1 }) p q:=by
 obtain⟨h0,hat⟩:=eL hu
 have ho:=h.th _ u hat
 refine h.aj (t':={u with why:=1 }) hat ⟨ho.h,⟨ho.R.l,ho.R.r,ho.R.i,ho.R.v,ho.R.h⟩,ho.pc,ho.d,fun e=>absurd (show(1:Int)=9 from e) (by decide)⟩ (fun w=>?_)
 have e1:bT u=1:=jM hu0 hu9
 have e2:bT {u with why:=1 }=1:=jM (t:={u with why:=1 }) (by show(1:Int)≠0;decide) (by show(1:Int)≠9;decide)
 have e3:jn w (some {u with why:=1 })=jn w (some u):=rfl
 rw[e1,e2,e3]
theorem Ed{s:Spc}{w0:Int}{u:bc}(hu:s.at w0=some u)(hu0:u.why≠0)(hu9:u.why≠9)(w:Int):dX (s.aj w0.toNat {u with why:=1 }) w=dX s w∧dV (s.aj w0.toNat {u with why:=1 }) w=dV s w:=by
 obtain⟨h0,hat⟩:=eL hu
 have hc:((w0.toNat:Nat):Int)=w0:=by omega
 have e:(s.aj w0.toNat {u with why:=1 }).at w=if w=w0 then some {u with why:=1 } else s.at w:=by
  have:=jL (s:=s) (n:=w0.toNat) (o:=some {u with why:=1 }) (List.getElem?_eq_some_iff.1 hat).1 w
  rw[hc] at this;exact this
 unfold dX dV
 rw[e]
 by_cases hw:w=w0
 ·rw[if_pos hw,hw,hu]
  refine⟨?_,?_⟩
  ·show bT {u with why:=1 }=bT u
   exact(jM (t:={u with why:=1 }) (by show(1:Int)≠0;decide) (by show(1:Int)≠9;decide)).trans (jM hu0 hu9).symm
  ·rw[dI,dI,if_neg (by show ¬(1:Int)=0;decide),if_neg hu0]
 ·rw[if_neg hw];exact⟨rfl,rfl⟩
theorem dJ.bX:∀ (l:List Int) (d:Dng),dJ k s0 d p q→(∀ w∈l,0<dX d.s w)→dJ k s0 {d with s:=bX d.s l } p q
 | [],_,h,_=>h
 | w::l,d,h,hl=>by
  obtain⟨u,hu,hu0,hu9⟩:=gG (hl w List.mem_cons_self)
  have hat:=(eL hu).2
  have hk:=Ed hu hu0 hu9
  have h2:dJ k s0 {d with s:=d.s.aj w.toNat {u with why:=1 } } p q:=⟨h.ok.KF hu hu0 hu9,fun w'=>by
   have:=h.rd w'
   show dV (d.s.aj w.toNat {u with why:=1 }) w'+_=_
   rw[(hk w').2];exact this,h.wk,h.rc.aj hat rfl (by rw[jM hu0 hu9];exact jM (t:={u with why:=1 }) (by show(1:Int)≠0;decide) (by show(1:Int)≠9;decide)) (fun _=>rfl),h.px⟩
  have h3:=dJ.bX l _ h2 (fun w' hw'=>by
   show 0<dX (d.s.aj w.toNat {u with why:=1 }) w'
   rw[(hk w').1];exact hl w' (List.mem_cons_of_mem _ hw'))
  show dJ k s0 {d with s:=Go.SLYtefdijgllbkmfaaGreat.bX (d.s.aj w.toNat {d.s.t w.toNat with why:=1 }) l } p q
  rw[show d.s.t w.toNat=u from cO hat]
  exact h3
theorem dJ.dv:∀ (l:List Int) (d:Dng),dJ k s0 d l []→d.out.aU=false∧d.out.ended=false→dJ k s0 (d.dv l) [] []
 | [],_,h,_=>h
 | w::l,d,h,hs=>by
  have h1:=h.dU (w0:=w) (y:=0) (by simp) ⟨by decide,by decide⟩ (fun _=>hs)
  refine dJ.dv l _ ?_ hs
  exact(h1.oh (fun w'=>by simp[List.count_cons]))
theorem dJ.jT{l:List Int}(h:dJ k s0 d l [])(hs:d.out.aU=false∧d.out.ended=false):dJ k s0 (d.jT l) [] []:=by
 unfold Dng.jT
 refine dJ.dv l _ (dJ.bX d.waits d h (fun w hw=>?_)) hs
 have:=h.ok.oh w
 have h1:0<cG d.s.ag w:=by
  obtain⟨x,hx,hw⟩:=List.mem_flatMap.1 hw
  obtain⟨y,hy,rfl⟩:=List.mem_map.1 hw
  have h2:=cX (f:=fun m:dt=>da y.who m.wait) (List.mem_of_mem_take hx)
  have h3:0<da y.who x.wait:=List.countP_pos_iff.2 ⟨y,hy,by simp[D5]⟩
  unfold cG;omega
 unfold gF at this
 simp at this;omega
theorem St.signal(S:St k s0 d t){all:Bool}:dJ k s0 (((d.aY (d.s.ag.signal d.i.n d.choice all).2.2).pass d.i.n 0 (d.s.ag.signal d.i.n d.choice all).2.1).jT (d.s.ag.signal d.i.n d.choice all).1) [] []:=by
 obtain⟨hg,hc⟩:=xi (c:=d.i.n) (ch:=d.choice) (all:=all) S.h.ok.gt
 have h1:=S.h.aY hg (p':=(d.s.ag.signal d.i.n d.choice all).1) (q':=[]) (fun w=>by have:=hc w;simp;omega)
 exact(h1.pass S.ht S.hw S.hn gS).jT ⟨S.hs,S.he⟩
end
end Go.SLYtefdijgllbkmfaaGreat
namespace Go.SLYtefdijgllbkmfaaGreat
open Go Go.RowKit
section
variable{k:Nat}{s0:Spc}{d:Dng}{p q:List Int}{t:bc}
theorem y8{l:List Int}(h:∀ n,fJ (l.getD n 0)){i n:Nat}{x:Int}(hx:fJ x):fJ ((l.set i x).getD n 0):=oc hx h
theorem vz{l:List Int}(h:∀ x∈l,fJ x){i:Nat}(hi:i<l.length):fJ (l.getD i 0):=h _ (List.mem_of_getElem? (getD_some hi))
theorem Ih{f:iG}{m:List Int}{i:Ins}{z:iG×List Int}(h:gZ f m i=some z)(hI:ja i)(hl:f.aq.length=8)(hr:∀ n,fJ (f.aq.getD n 0))(hp:0≤f.pc∧f.pc≤256)(hm:∀ x∈m,fJ x) :
  z.1.aq.length=8∧(∀ n,fJ (z.1.aq.getD n 0))∧(0≤z.1.pc∧z.1.pc≤257)∧z.2.length=m.length∧ ∀ x∈z.2,fJ x:=by
 have hn:=hI.n
 have hj:=hI.j
 unfold gZ at h
 split at h
 ·cases h;exact⟨hl,hr,⟨hn.1,by have:=hj (.inl ‹_›);show i.n≤257;omega⟩,rfl,hm⟩
 split at h
 ·cases h
  refine⟨hl,hr,?_,rfl,hm⟩
  show 0≤(if f.eR i.a=0 then i.n else f.pc+1)∧(if f.eR i.a=0 then i.n else f.pc+1)≤257
  have:=hj (.inr ‹_›)
  split <;> omega
 split at h
 ·cases h
  exact⟨by show(f.aq.set _ _).length=8;rw[List.length_set];exact hl,fun n=>y8 hr ⟨hn.1,hn.2⟩,by show 0≤f.pc+1∧f.pc+1≤257;omega,rfl,hm⟩
 split at h
 ·split at h
  ·cases h
   refine⟨by show(f.aq.set _ _).length=8;rw[List.length_set];exact hl,fun n=>y8 hr (vz hm ?_),by show 0≤f.pc+1∧f.pc+1≤257;omega,rfl,hm⟩
   have:=(hr i.b.toNat).1
   unfold iG.eR at *;omega
  ·cases h
 split at h
 ·split at h
  ·cases h
   refine⟨hl,hr,by show 0≤f.pc+1∧f.pc+1≤257;omega,by show(m.set _ _).length=_;rw[List.length_set],fun x hx=>?_⟩
   rcases List.mem_or_eq_of_mem_set hx with hx | rfl
   ·exact hm x hx
   ·exact hr _
  ·cases h
 ·cases h
  refine⟨by show(f.aq.set _ _).length=8;rw[List.length_set];exact hl,fun n=>y8 hr (Au (hr _) ?_),by show 0≤f.pc+1∧f.pc+1≤257;omega,rfl,hm⟩
  split
  ·exact⟨by decide,by decide⟩
  ·exact hr _
theorem St.told(S:St k s0 d t):dJ k s0 d.told [] []∧d.told.s.thr=d.s.thr∧d.told.s.mem=d.s.mem∧d.told.n=d.n∧d.told.out=d.out:=by
 unfold Dng.told
 split
 ·exact⟨S.h.tell S.ht S.hw S.hn,rfl,rfl,rfl,rfl⟩
 ·split
  ·exact⟨S.h.tell S.ht S.hw S.hn,rfl,rfl,rfl,rfl⟩
  ·exact⟨S.h,rfl,rfl,rfl,rfl⟩
theorem St.plain(S:St k s0 d t)(hpc:t.pc≤256):dJ k s0 d.plain [] []:=by
 have ho:=S.o
 cases hd:gZ t.gb d.s.mem d.i with
 | none =>
  rw[lN S.ht hd]
  have hm:fJ 18446744073709551615:=⟨by decide,by decide⟩
  split
  ·exact dJ.fin (d:=d.tell d.b 0 6 true) (S.h.tell S.ht S.hw S.hn) S.ht S.hw S.hs S.he hm
  ·exact dJ.fin (d:=d.tell d.a d.b 6 true) (S.h.tell S.ht S.hw S.hn) S.ht S.hw S.hs S.he hm
 | some z =>
  rw[jC S.ht hd]
  obtain⟨h1,e1,e2,e3,e4⟩:=S.told
  obtain⟨a1,a2,a3,a4,a5⟩:=Ih hd S.I ho.R.l ho.R.r ⟨ho.pc.1,hpc⟩ S.h.ok.me.2
  have h2:dJ k s0 (d.told.aj (t.lH z.1)) [] []:=h1.own (t:=t) (by rw[e1,e3];exact S.ht) ⟨a1,a2,ho.R.i,ho.R.v,ho.R.h⟩ a3 rfl rfl rfl rfl rfl
  have h3:dJ k s0 {d.told.aj (t.lH z.1) with s:={(d.told.aj (t.lH z.1)).s with mem:=z.2 } } [] []:=⟨h2.ok.mem (by show z.2.length=d.told.s.mem.length;rw[e2];exact a4) a5,h2.rd,h2.wk,h2.rc.of rfl rfl,h2.px⟩
  have e5:({d.told with s:={d.told.s.aj d.n (t.lH z.1) with mem:=z.2 } }:Dng) = {d.told.aj (t.lH z.1) with s:={(d.told.aj (t.lH z.1)).s with mem:=z.2 } }:=by
   rw[← e3];rfl
  rw[e5];exact h3
theorem St.spawn(S:St k s0 d t)(hk:k≤1000000):dJ (k+1) s0 d.spawn [] []:=by
 have hb:=S.b
 have hok:=S.h.ok.begin hk (f:=d.i.n) hb
 have hrd:=S.h.rd
 unfold Dng.spawn
 simp only
 cases hf:slotFree? d.s.table 0 with
 | none =>
  have e:d.s.begin d.i.n d.b=(0,2,d.s):=iY hf
  rw[e] at hok ⊢
  simp only[show ¬((2:Int)=0) from by decide,if_false]
  rw[ck (d:={d with s:=d.s,out:=d.out }) S.ht]
  have h1:dJ (k+1) s0 d [] []:=⟨hok,hrd,S.h.wk,S.h.rc,S.h.px⟩
  have ho:=S.o
  have h2:=h1.own S.ht (t':=t.put d.i.a 0) (ho.R.put (by decide)) ho.pc rfl rfl rfl rfl rfl
  exact h2.pass (t:=t.put d.i.a 0) (bV S.ht) S.hw S.hn (by decide)
 | some n =>
  obtain⟨t1,ht1,ht1e⟩:=pD (f:=d.i.n) (arg:=d.b) hf (by
   have:=S.h.ok.lt
   have hfr:∀ (l:List (Bool×Int)) (i n:Nat),slotFree? l i=some n→n<i+l.length:=by
    intro l
    induction l with
    | nil=>intro i n h;cases h
    | cons o l ih =>
     intro i n h
     unfold slotFree? at h
     split at h
     ·have:=ih (i+1) n h;simp only[List.length_cons];omega
     ·cases h;simp only[List.length_cons];omega
   have:=hfr _ _ _ hf
   have:=S.h.ok.ll
   omega)
  have e1:(d.s.begin d.i.n d.b).1=(n:Int):=by rw[dS hf]
  have e2:(d.s.begin d.i.n d.b).2.1=0:=by rw[dS hf]
  have e3:(d.s.begin d.i.n d.b).2.2.thr=d.s.thr.set n (some t1):=by rw[ht1e,dS hf]
  have hn:n<d.s.thr.length:=by
   have:=(List.getElem?_eq_some_iff.1 ht1).1
   rw[e3,List.length_set] at this;exact this
  have hno:d.s.thr[n]?=some none:=by
   obtain⟨x,hx⟩:=aB hn
   cases x with
   | none=>exact hx
   | some u =>
    have hfr:∀ (l:List (Bool×Int)) (i n:Nat),slotFree? l i=some n→i≤n∧ ∃ o,l[n-i]?=some o∧o.1=false:=by
     intro l
     induction l with
     | nil=>intro i n h;cases h
     | cons o l ih =>
      intro i n h
      unfold slotFree? at h
      split at h
      ·obtain⟨a,o',b,c⟩:=ih (i+1) n h
       exact⟨by omega,o',by rw[show n-i=(n-(i+1))+1 from by omega];simpa using b,c⟩
      ·cases h;rename_i hb
       exact⟨Nat.le_refl _,o,by simp,by simpa using hb⟩
    obtain⟨-,o,ho,ho1⟩:=hfr _ _ _ hf
    rw[Nat.sub_zero] at ho
    have:=(S.h.ok.us n (S.h.ok.lt ▸ hn)).2 ⟨u,hx⟩
    rw[List.getD_eq_getElem?_getD,ho] at this
    rw[show(Option.getD (some o) (false,(0:Int)))=o from rfl,ho1] at this
    cases this
  have hne:n≠d.n:=fun e=>by rw[e,S.ht] at hno;cases hno
  have ht2:(d.s.begin d.i.n d.b).2.2.thr[d.n]?=some (some t):=by rw[e3,List.getElem?_set_ne hne];exact S.ht
  rw[e2,e1]
  simp only[if_true,Int.toNat_natCast]
  rw[cO ht1]
  have h1:dJ (k+1) s0 {d with s:=(d.s.begin d.i.n d.b).2.2,out:={d.out with aC:=d.out.aC++[(n:Int)] } } [] []:=⟨hok,fun w=>by
   have h2:=hrd w
   rw[if_neg (by rw[S.hs,S.he];simp)] at h2
   show dV (d.s.begin d.i.n d.b).2.2 w+(if (d.out.aU=true∨d.out.ended=true)∧w=(d.n:Int) then 1 else 0)=dV s0 w+(d.out.aC++[(n:Int)]).count w
   rw[if_neg (by rw[S.hs,S.he];simp),List.count_append,m9]
   have h3:dV (d.s.begin d.i.n d.b).2.2 w=if w=(n:Int) then 1 else dV d.s w:=by
    unfold dV
    have:=jL (s:=d.s) (n:=n) (o:=some t1) hn w
    rw[show(d.s.begin d.i.n d.b).2.2.at w=({d.s with thr:=d.s.thr.set n (some t1) }:Spc).at w from by unfold Spc.at;rw[e3],this]
    split
    ·rw[dI,ht1e];exact if_pos rfl
    ·rfl
   rw[h3]
   have h4:dV d.s (n:Int)=0:=by unfold dV;rw[iA,hno];rfl
   by_cases e:w=(n:Int)
   ·rw[if_pos e,gT e.symm];rw[e] at h2 ⊢;omega
   ·rw[if_neg e,eC (fun h=>e h.symm)];omega,fun w hw=>by
   have hw:w∈d.out.aC++[(n:Int)]:=hw
   rcases List.mem_append.1 hw with hw | hw
   ·exact S.h.wk w hw
   ·rw[List.mem_singleton] at hw
    subst hw
    have h2:=hrd (n:Int)
    rw[if_neg (by rw[S.hs,S.he];simp)] at h2
    have h4:dV d.s (n:Int)=0:=by unfold dV;rw[iA,hno];rfl
    omega,S.h.rc.begin S.h.ok |>.of rfl rfl |> fun h=>(by
   show eg (d.s.begin d.i.n d.b).2.2 ((d.s.begin d.i.n d.b).2.2.av++d.ends)
   rw[je];exact h),by show s0.av <+: (d.s.begin d.i.n d.b).2.2.av;rw[je];exact S.h.px⟩
  rw[ck (d:={d with s:=(d.s.begin d.i.n d.b).2.2,out:={d.out with aC:=d.out.aC++[(n:Int)] } }) ht2]
  have ho:=h1.ok.th d.n t ht2
  have hh1:=h1.ok.th n t1 ht1
  have h2:=h1.own ht2 (t':=t.put d.i.a t1.handle) (ho.R.put hh1.R.h) ho.pc rfl rfl rfl rfl rfl
  exact h2.pass (t:=t.put d.i.a t1.handle) (bV ht2) S.hw S.hn (by decide)
theorem dJ.other(h:dJ k s0 d p q){m:Nat}{u u':bc}(hu:d.s.thr[m]?=some (some u))(hh:Ia (d.s.table.getD m (false,0)) m u')(hhd:u'.handle=u.handle)(hop:u'.op=u.op)(hw:u'.why=u.why){q':List Int}(e:∀ w,jn w (some u')+q.count w=jn w (some u)+q'.count w):dJ k s0 {d with s:=d.s.aj m u' } p q':=by
 refine⟨h.ok.aj hu hh (fun w=>?_),fun w=>?_,h.wk,h.rc.aj hu hhd (by unfold bT;rw[hw]) (fun _=>hop),h.px⟩
 ·have e1:bT u'=bT u:=by unfold bT;rw[hw]
  have:=e w
  rw[e1];omega
 ·have h1:=h.rd w
  show dV (d.s.aj m u') w+_=_
  have:dV (d.s.aj m u') w=dV d.s w:=by
   rw[lS hu]
   split
   ·rename_i e;rw[e,m8 hu,dI,dI,hw]
   ·rfl
  rw[this];exact h1
theorem pK(h:Ok k d.s p q)(x:Int)(m:Nat)(e:bj d.s.table x=some m):∃ u,d.s.thr[m]?=some (some u):=by
 obtain⟨h1,h2,h3,h4⟩:=uV e
 exact(h.us m (h.ll ▸ h1)).1 h3
theorem jF(h:Ok k d.s p q){x:Int}(e:(d.other x).2=0):∃ m u,(d.other x).1=m∧m≠d.n∧d.s.thr[m]?=some (some u)∧u.bq=false∧u.au = -1:=by
 cases hf:bj d.s.table x with
 | none=>rw[oa hf] at e;cases e
 | some m =>
  obtain⟨u,hu⟩:=pK h x m hf
  by_cases h1:m=d.n∨u.bq=true
  ·rw[jc hf hu h1] at e;cases e
  ·by_cases h2:u.au = -1
   ·exact⟨m,u,by rw[ob hf hu h1 h2],fun h=>h1 (.inl h),hu,by cases hd:u.bq with | false=>rfl | true=>exact absurd (.inr hd) h1,h2⟩
   ·rw[kM hf hu h1 h2] at e;cases e
theorem ou{s:Spc}{n m:Nat}{u:bc}(h:s.thr[m]?=some (some u))(hne:n≠m):(s.free n).thr[m]?=some (some u):=by
 unfold Spc.free;simp only;rw[List.getElem?_set_ne hne];exact h
theorem St.cH(S:St k s0 d t):dJ k s0 d.cH [] []:=by
 unfold Dng.cH
 simp only
 split
 ·exact S.pass j0
 ·rename_i e
  obtain⟨m,u,e1,hne,hu,hd,hj⟩:=jF S.h.ok (Decidable.not_not.mp e)
  have hOu:=S.h.ok.th m u hu
  rw[e1,cO hu]
  split
  ·rename_i h9
   exact(S.h.free hu h9).pass (t:=t) (ou S.ht hne) S.hw S.hn (by decide)
  ·exact(S.h.other hu (u':={u with bq:=true }) ⟨hOu.h,⟨hOu.R.l,hOu.R.r,hOu.R.i,hOu.R.v,hOu.R.h⟩,hOu.pc,fun _=>hj,hOu.f⟩ rfl rfl rfl (fun w=>rfl)).pass (t:=t) (cn S.ht hne) S.hw S.hn (by decide)
theorem St.join(S:St k s0 d t):dJ k s0 d.join [] []:=by
 have ho:=S.o
 unfold Dng.join
 simp only
 split
 ·exact S.pass j0
 ·rename_i e
  obtain⟨m,u,e1,hne,hu,hd,hj⟩:=jF S.h.ok (Decidable.not_not.mp e)
  have hOu:=S.h.ok.th m u hu
  rw[e1,cO hu]
  split
  ·rename_i h9
   rw[ck S.ht]
   have h1:=S.h.own S.ht (t':=t.put d.i.a u.value) (ho.R.put hOu.R.v) ho.pc rfl rfl rfl rfl rfl
   have hu2:(d.aj (t.put d.i.a u.value)).s.thr[m]?=some (some u):=cn hu (Ne.symm hne)
   exact(h1.free hu2 h9).pass (t:=t.put d.i.a u.value) (ou (bV S.ht) hne) S.hw S.hn (by decide)
  ·rename_i h9
   have h1:dJ k s0 {d with s:=d.s.aj m {u with au:=d.n } } [] [(d.n:Int)]:=S.h.other hu (u':={u with au:=d.n }) ⟨hOu.h,⟨hOu.R.l,hOu.R.r,hOu.R.i,hOu.R.v,hOu.R.h⟩,hOu.pc,fun e=>absurd (show u.bq=true from e) (by rw[hd];simp),fun e=>absurd (show u.why=9 from e) h9⟩ rfl rfl rfl (fun w=>by
    rw[gk,gk,hj,if_neg (show ¬((-1:Int)=w∧¬w = -1) from fun h=>h.2 h.1.symm),m9]
    unfold b2
    by_cases e:(d.n:Int)=w
    ·rw[if_pos (show(d.n:Int)=w∧¬w = -1 from⟨e,by omega⟩),if_pos e];simp
    ·rw[if_neg (show ¬((d.n:Int)=w∧¬w = -1) from fun h=>e h.1),if_neg e];simp)
   exact h1.block (cn S.ht hne) S.hw S.hn S.hs S.he ⟨by decide,by decide⟩ (by have:=S.I.a;omega)
end
end Go.SLYtefdijgllbkmfaaGreat
namespace Go.SLYtefdijgllbkmfaaGreat
open Go Go.RowKit
theorem Fz:fJ 0:=⟨by decide,by decide⟩
theorem sQ{l:List Int}{w:Int}(h:l.count w=0):l.contains w=false:=by
 cases e:l.contains w with
 | false=>rfl
 | true =>
  have:w∈l:=by simpa using e
  have:=List.count_pos_iff.2 this
  omega
theorem rR{u:Tub}{n:Int}(h:cU n u=0):u.waits n=false:=by
 unfold cU at h
 unfold Tub.waits
 rw[sQ (by omega),Bool.false_or,List.any_eq_false]
 intro x hx e
 have:0<u.bN.countP fun x=>decide (x.who=n):=List.countP_pos_iff.2 ⟨x,hx,e⟩
 omega
theorem eh{l:List Int}{x w:Int}:(x::l).count w=l.count w+b2 (x=w):=by rw[List.count_cons];unfold b2;simp
theorem Ee{l:List Ptr}{a b w:Int}:(l++[(⟨a,b⟩:Ptr)]).countP (fun x:Ptr=>decide (x.who=w))=l.countP (fun x=>decide (x.who=w))+b2 (a=w):=by
 rw[List.countP_append];unfold b2;simp[List.countP_cons]
theorem tD{l:List Ptr}{x:Ptr}{w:Int}:(x::l).countP (fun x=>decide (x.who=w))=l.countP (fun x=>decide (x.who=w))+b2 (x.who=w):=by
 rw[List.countP_cons];unfold b2;simp
theorem JH{u:Tub}(h:Hk u){n x:Int}(hx:fJ x)(hw:u.waits n=false):Hk (u.put n x).2.2.2∧ ∀ w,cU w (u.put n x).2.2.2+b2 ((u.put n x).2.2.1=true∧(u.put n x).2.1=w)=cU w u+b2 ((u.put n x).1=false∧n=w):=by
 cases hg:u.bC with
 | cons a r =>
  rw[nZ hw hg]
  refine⟨⟨h.r,h.l,h.w,h.p⟩,fun w=>?_⟩
  have e1:b2 (true=true∧a=w)=b2 (a=w):=by unfold b2;simp
  rw[eC (q:=true=false∧n=w) (by rintro⟨a, -⟩;cases a),e1]
  unfold cU
  rw[hg,eh];simp only;omega
 | nil =>
  by_cases hr:(u.words.length:Int)<u.room
  ·rw[lL hw hg hr]
   refine⟨⟨h.r,?_,?_,h.p⟩,fun w=>?_⟩
   ·have:=h.r;rw[List.length_append];simp only[List.length_cons,List.length_nil];omega
   ·intro y hy
    rcases List.mem_append.1 hy with hy | hy
    ·exact h.w y hy
    ·rw[List.mem_singleton] at hy;rw[hy];exact hx
   ·rw[eC (q:=true=false∧n=w) (by rintro⟨a, -⟩;cases a),eC (q:=false=true∧(0:Int)=w) (by rintro⟨a, -⟩;cases a)];rfl
  ·rw[lM hw hg hr]
   refine⟨⟨h.r,h.l,h.w,fun y hy=>?_⟩,fun w=>?_⟩
   ·rcases List.mem_append.1 hy with hy | hy
    ·exact h.p y hy
    ·rw[List.mem_singleton] at hy;rw[hy];exact hx
   ·have e1:b2 (false=false∧n=w)=b2 (n=w):=by unfold b2;simp
    rw[eC (q:=false=true∧(0:Int)=w) (by rintro⟨a, -⟩;cases a),e1]
    unfold cU
    rw[Ee];simp only;omega
theorem JI{u:Tub}(h:Hk u){n:Int}(hw:u.waits n=false):Hk (u.get n).2.2.2.2∧fJ (u.get n).1∧ ∀ w,cU w (u.get n).2.2.2.2+b2 ((u.get n).2.2.2.1=true∧(u.get n).2.2.1=w)=cU w u+b2 ((u.get n).2.1=false∧n=w):=by
 have n1:∀ w,b2 (true=false∧n=w)=0:=fun w=>eC (by rintro⟨a, -⟩;cases a)
 have n2:∀ w,b2 (false=true∧(0:Int)=w)=0:=fun w=>eC (by rintro⟨a, -⟩;cases a)
 cases hg:u.words with
 | nil =>
  rw[get_none hw hg]
  refine⟨⟨h.r,h.l,h.w,h.p⟩,Fz,fun w=>?_⟩
  have e1:b2 (false=false∧n=w)=b2 (n=w):=by unfold b2;simp
  rw[n2,e1]
  unfold cU
  rw[List.count_append,m9];simp only;omega
 | cons x r =>
  have hwx:=h.w x (by rw[hg];exact List.mem_cons_self)
  have hwr:∀ y∈r,fJ y:=fun y hy=>h.w y (by rw[hg];exact List.mem_cons_of_mem _ hy)
  have hl:=h.l
  rw[hg,List.length_cons] at hl
  cases hp:u.bN with
  | nil =>
   rw[mg hw hg hp]
   refine⟨⟨h.r,by show r.length≤8;omega,hwr,h.p⟩,hwx,fun w=>?_⟩
   rw[n1,n2];rfl
  | cons y q =>
   rw[mh hw hg hp]
   refine⟨⟨h.r,?_,?_,fun z hz=>h.p z (by rw[hp];exact List.mem_cons_of_mem _ hz)⟩,hwx,fun w=>?_⟩
   ·show(r++[y.x]).length≤8
    rw[List.length_append];simp only[List.length_cons,List.length_nil];omega
   ·intro z hz
    rcases List.mem_append.1 hz with hz | hz
    ·exact hwr z hz
    ·rw[List.mem_singleton] at hz;rw[hz];exact h.p y (by rw[hp];exact List.mem_cons_self)
   ·have e1:b2 (true=true∧y.who=w)=b2 (y.who=w):=by unfold b2;simp
    rw[n1,e1]
    unfold cU
    rw[hp,tD];simp only;omega
theorem Ii{d:jy}{r:pe}{w:Int}:cD {d with wait:=d.wait++[r] } w=cD d w+b2 (r.who=w):=by
 unfold cD;rw[List.countP_append];unfold b2;simp[List.countP_cons]
theorem JJ{d:jy}(h:yX d){r:pe}(hx:fJ r.x)(hw:cD d r.who=0):yX (d.ask r).2∧ ∀ w,cD (d.ask r).2 w=cD d w+b2 ((d.ask r).1=0∧r.who=w):=by
 cases hb:(decide (r.block<0) || decide ((d.blocks.length:Int)≤r.block)) with
 | true =>
  rw[Ah hb]
  exact⟨h,fun w=>by rw[eC (fun h=>d1 h.1)];rfl⟩
 | false =>
  have hn:d.wait.any (fun x=>decide (x.who=r.who))=false:=by
   rw[List.any_eq_false]
   intro x hx e
   have:0<cD d r.who:=List.countP_pos_iff.2 ⟨x,hx,e⟩
   omega
  rw[DP hb hn]
  refine⟨⟨h.l,h.b,fun y hy=>?_⟩,fun w=>?_⟩
  ·rcases List.mem_append.1 hy with hy | hy
   ·exact h.w y hy
   ·rw[List.mem_singleton] at hy
    subst hy
    simp only[Bool.or_eq_false_iff,decide_eq_false_iff_not] at hb
    exact⟨by omega,by show _<(d.blocks.length:Int);omega,hx⟩
  ·rw[Ii]
   have e1:b2 ((0:Int)=0∧r.who=w)=b2 (r.who=w):=by unfold b2;simp
   rw[e1]
theorem Ij{l:List (Int×Int)}{n v w:Int}(h:l.countP (fun x=>decide (x.1=n))=0):(mapSet l n v).countP (fun x=>decide (x.1=w))=l.countP (fun x=>decide (x.1=w))+b2 (n=w):=by
 induction l with
 | nil=>unfold mapSet b2;simp[List.countP_cons]
 | cons a l ih =>
  rw[List.countP_cons] at h
  have ha:¬a.1=n:=fun e=>by rw[if_pos (by simpa using e)] at h;omega
  unfold mapSet
  rw[if_neg ha,List.countP_cons,List.countP_cons,ih (by omega)]
  omega
theorem lU{l:List (Int×Int)}{n:Int}(h:l.countP (fun x=>decide (x.1=n))=0):cA l n=none:=by
 unfold cA
 rw[List.find?_eq_none.2]
 ·rfl
 ·intro x hx e
  have:0<l.countP (fun x=>decide (x.1=n)):=List.countP_pos_iff.2 ⟨x,hx,e⟩
  omega
theorem F3{u:jS}(h:0≤u.now∧u.now≤1099511627776){n x:Int}(hx:1≤x∧x≤1099511627776)(hz:cL u n=0):(0≤(u.sleep n x).2.now∧(u.sleep n x).2.now≤1099511627776)∧ ∀ w,cL (u.sleep n x).2 w=cL u w+b2 (n=w):=by
 unfold jS.sleep
 rw[if_neg (by omega),lU hz,if_neg (by simp)]
 exact⟨h,fun w=>Ij hz⟩
section
variable{k:Nat}{s0:Spc}{d:Dng}{p q:List Int}{t:bc}
theorem St.bb(S:St k s0 d t)(ht:d.i.n<(d.s.bx.length:Int)):d.s.bx[d.i.n.toNat]?=some d.bb∧Hk d.bb∧d.bb.waits d.n=false:=by
 have hn:=S.I.n
 have h1:d.s.bx[d.i.n.toNat]?=some d.bb:=getD_some (by omega)
 have hm:=List.mem_of_getElem? h1
 refine⟨h1,S.h.ok.tb.2 _ hm,rR ?_⟩
 have h2:cU d.n d.bb≤cT d.s.bx d.n:=cX (f:=cU d.n) hm
 have:=S.zero
 unfold gF at this;omega
theorem St.put(S:St k s0 d t)(ht:d.i.n<(d.s.bx.length:Int)):dJ k s0 d.put [] []:=by
 obtain⟨h1,h2,h3⟩:=S.bb ht
 obtain⟨h4,h5⟩:=JH h2 S.a h3
 unfold Dng.put
 simp only
 split
 ·rename_i hb
  have hg:(d.bb.put d.n d.a).2.2.1=false:=by
   cases hg:d.bb.bC with
   | cons a r=>rw[nZ h3 hg] at hb;cases hb
   | nil =>
    by_cases hr:(d.bb.words.length:Int)<d.bb.room
    ·rw[lL h3 hg hr] at hb;cases hb
    ·rw[lM h3 hg hr]
  have h6:=S.h.dK h1 h4 (p':=[]) (q':=[(d.n:Int)]) (fun w=>by
   have:=h5 w
   rw[eC (fun h=>by rw[hg] at h;exact absurd h.1 (by simp))] at this
   have e:b2 ((d.bb.put d.n d.a).1=false∧(d.n:Int)=w)=b2 ((d.n:Int)=w):=by unfold b2;simp[hb]
   rw[e] at this;rw[m9];simp;omega)
  exact h6.block S.ht S.hw S.hn S.hs S.he ⟨by decide,by decide⟩ (by decide)
 ·rename_i hb
  have hb:(d.bb.put d.n d.a).1=true:=by simpa using hb
  have h6:=S.h.dK h1 h4 (p':=if (d.bb.put d.n d.a).2.2.1=true then [(d.bb.put d.n d.a).2.1] else []) (q':=[]) (fun w=>by
   have:=h5 w
   rw[eC (q:=(d.bb.put d.n d.a).1=false∧_) (fun h=>by rw[hb] at h;exact absurd h.1 (by simp))] at this
   rw[xj];simp;omega)
  have h7:=h6.pass S.ht S.hw S.hn (x:=d.i.n) (y:=d.a) (e:=0) (by decide)
  split
  ·rename_i hg
   rw[if_pos hg] at h7
   exact(h7.dU (by simp) S.a (fun _=>⟨S.hs,S.he⟩)).oh (fun w=>by simp)
  ·rename_i hg
   rw[if_neg hg] at h7
   exact h7
theorem St.get(S:St k s0 d t)(ht:d.i.n<(d.s.bx.length:Int)):dJ k s0 d.get [] []:=by
 have ho:=S.o
 obtain⟨h1,h2,h3⟩:=S.bb ht
 obtain⟨h4,hW,h5⟩:=JI h2 h3
 unfold Dng.get
 simp only
 split
 ·rename_i hb
  have hg:(d.bb.get d.n).2.2.2.1=false:=by
   cases hg:d.bb.words with
   | nil=>rw[get_none h3 hg]
   | cons x r =>
    cases hp:d.bb.bN with
    | nil=>rw[mg h3 hg hp]
    | cons y q=>rw[mh h3 hg hp] at hb;cases hb
  have h6:=S.h.dK h1 h4 (p':=[]) (q':=[(d.n:Int)]) (fun w=>by
   have:=h5 w
   rw[eC (fun h=>by rw[hg] at h;exact absurd h.1 (by simp))] at this
   have e:b2 ((d.bb.get d.n).2.1=false∧(d.n:Int)=w)=b2 ((d.n:Int)=w):=by unfold b2;simp[hb]
   rw[e] at this;rw[m9];simp;omega)
  exact h6.block S.ht S.hw S.hn S.hs S.he ⟨by decide,by decide⟩ (by have:=S.I.a;omega)
 ·rename_i hb
  have hb:(d.bb.get d.n).2.1=true:=by simpa using hb
  have h6:=S.h.dK h1 h4 (p':=if (d.bb.get d.n).2.2.2.1=true then [(d.bb.get d.n).2.2.1] else []) (q':=[]) (fun w=>by
   have:=h5 w
   rw[eC (q:=(d.bb.get d.n).2.1=false∧_) (fun h=>by rw[hb] at h;exact absurd h.1 (by simp))] at this
   rw[xj];simp;omega)
  rw[show(d.dK d.i.n.toNat (d.bb.get d.n).2.2.2.2).t=t from ck S.ht]
  have h8:=h6.own S.ht (t':=t.put d.i.a (d.bb.get d.n).1) (ho.R.put hW) ho.pc rfl rfl rfl rfl rfl
  have h7:=h8.pass (t:=t.put d.i.a (d.bb.get d.n).1) (bV S.ht) S.hw S.hn (x:=d.i.n) (y:=(d.bb.get d.n).1) (e:=0) (by decide)
  split
  ·rename_i hg
   rw[if_pos hg] at h7
   exact(h7.dU (by simp) ⟨by decide,by decide⟩ (fun _=>⟨S.hs,S.he⟩)).oh (fun w=>by simp)
  ·rename_i hg
   rw[if_neg hg] at h7
   exact h7
theorem St.ask(S:St k s0 d t){b y i:Int}(hy:fJ y)(hi : -1≤i∧i<8):dJ k s0 (d.ask b y i) [] []:=by
 unfold Dng.ask
 simp only
 split
 ·have hz:cD d.s.aO d.n=0:=by have:=S.zero;unfold gF at this;omega
  obtain⟨h1,h2⟩:=JJ S.h.ok.dk (r:=⟨d.n,b,decide (d.i.op=34),y⟩) hy hz
  split
  ·rename_i he
   have h6:=S.h.du h1 (p':=[]) (q':=[]) (fun w=>by rw[h2 w,eC (fun h=>he h.1)];rfl)
   exact h6.pass S.ht S.hw S.hn DU
  ·rename_i he
   have he:=Decidable.not_not.mp he
   have h6:=S.h.du h1 (p':=[]) (q':=[(d.n:Int)]) (fun w=>by
    rw[h2 w,m9]
    have e:b2 ((d.s.aO.ask ⟨d.n,b,decide (d.i.op=34),y⟩).1=0∧(d.n:Int)=w)=b2 ((d.n:Int)=w):=by unfold b2;simp[he]
    simp only[e];simp)
   exact h6.block S.ht S.hw S.hn S.hs S.he ⟨by decide,by decide⟩ hi
 ·exact S.pass (by decide)
theorem St.sleep(S:St k s0 d t):dJ k s0 d.sleep [] []:=by
 have ha:=S.a
 unfold Dng.sleep
 simp only
 split
 ·exact S.pass (by decide)
 ·split
  ·exact S.pass (by decide)
  ·rename_i h0 h1
   have hz:cL d.s.ay d.n=0:=by have:=S.zero;unfold gF at this;omega
   obtain⟨h2,h3⟩:=F3 S.h.ok.wl (n:=d.n) (x:=d.a) ⟨by have:=ha.1;omega,by omega⟩ hz
   have h6:=S.h.ru h2 (p':=[]) (q':=[(d.n:Int)]) (fun w=>by rw[h3 w,m9];simp)
   exact h6.block S.ht S.hw S.hn S.hs S.he ⟨by decide,by decide⟩ (by decide)
theorem St.kernel(S:St k s0 d t)(ht:d.i.op=35∨d.i.op=36→d.i.n<(d.s.bx.length:Int)):dJ k s0 d.kernel [] []:=by
 have hi:=S.I.a
 unfold Dng.kernel
 split
 ·exact S.ask ⟨by decide,by decide⟩ (by omega)
 split
 ·exact S.ask S.b (by decide)
 split
 ·exact S.put (ht (.inl ‹_›))
 split
 ·exact S.get (ht (.inr ‹_›))
 split
 ·exact S.sleep
 ·exact S.pass (by decide)
theorem dJ.more(h:dJ k s0 d p q){k':Nat}(hk:k≤k'):dJ k' s0 d p q:=⟨h.ok.more hk,h.rd,h.wk,h.rc,h.px⟩
theorem St.call(S:St k s0 d t)(hk:k≤1000000)(ht:d.i.op=35∨d.i.op=36→d.i.n<(d.s.bx.length:Int)):dJ (k+1) s0 d.call [] []:=by
 have ho:=S.o
 have up:∀ {e:Dng},dJ k s0 e [] []→dJ (k+1) s0 e [] []:=fun h=>h.more (Nat.le_succ _)
 unfold Dng.call
 simp only
 split
 ·exact S.spawn hk
 split
 ·rw[ck S.ht]
  have h1:=S.h.own S.ht (t':=t.put d.i.a t.handle) (ho.R.put ho.R.h) ho.pc rfl rfl rfl rfl rfl
  exact up (h1.pass (t:=t.put d.i.a t.handle) (bV S.ht) S.hw S.hn (by decide))
 split
 ·have h1:=S.pass (x:=0) (y:=0) (e:=0) (by decide)
  exact up ⟨h1.ok,h1.rd,h1.wk,h1.rc,h1.px⟩
 split
 ·exact up S.join
 split
 ·exact up S.cH
 split
 ·exact up (dJ.fin (d:=d.tell d.a 0 0 true) (S.h.tell S.ht S.hw S.hn) S.ht S.hw S.hs S.he S.a)
 split
 ·exact up S.mutex
 split
 ·exact up S.signal
 split
 ·exact up S.cf
 ·exact up (S.kernel ht)
end
end Go.SLYtefdijgllbkmfaaGreat
namespace Go.SLYtefdijgllbkmfaaGreat
open Go Go.RowKit
theorem K9:∀ (n:Nat) (l:List Int),(∀ x∈l,0≤x∧x<(n:Int))→(∀ w,l.count w≤1)→l.length≤n
 | 0,l,h,_=>by
  cases l with
  | nil=>exact Nat.le_refl _
  | cons a l=>have:=h a List.mem_cons_self;omega
 | n+1,l,h,hc=>by
  have h1:=K9 n (l.filter fun x => !decide (x=(n:Int))) (fun x hx=>by
   obtain⟨a,b⟩:=List.mem_filter.1 hx
   have:=h x a
   have:¬x=(n:Int):=by simpa using b
   omega) (fun w=>Nat.le_trans (List.Sublist.count_le w List.filter_sublist) (hc w))
  have h2:=List.length_eq_countP_add_countP (fun x=>decide (x=(n:Int))) (l:=l)
  have h3:l.countP (fun x=>decide (x=(n:Int)))=l.count (n:Int):=by unfold List.count;congr 1
  rw[← List.countP_eq_length_filter] at h1
  have h4:=hc (n:Int)
  have h5:l.countP (fun x => !decide (x=(n:Int)))=l.countP (fun a=>decide ¬(decide (a=(n:Int)))=true):=by congr 1;funext x;simp
  omega
section
variable{k:Nat}{s:Spc}
theorem ov{α:Type}{f:α→Int}{l:List α}(hl:s.thr.length=16)(h:∀ w,l.countP (fun x=>decide (f x=w))≤dX s w):l.length≤16:=by
 have e:∀ w,(l.map f).count w=l.countP (fun x=>decide (f x=w)):=fun w=>by
  unfold List.count;rw[List.countP_map];congr 1
 have:=K9 16 (l.map f) (fun x hx=>by
  obtain⟨y,hy,rfl⟩:=List.mem_map.1 hx
  have h1:0<l.countP (fun x=>decide (f x=f y)):=List.countP_pos_iff.2 ⟨y,hy,by simp⟩
  obtain⟨t,ht, -, -⟩:=gG (Nat.lt_of_lt_of_le h1 (h (f y)))
  obtain⟨h0,hat⟩:=eL ht
  have:=(List.getElem?_eq_some_iff.1 hat).1
  exact⟨h0,by omega⟩) (fun w=>by rw[e];exact Nat.le_trans (h w) pH)
 rw[List.length_map] at this;exact this
theorem j8{w:Int}(h:0<dX s w):0≤w∧ ∃ u,s.thr[w.toNat]?=some (some u):=by
 obtain⟨t,ht, -, -⟩:=gG h
 exact⟨(eL ht).1,t,(eL ht).2⟩
theorem Ik{p:fE}(hc:((((((((((0<p.funcs.length∧p.funcs.length≤8)∧0≤p.words∧p.words≤64)∧0≤p.aA∧p.aA≤4)∧0≤p.conds∧p.conds≤4)∧0≤p.blocks∧p.blocks≤64)∧0≤p.prio∧p.prio≤7)∧p.aW.length≤4)∧p.aL.length≤4)∧(p.funcs.all fun f=>decide (f.length≤256))=true)∧(p.aW.all fun n=>decide (0≤n) && decide (n≤1048576))=true)∧(p.aL.all fun n=>decide (0<n) && (decide (0≤n) && decide (n≤8)))=true){op:Int}(h:¬op=1):(aQ p op).any=false∧(aQ p op).n≤1000:=by
 unfold aQ
 rw[if_neg h]
 repeat' split
 all_goals exact⟨rfl,by simp only;omega⟩
theorem Ef{p:fE}(hc:ei p=true){i:Ins}(h:ep p i=true)(hn:fJ i.n):ja i∧(cls i.op≠1→i.n≤1099511627776)∧(i.op=35∨i.op=36→i.n<(p.aL.length:Int)):=by
 unfold ei at hc
 simp only[Bool.and_eq_true,decide_eq_true_eq,within] at hc
 unfold ep at h
 split at h
 ·cases h
 ·rename_i hcl
  simp only[Bool.and_eq_true] at h
  obtain⟨⟨⟨h1,h2⟩,h3⟩,h4⟩:=h
  have hr:∀ {n:Int} {b:Bool},lD n b=true→0≤n∧n<8:=fun h=>by
   simp[lD] at h;omega
  refine⟨⟨hr h1,hr h2,?_,hn,fun hj=>?_⟩,fun hc1=>?_,fun ho=>?_⟩
  ·split at h3
   ·simp at h3;omega
   ·exact hr h3
  ·unfold Form.below at h4
   rcases hj with hj | hj
   ·rw[show aQ p i.op=⟨0,false,257,false⟩ from by unfold aQ;repeat (first | rw[if_pos (by omega)] | rw[if_neg (by omega)])] at h4
    simp at h4;omega
   ·rw[show aQ p i.op=⟨1,false,257,false⟩ from by unfold aQ;repeat (first | rw[if_pos (by omega)] | rw[if_neg (by omega)])] at h4
    simp at h4;omega
  ·have hn1:¬i.op=1:=fun e=>hc1 (by unfold cls;rw[if_pos (by omega)])
   obtain⟨g1,g2⟩:=Ik hc hn1
   unfold Form.below at h4
   rw[g1] at h4
   simp at h4
   split at h4
   ·omega
   ·have:=(by simpa using h4:_∧_).2
    omega
  ·unfold Form.below at h4
   rw[show aQ p i.op=⟨1,false,p.aL.length,false⟩ from by unfold aQ;repeat (first | rw[if_pos (by omega)] | rw[if_neg (by omega)])] at h4
   simp at h4
   exact h4.2
theorem Ok.sK(h:Ok k s [] [])(hk:k≤1000000)(hr:s.av.length≤800000000):jd s:=by
 have hcap:ei s.di=true:=by
  have:=h.ye.1;unfold ew at this
  split at this
  ·assumption
  ·cases this
 have hall:∀ f∈s.di.funcs, ∀ i∈f,ep s.di i=true:=by
  have:=h.ye.1;unfold ew at this
  rw[if_pos hcap] at this
  split at this
  ·rename_i ha
   intro f hf i hi
   have:=List.all_eq_true.1 (List.all_eq_true.1 ha f hf) i hi
   exact this
  ·cases this
 have hc:=hcap
 unfold ei at hc
 simp only[Bool.and_eq_true,decide_eq_true_eq,within,List.all_eq_true] at hc
 obtain⟨⟨⟨⟨⟨⟨⟨⟨⟨⟨⟨c1,c2⟩,c3⟩,c4⟩,c5⟩,c6⟩,c7⟩,c8⟩,c9⟩,c10⟩,c11⟩,c12⟩:=hc
 have hbal:∀ w,gF s w=dX s w:=fun w=>by have:=h.oh w;simpa using this
 have bG:∀ w,cG s.ag w≤dX s w:=fun w=>by have:=hbal w;unfold gF at this;omega
 have bU:∀ w,cT s.bx w≤dX s w:=fun w=>by have:=hbal w;unfold gF at this;omega
 have bD:∀ w,cD s.aO w≤dX s w:=fun w=>by have:=hbal w;unfold gF at this;omega
 have bL:∀ w,cL s.ay w≤dX s w:=fun w=>by have:=hbal w;unfold gF at this;omega
 have hm:∀ x∈s.ag.aG,x.wait.length≤16:=fun x hx=>ov (f:=fun y:cV=>y.who) h.lt fun w=>by
  have:=cX (f:=fun m:dt=>da w m.wait) hx
  have:=bG w
  have e:x.wait.countP (fun y=>decide (y.who=w))=da w x.wait:=rfl
  unfold cG at this;omega
 have hcn:∀ x∈s.ag.bm,x.length≤16:=fun x hx=>ov (f:=fun y:cV=>y.who) h.lt fun w=>by
  have:=cX (f:=da w) hx
  have:=bG w
  have e:x.countP (fun y=>decide (y.who=w))=da w x:=rfl
  unfold cG at this;omega
 have hsm:∀ x∈s.ag.cf,x.wait.length≤16:=fun x hx=>ov (f:=fun y:cV=>y.who) h.lt fun w=>by
  have:=cX (f:=fun m:jo=>da w m.wait) hx
  have:=bG w
  have e:x.wait.countP (fun y=>decide (y.who=w))=da w x.wait:=rfl
  unfold cG at this;omega
 have hug:∀ u∈s.bx, ∀ w,u.bC.count w≤dX s w∧u.bN.countP (fun x=>decide (x.who=w))≤dX s w:=fun u hu w=>by
  have h1:cU w u≤cT s.bx w:=cX (f:=cU w) hu
  have h2:=bU w
  unfold cU at h1;exact⟨by omega,by omega⟩
 have hd16:s.aO.wait.length≤16:=ov (f:=fun r:pe=>r.who) h.lt bD
 have hw16:s.ay.dT.length≤16:=ov (f:=fun r:Int×Int=>r.1) h.lt bL
 refine⟨h.lt,⟨by rw[h.ll];decide,fun o ho=>?_⟩,fun n t e=>⟨(h.th n t e).R,(h.th n t e).pc⟩,fun x m e=>pK (d:=⟨s,0,⟨0,0,0,0,0⟩,0,fF.z,[]⟩) h x m e,fun n e=>?_,fun n t ht hw hj=>?_,hr,by rw[h.me.1];omega,⟨by rw[h.gt.m];omega,by rw[h.gt.c];omega,by rw[h.gt.s];omega,fun x hx=>Nat.le_trans (hm x hx) (by decide),fun x hx=>Nat.le_trans (hcn x hx) (by decide),fun x hx=>Nat.le_trans (hsm x hx) (by decide)⟩,h.gt.sc,h.gt.cm,fun w hw=>j8 ?_,by rw[h.gt.m];omega,⟨fun x hx=>Nat.le_trans (hm x hx) (by decide),fun x hx=>Nat.le_trans (hcn x hx) (by decide)⟩,fun f hf i hi=>?_,⟨by omega,fun f hf=>c10 f hf⟩,fun u hu=>?_,fun u hu=>⟨fun w hw=>j8 ?_,fun x hx=>j8 ?_⟩,fun u hu=>(h.tb.2 u hu).w,by omega,fun r hr=>?_,fun r hr=>j8 ?_,h.wl,by omega,fun x hx=>j8 ?_⟩
 ·have:=h.tk o ho;omega
 ·obtain⟨o,ho,hb⟩:∃ o,s.table[n]?=some o∧o.1=false:=by
   have hfr:∀ (l:List (Bool×Int)) (i n:Nat),slotFree? l i=some n→i≤n∧ ∃ o,l[n-i]?=some o∧o.1=false:=by
    intro l
    induction l with
    | nil=>intro i n h;cases h
    | cons o l ih =>
     intro i n h
     unfold slotFree? at h
     split at h
     ·obtain⟨a,o',b,c⟩:=ih (i+1) n h
      exact⟨by omega,o',by rw[show n-i=(n-(i+1))+1 from by omega];simpa using b,c⟩
     ·cases h;rename_i hb
      exact⟨Nat.le_refl _,o,by simp,by simpa using hb⟩
   obtain⟨-,o,ho,hb⟩:=hfr _ _ _ e
   exact⟨o,by simpa using ho,hb⟩
  have hn:n<16:=h.ll ▸ (List.getElem?_eq_some_iff.1 ho).1
  obtain⟨x,hx⟩:=aB (show n<s.thr.length by rw[h.lt];exact hn)
  cases x with
  | none=>exact hx
  | some t =>
   have:=(h.us n hn).2 ⟨t,hx⟩
   rw[List.getD_eq_getElem?_getD,ho,show(Option.getD (some o) (false,(0:Int)))=o from rfl,hb] at this
   cases this
 ·have h1:1≤cJ s.thr t.au:=by
   have:jn t.au (some t)=1:=by rw[gk];exact if_pos ⟨rfl,hj⟩
   have h2:jn t.au (some t)≤cJ s.thr t.au:=cX (f:=jn t.au) (List.mem_of_getElem? ht)
   omega
  have h2:=hbal t.au
  obtain⟨u,hu,hu0,hu9⟩:=gG (s:=s) (w:=t.au) (by unfold gF at h2;omega)
  obtain⟨h0,hat⟩:=eL hu
  exact⟨h0,fun e=>by rw[e,ht] at hat;cases hat;exact hu0 hw,u,hat⟩
 ·refine Nat.lt_of_lt_of_le ?_ (bG w)
  unfold cG
  rcases hw with ⟨x,hx,y,hy,rfl⟩ | ⟨x,hx,y,hy,rfl⟩ | ⟨x,hx,y,hy,rfl⟩
  ·have h1:=cX (f:=fun m:dt=>da y.who m.wait) hx
   have h2:0<da y.who x.wait:=List.countP_pos_iff.2 ⟨y,hy,by simp[D5]⟩
   omega
  ·have h1:=cX (f:=da y.who) hx
   have h2:0<da y.who x:=List.countP_pos_iff.2 ⟨y,hy,by simp[D5]⟩
   omega
  ·have h1:=cX (f:=fun m:jo=>da y.who m.wait) hx
   have h2:0<da y.who x.wait:=List.countP_pos_iff.2 ⟨y,hy,by simp[D5]⟩
   omega
 ·have:=Ef hcap (hall f hf i hi) (h.ye.2 f hf i hi)
  rw[h.tb.1];exact this
 ·have h1:=h.tb.2 u hu
  exact⟨Nat.le_trans h1.l (by decide),Nat.le_trans (ov (f:=fun x:Ptr=>x.who) h.lt fun w=>(hug u hu w).2) (by decide),Nat.le_trans (ov (f:=fun x:Int=>x) h.lt fun w=>by
   have:=(hug u hu w).1
   have e:u.bC.countP (fun x=>decide (x=w))=u.bC.count w:=by unfold List.count;congr 1
   omega) (by decide)⟩
 ·exact Nat.lt_of_lt_of_le (List.count_pos_iff.2 hw) (hug u hu w).1
 ·exact Nat.lt_of_lt_of_le (List.countP_pos_iff.2 ⟨x,hx,by simp⟩) (hug u hu x.who).2
 ·have:=h.dk.w r hr;exact⟨this.1,this.2.1⟩
 ·exact Nat.lt_of_lt_of_le (List.countP_pos_iff.2 ⟨r,hr,by simp⟩) (bD r.who)
 ·exact Nat.lt_of_lt_of_le (List.countP_pos_iff.2 ⟨x,hx,by simp⟩) (bL x.1)
end
end Go.SLYtefdijgllbkmfaaGreat
