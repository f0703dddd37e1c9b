/- Walks of functions, and what they compute. Conditions: none, this text proves no statement. -/
import Derived.Test.YtefdijgllbkmfaaGreatH03
import Derived.Laws.FloatBits
namespace Go.SLYtefdijgllbkmfaaGreat
open Go Go.RowKit
def eK(d e:Dng)(a n:Nat):Prop:=e.s.au.length≤d.s.au.length+a∧e.ends.length≤d.ends.length+n
theorem eK.refl{d:Dng}:eK d d 0 0:=⟨Nat.le_refl _,Nat.le_refl _⟩
theorem eK.up{d e:Dng}{a n a' n':Nat}(h:eK d e a n)(ha:a≤a')(hn:n≤n'):eK d e a' n':=⟨Nat.le_trans h.1 (by omega),Nat.le_trans h.2 (by omega)⟩
theorem eK.trans{d e f:Dng}{a n a' n':Nat}(h:eK d e a n)(k:eK e f a' n'):eK d f (a+a') (n+n'):=⟨by have:=h.1;have:=k.1;omega,by have:=h.2;have:=k.2;omega⟩
theorem eK.same{d e:Dng}(h1:e.s.au=d.s.au)(h2:e.ends=d.ends):eK d e 0 0:=⟨by rw[h1];exact Nat.le_refl _,by rw[h2];exact Nat.le_refl _⟩
theorem gB{d:Dng}{x y e:Int}{f:Bool}:eK d (d.tell x y e f) 1 0:=⟨by simp[Dng.tell,Spc.tell],Nat.le_refl _⟩
theorem cu{d:Dng}{x y e:Int}:eK d (d.pass x y e) 1 0:=⟨by simp[Dng.pass,Dng.aj,Spc.aj,Dng.tell,Spc.tell],Nat.le_refl _⟩
theorem fF{d:Dng}{w i x y:Int}:eK d (d.block w i x y) 1 0:=⟨by simp[Dng.block,Dng.aj,Spc.aj,Dng.tell,Spc.tell],Nat.le_refl _⟩
theorem mD{d:Dng}{n:Nat}{y:Int}:eK d (d.dZ n y) 0 1:=⟨by simp[Dng.dZ,Spc.dn,Spc.aj],by simp[Dng.dZ]⟩
theorem ko{d:Dng}{v:Int}:eK d (d.fin v) 0 1:=by
 unfold Dng.fin
 split
 ·exact(eK.same rfl rfl).up (Nat.le_refl _) (by decide)
 ·split
  ·exact(eK.same rfl rfl).up (Nat.le_refl _) (by decide)
  ·exact(eK.same (d:=d) (e:=d.ended) rfl rfl).trans (mD.trans (eK.same rfl rfl))
theorem nq{d:Dng}:eK d d.plain 1 1:=by
 unfold Dng.plain
 split
 ·have:∀ e:Dng,eK d e 1 0→ ∀ s:Spc,s.au=e.s.au→eK d {e with s:=s } 1 1:=fun e h s hs=>⟨by show s.au.length≤_;rw[hs];exact h.1,Nat.le_trans h.2 (by omega)⟩
  simp only
  refine this _ ?_ _ rfl
  split
  ·exact gB
  ·split
   ·exact gB
   ·exact eK.refl.up (by decide) (by decide)
 ·split
  ·exact gB.trans ko
  ·exact gB.trans ko
theorem nr{d:Dng}{n:Int}{ok:Bool}:eK d (d.given n ok) 0 1:=by
 unfold Dng.given
 split
 ·exact mD
 ·exact eK.refl.up (by decide) (by decide)
theorem cZ{d e f:Dng}{a n:Nat}(h:eK e f a n)(h1:e.s.au=d.s.au)(h2:e.ends=d.ends):eK d f a n:=⟨by rw[← h1];exact h.1,by rw[← h2];exact h.2⟩
theorem je{s:Spc}{f a:Int}:(s.begin f a).2.2.au=s.au:=by
 unfold Spc.begin
 split <;> rfl
theorem zC{d:Dng}:eK d d.spawn 1 1:=by
 unfold Dng.spawn
 refine eK.up (a:=1) (n:=0) ?_ (Nat.le_refl _) (by decide)
 exact cZ cu (je (s:=d.s) (f:=d.i.n) (a:=d.b)) rfl
theorem Cm{d:Dng}:eK d d.join 1 1:=by
 unfold Dng.join
 simp only
 repeat' split
 ·exact cu.up (Nat.le_refl _) (by decide)
 ·exact(cZ cu rfl rfl).up (Nat.le_refl _) (by decide)
 ·exact(cZ fF rfl rfl).up (Nat.le_refl _) (by decide)
theorem xK{d:Dng}:eK d d.cO 1 1:=by
 unfold Dng.cO
 simp only
 repeat' split
 ·exact cu.up (Nat.le_refl _) (by decide)
 ·exact(cZ cu rfl rfl).up (Nat.le_refl _) (by decide)
 ·exact(cZ cu rfl rfl).up (Nat.le_refl _) (by decide)
theorem zD{d:Dng}:eK d d.mutex 1 1:=by
 unfold Dng.mutex
 simp only
 repeat' split
 ·exact(cZ fF rfl rfl).up (Nat.le_refl _) (by decide)
 ·exact(cZ cu rfl rfl).up (Nat.le_refl _) (by decide)
 ·exact cZ (cu.trans nr) rfl rfl
 ·exact(cZ cu rfl rfl).up (Nat.le_refl _) (by decide)
 ·exact cZ (fF.trans nr) rfl rfl
theorem ED{d:Dng}:eK d d.cf 1 1:=by
 unfold Dng.cf
 simp only
 repeat' split
 ·exact cZ (cu.trans nr) rfl rfl
 ·exact(cZ fF rfl rfl).up (Nat.le_refl _) (by decide)
 ·exact(cZ cu rfl rfl).up (Nat.le_refl _) (by decide)
theorem xL{d:Dng}{b y i:Int}:eK d (d.ask b y i) 1 1:=by
 unfold Dng.ask
 simp only
 repeat' split
 ·exact(cZ cu rfl rfl).up (Nat.le_refl _) (by decide)
 ·exact(cZ fF rfl rfl).up (Nat.le_refl _) (by decide)
 ·exact cu.up (Nat.le_refl _) (by decide)
theorem EE{d:Dng}:eK d d.put 1 1:=by
 unfold Dng.put
 simp only
 repeat' split
 ·exact(cZ fF rfl rfl).up (Nat.le_refl _) (by decide)
 ·exact cZ (cu.trans mD) rfl rfl
 ·exact(cZ cu rfl rfl).up (Nat.le_refl _) (by decide)
theorem EF{d:Dng}:eK d d.get 1 1:=by
 unfold Dng.get
 simp only
 repeat' split
 ·exact(cZ fF rfl rfl).up (Nat.le_refl _) (by decide)
 ·exact cZ (cu.trans mD) rfl rfl
 ·exact(cZ cu rfl rfl).up (Nat.le_refl _) (by decide)
theorem zE{d:Dng}:eK d d.sleep 1 1:=by
 unfold Dng.sleep
 simp only
 repeat' split
 ·exact cu.up (Nat.le_refl _) (by decide)
 ·exact cu.up (Nat.le_refl _) (by decide)
 ·exact(cZ fF rfl rfl).up (Nat.le_refl _) (by decide)
theorem xM{d:Dng}:eK d d.kernel 1 1:=by
 unfold Dng.kernel
 repeat' split
 ·exact xL
 ·exact xL
 ·exact EE
 ·exact EF
 ·exact zE
 ·exact cu.up (Nat.le_refl _) (by decide)
theorem xN(s:Spc)(a:List Int):(bY s a).au=s.au:=by
 induction a generalizing s with
 | nil=>rfl
 | cons x l ih=>exact(ih _).trans rfl
theorem wb(d:Dng)(a:List Int):(d.dE a).s.au=d.s.au:=by
 induction a generalizing d with
 | nil=>rfl
 | cons x l ih=>exact(ih _).trans rfl
theorem zF{d:Dng}{l:List Int}:eK d (d.j8 l) 0 l.length:=by
 unfold Dng.j8
 refine⟨?_,?_⟩
 ·rw[wb];show(bY d.s d.waits).au.length≤_;rw[xN];exact Nat.le_refl _
 ·rw[(qC _ _).1];exact Nat.le_refl _
theorem pR{d:Dng}(h:∀ r∈d.s.ag.bn,r.length≤400000):eK d d.call 1 400001:=by
 unfold Dng.call
 simp only
 repeat' split
 ·exact zC.up (Nat.le_refl _) (by decide)
 ·exact(cZ cu rfl rfl).up (Nat.le_refl _) (by decide)
 ·exact(cu (d:=d)).up (Nat.le_refl _) (by decide)
 ·exact Cm.up (Nat.le_refl _) (by decide)
 ·exact xK.up (Nat.le_refl _) (by decide)
 ·exact(gB.trans ko).up (Nat.le_refl _) (by decide)
 ·exact zD.up (Nat.le_refl _) (by decide)
 ·exact(cZ (cu.trans zF) rfl rfl).up (Nat.le_refl _) (by have:=np (c:=d.i.n) (ch:=d.choice) (all:=decide (d.i.op=29)) h;omega)
 ·exact ED.up (Nat.le_refl _) (by decide)
 ·exact xM.up (Nat.le_refl _) (by decide)
end Go.SLYtefdijgllbkmfaaGreat
namespace Go.SLYtefdijgllbkmfaaGreat
open Go Go.RowKit
section
variable{P:Program}
theorem cS {d : Nat} {xs ys : Array Value} {f : Field} {fs : List Field} {a b : Value} {r : Bool} {w : World} (hn : (f.name != "_") = true) (pa : Part P f.type xs f.offset a) (pb : Part P f.type ys f.offset b) (h : (Op.equalIn d f.type a b).run P w = .ok r w) :
  (Op.eqFields d xs ys (f::fs)).run P w=if r=true then (Op.eqFields d xs ys fs).run P w else .ok false w:=by
 simp only[Op.eqFields,Sem.run_bind,Sem.run_ite,pa w,pb w,Result.andThen_ok,h]
 cases r
 ·simp;intro e;simp[e] at hn
 ·simp
end
def mS(t:bo):List Value:=[.int .u64 t.handle,.int .i64 t.why,.int .i64 t.fn,.int .i64 t.pc,.int .u64 (t.aq.getD 0 0),.int .u64 (t.aq.getD 1 0),.int .u64 (t.aq.getD 2 0),.int .u64 (t.aq.getD 3 0),.int .u64 (t.aq.getD 4 0),.int .u64 (t.aq.getD 5 0),.int .u64 (t.aq.getD 6 0),.int .u64 (t.aq.getD 7 0),.int .u64 t.value]
def EG:bo:=⟨0,0,[],0,0,0,false,0,0,0⟩
theorem EH{d:jC}{k:Int}(h:(d.done k).2.2.1=true):(d.done k).1∈d.wait∧(d.done k).2.2.2.wait.length≤d.wait.length:=by
 unfold jC.done at h ⊢
 split at h
 ·cases h
 ·rename_i h0
  rw[if_neg h0]
  simp only
  have hm:d.wait.getD (pick k d.wait.length) ⟨0,0,false,0⟩∈d.wait:=by
   have:=fc (t:=k) (n:=d.wait.length) (by omega)
   rw[List.getD_eq_getElem?_getD,List.getElem?_eq_getElem this];exact List.getElem_mem _
  split
  ·exact⟨hm,by simp only;rw[List.length_eraseIdx];split <;> omega⟩
  ·exact⟨hm,by simp only;rw[List.length_eraseIdx];split <;> omega⟩
theorem Jg{b:Nat}{x:Int}:∀ h,seps [arr b 0 [.int .i64 x]] h→sl aL 1 (.slice (some ⟨b,0,none⟩) 1 1) [x] h:=fun h a=>by
 have a:arr b 0 [.int .i64 x] h:=by simpa only[seps,aP] using a
 exact .inr ⟨b,1,[],rfl,Nat.le_refl _,fun _ _=>rfl,rfl,a⟩
theorem Cn{d:jC}{k:Int}(h:(d.done k).2.2.1=false):(d.done k).2.2.2=d:=by
 by_cases h0:d.wait.length=0
 ·rw[mA h0]
 ·cases hw:(d.wait.getD (pick k d.wait.length) sd).write with
  | true=>rw[kU h0 rfl hw] at h;cases h
  | false=>rw[mB h0 rfl hw] at h;cases h
theorem lZ{s:Spc}{k:Int}(h:(s.aO.done k).2.2.1=false):s.done k=(iZ.z,3,s):=by unfold Spc.done;simp only;rw[if_pos h]
theorem l1{s:Spc}{k:Int}{t:bo}(h:(s.aO.done k).2.2.1=true)(ht:s.thr[(s.aO.done k).1.who.toNat]?=some (some t)) :
  s.done k=(⟨[(s.aO.done k).1.who],false,false,false⟩,0,(({s with aO:=(s.aO.done k).2.2.2 }:Spc).dn (s.aO.done k).1.who.toNat (s.aO.done k).2.1).tell (t.dL (s.aO.done k).2.1)):=by
 unfold Spc.done;simp only;rw[if_neg (by rw[h];simp),show({s with aO:=(s.aO.done k).2.2.2 }:Spc).t (s.aO.done k).1.who.toNat=t from cW ht]
theorem wc(s:Spc)(a:List Int)(n:Int):di s (a++[n])=((di s a).dn n.toNat 0).tell (((di s a).t n.toNat).dL 0):=by
 induction a generalizing s with
 | nil=>rfl
 | cons x l ih=>exact ih _
theorem we{ps:List (Option Nat)}(m:Nat)(a:List Int):∀ (s:Spc),bZ ps s m→(∀ w∈a,bZ ps s w.toNat)→bZ ps (di s a) m:=by
 induction a with
 | nil=>intro d h _;exact h
 | cons x l ih =>
  intro s h ha
  obtain⟨hn16,q,u,hq,hu,hR⟩:=ha x List.mem_cons_self
  have key:∀ {k:Nat},bZ ps s k→bZ ps ((s.dn x.toNat 0).tell ((s.t x.toNat).dL 0)) k:=fun hk=>by
   have:=hk.aj (n:=x.toNat) (hR.cV (y:=0) (by decide))
   refine bZ.of (s:=s.aj x.toNat (u.cV 0)) this ?_
   unfold Spc.tell Spc.dn;rw[cW hu]
  exact ih _ (key h) (fun w hw=>key (ha w (List.mem_cons_of_mem _ hw)))
theorem oD(s:Spc)(a:List Int):(di s a).au.length=s.au.length+a.length:=by
 induction a generalizing s with
 | nil=>rfl
 | cons x l ih =>
  show(di _ l).au.length=_
  rw[ih];simp[Spc.tell,Spc.dn,Spc.aj];omega
theorem A6{w:j6}{x:Int}(h:x∈w.due):∃ y∈w.dY,y.1=x:=by
 unfold j6.due at h
 have hs:∀ (l:List Int),x∈gz l→x∈l:=by
  intro l
  induction l with
  | nil=>exact fun h=>h
  | cons a l ih =>
   intro h
   have hi:∀ (m:List Int),x∈dH a m→x=a∨x∈m:=by
    intro m
    induction m with
    | nil=>intro h;rcases List.mem_singleton.1 h with rfl;exact .inl rfl
    | cons b m ihm =>
     intro h
     unfold dH at h
     split at h
     ·rcases List.mem_cons.1 h with h | h
      ·exact .inl h
      ·exact .inr h
     ·rcases List.mem_cons.1 h with h | h
      ·exact .inr (h ▸ List.mem_cons_self)
      ·rcases ihm h with h | h
       ·exact .inl h
       ·exact .inr (List.mem_cons_of_mem _ h)
   rcases hi _ h with h | h
   ·rw[h];exact List.mem_cons_self
   ·exact List.mem_cons_of_mem _ (ih h)
 obtain⟨y,hy,e⟩:=List.mem_map.1 (hs _ h)
 exact⟨y,(List.mem_filter.1 hy).1,e⟩
theorem Co(l:List Int):(gz l).length=l.length:=by
 induction l with
 | nil=>rfl
 | cons a l ih =>
  have hi:∀ (m:List Int),(dH a m).length=m.length+1:=by
   intro m
   induction m with
   | nil=>rfl
   | cons b m ihm=>unfold dH;split <;> simp[ihm]
  show(dH a (gz l)).length=_
  rw[hi,ih,List.length_cons]
theorem xO(w:j6):w.due.length≤w.dY.length:=by
 unfold j6.due;rw[Co,List.length_map];exact List.length_filter_le ..
end Go.SLYtefdijgllbkmfaaGreat
namespace Go.SLYtefdijgllbkmfaaGreat
open Go Go.RowKit
def kZ{α:Type}(f:α→Nat)(l:List α):Nat:=(l.map f).sum
theorem gm{α:Type}{f:α→Nat}:∀ {l:List α} {i:Nat} {x:α} (y:α),l[i]?=some x→kZ f (l.set i y)+f x=kZ f l+f y
 | a::l,0,x,y,h=>by
  obtain rfl:a=x:=by simpa using h
  simp[kZ];omega
 | a::l,i+1,x,y,h=>by
  have:=gm (f:=f) (l:=l) (i:=i) y (by simpa using h)
  simp[kZ] at this ⊢;omega
theorem dj{α:Type}{f:α→Nat}:∀ {l:List α} {x:α},x∈l→f x≤kZ f l
 | a::l,x,h=>by
  rcases List.mem_cons.1 h with rfl | h
  ·simp[kZ]
  ·have:=dj (f:=f) h
   simp[kZ] at this ⊢;omega
theorem pS{α:Type}{f:α→Nat}{l:List α}(h:∀ x∈l,f x=0):kZ f l=0:=by
 induction l with
 | nil=>rfl
 | cons a l ih =>
  have:=ih (fun x hx=>h x (List.mem_cons_of_mem _ hx))
  have:=h a List.mem_cons_self
  simp[kZ] at *;omega
theorem k0{α:Type}{P:α→Bool}:∀ {l:List α} {i:Nat} {x:α},l[i]?=some x→(l.eraseIdx i).countP P+(if P x=true then 1 else 0)=l.countP P
 | a::l,0,x,h=>by
  obtain rfl:a=x:=by simpa using h
  simp[List.countP_cons]
 | a::l,i+1,x,h=>by
  have:=k0 (P:=P) (l:=l) (i:=i) (x:=x) (by simpa using h)
  simp[List.countP_cons] at this ⊢;omega
def EI(w:Int)(x:dh):Bool:=decide (x.who=w)
def dp(w:Int)(l:List dh):Nat:=l.countP (EI w)
def cG(g:Gates)(w:Int):Nat:=kZ (fun m:dB=>dp w m.wait) g.aF+kZ (dp w) g.bn+kZ (fun m:jr=>dp w m.wait) g.cf
def cU(w:Int)(u:Tub):Nat:=u.bC.count w+u.bP.countP fun x=>decide (x.who=w)
def cT(l:List Tub)(w:Int):Nat:=kZ (cU w) l
def cD(d:jC)(w:Int):Nat:=d.wait.countP fun r=>decide (r.who=w)
def cL(u:j6)(w:Int):Nat:=u.dY.countP fun x=>decide (x.1=w)
def jn(w:Int):Option bo→Nat
 | none=>0
 | some t=>if t.av=w∧¬w = -1 then 1 else 0
def cJ(l:List (Option bo))(w:Int):Nat:=kZ (jn w) l
def gN(s:Spc)(w:Int):Nat:=cG s.ag w+cT s.bA w+cD s.aO w+cL s.aA w+cJ s.thr w
def bT(t:bo):Nat:=if t.why=0∨t.why=9 then 0 else 1
def bO:Option bo→Nat
 | none=>0
 | some t=>bT t
def rO:Option bo→Nat
 | none=>0
 | some t=>if t.why=0 then 1 else 0
def ed(s:Spc)(w:Int):Nat:=bO (s.at w)
def eR(s:Spc)(w:Int):Nat:=rO (s.at w)
def fq(x:Int):Prop:=0≤x∧x≤18446744073709551615
structure q4(p:eZ)(g:Gates):Prop where
 m:g.aF.length=p.aB.toNat
 c:g.bn.length=p.conds.toNat
 s:g.cf.length=p.aU.length
 sc:∀ x∈g.cf,0≤x.count∧x.count≤1048576
 cm:∀ r∈g.bn, ∀ w∈r,0≤w.mutex∧w.mutex<(g.aF.length:Int)
structure Iq(u:Tub):Prop where
 r:u.room≤8
 l:u.words.length≤8
 w:∀ x∈u.words,fq x
 p:∀ x∈u.bP,fq x.x
structure zG(d:jC):Prop where
 l:d.blocks.length≤64
 b:∀ x∈d.blocks,fq x
 w:∀ r∈d.wait,0≤r.block∧r.block<(d.blocks.length:Int)∧fq r.x
structure Jh(o:Bool×Int)(n:Nat)(t:bo):Prop where
 h:t.handle=dq o.2 n
 R:gR t
 pc:0≤t.pc∧t.pc≤257
 d:t.bq=true→t.av = -1
 f:t.why=9→t.av = -1
def xP(p:eZ):Prop:=dD p=0∧ ∀ f∈p.funcs, ∀ i∈f,fq i.n
structure Ok(k:Nat)(s:Spc)(p q:List Int):Prop where
 yW:xP s.dK
 lt:s.thr.length=16
 ll:s.table.length=16
 tk:∀ o∈s.table,0≤o.2∧o.2≤(k:Int)
 us:∀ n:Nat,n<16→((s.table.getD n (false,0)).1=true↔ ∃ t,s.thr[n]?=some (some t))
 th:∀ (n:Nat) (t:bo),s.thr[n]?=some (some t)→Jh (s.table.getD n (false,0)) n t
 me:s.mem.length=s.dK.words.toNat∧ ∀ x∈s.mem,fq x
 gt:q4 s.dK s.ag
 tb:s.bA.length=s.dK.aG.length∧ ∀ u∈s.bA,Iq u
 dk:zG s.aO
 wl:0≤s.aA.now∧s.aA.now≤1099511627776
 oE:∀ w,gN s w+p.count w=ed s w+q.count w
/-! who is at a place -/
theorem jP{s:Spc}{n:Nat}:s.at (n:Int)=(s.thr[n]?).getD none:=by
 unfold Spc.at cE;rw[if_neg (by omega),Int.toNat_natCast]
theorem zH{s:Spc}{w:Int}(h:w<0):s.at w=none:=by unfold Spc.at cE;rw[if_pos h];rfl
theorem jQ{s:Spc}{n:Nat}{o:Option bo}(hn:n<s.thr.length)(w:Int):({s with thr:=s.thr.set n o }:Spc).at w=if w=(n:Int) then o else s.at w:=by
 by_cases h0:w<0
 ·rw[zH h0,zH h0,if_neg (by omega)]
 ·obtain⟨m,rfl⟩:∃ m:Nat,w=(m:Int):=⟨w.toNat,by omega⟩
  rw[jP,jP]
  simp only
  by_cases e:m=n
  ·subst e;rw[List.getElem?_set_self hn,if_pos rfl];rfl
  ·rw[List.getElem?_set_ne (fun h=>e h.symm),if_neg (by omega)]
theorem ly{s:Spc}{n:Nat}{t:bo}(h:s.thr[n]?=some (some t)):s.at (n:Int)=some t:=by rw[jP,h];rfl
theorem fa{s:Spc}{w:Int}{t:bo}(h:s.at w=some t):0≤w∧s.thr[w.toNat]?=some (some t):=by
 by_cases h0:w<0
 ·rw[zH h0] at h;cases h
 ·obtain⟨m,rfl⟩:∃ m:Nat,w=(m:Int):=⟨w.toNat,by omega⟩
  rw[jP] at h
  refine⟨by omega,?_⟩
  rw[Int.toNat_natCast]
  cases e:s.thr[m]? with
  | none=>rw[e] at h;cases h
  | some o=>rw[e] at h;exact congrArg some h
theorem gO{s:Spc}{w:Int}(h:0<ed s w):∃ t,s.at w=some t∧t.why≠0∧t.why≠9:=by
 unfold ed bO at h
 cases e:s.at w with
 | none=>rw[e] at h;exact absurd h (by simp)
 | some t =>
  rw[e] at h;simp only[bT] at h
  split at h
  ·exact absurd h (by simp)
  ·exact⟨t,rfl,by omega,by omega⟩
theorem pT{s:Spc}{w:Int}:ed s w≤1:=by
 unfold ed bO
 split
 ·omega
 ·unfold bT;split <;> omega
theorem ns{t:bo}(h:t.why=0):bT t=0:=by unfold bT;rw[if_pos (.inl h)]
theorem jR{t:bo}(h:t.why≠0)(h9:t.why≠9):bT t=1:=by unfold bT;rw[if_neg (by omega)]
/-! steps that keep a space in order -/
section
variable{k:Nat}{s:Spc}{p q:List Int}
theorem Ok.au(h:Ok k s p q)(l:List Rec):Ok k {s with au:=l } p q:=⟨h.yW,h.lt,h.ll,h.tk,h.us,h.th,h.me,h.gt,h.tb,h.dk,h.wl,h.oE⟩
theorem Ok.Ji(h:Ok k s p q){p' q':List Int}(e:∀ w,p'.count w+q.count w=p.count w+q'.count w):Ok k s p' q':=⟨h.yW,h.lt,h.ll,h.tk,h.us,h.th,h.me,h.gt,h.tb,h.dk,h.wl,fun w=>by have:=h.oE w;have:=e w;omega⟩
theorem Ok.more(h:Ok k s p q){k':Nat}(hk:k≤k'):Ok k' s p q:=⟨h.yW,h.lt,h.ll,fun o ho=>by have:=h.tk o ho;omega,h.us,h.th,h.me,h.gt,h.tb,h.dk,h.wl,h.oE⟩
theorem Ok.mem(h:Ok k s p q){m:List Int}(hl:m.length=s.mem.length)(hw:∀ x∈m,fq x):Ok k {s with mem:=m } p q:=⟨h.yW,h.lt,h.ll,h.tk,h.us,h.th,⟨hl.trans h.me.1,hw⟩,h.gt,h.tb,h.dk,h.wl,h.oE⟩
theorem Ok.ag(h:Ok k s p q){g:Gates}(hg:q4 s.dK g){p' q':List Int}(e:∀ w,cG g w+p'.count w+q.count w=cG s.ag w+p.count w+q'.count w):Ok k {s with ag:=g } p' q' :=
 ⟨h.yW,h.lt,h.ll,h.tk,h.us,h.th,h.me,hg,h.tb,h.dk,h.wl,fun w=>by
  have h1:=h.oE w;have h2:=e w
  have h3:ed {s with ag:=g } w=ed s w:=rfl
  rw[h3];unfold gN at h1 ⊢;simp only;omega⟩
theorem Ok.bA(h:Ok k s p q){l:List Tub}(hl:l.length=s.bA.length)(hu:∀ u∈l,Iq u){p' q':List Int}(e:∀ w,cT l w+p'.count w+q.count w=cT s.bA w+p.count w+q'.count w):Ok k {s with bA:=l } p' q' :=
 ⟨h.yW,h.lt,h.ll,h.tk,h.us,h.th,h.me,h.gt,⟨hl.trans h.tb.1,hu⟩,h.dk,h.wl,fun w=>by
  have h1:=h.oE w;have h2:=e w
  have h3:ed {s with bA:=l } w=ed s w:=rfl
  rw[h3];unfold gN at h1 ⊢;simp only;omega⟩
theorem Ok.aO(h:Ok k s p q){d:jC}(hd:zG d){p' q':List Int}(e:∀ w,cD d w+p'.count w+q.count w=cD s.aO w+p.count w+q'.count w):Ok k {s with aO:=d } p' q' :=
 ⟨h.yW,h.lt,h.ll,h.tk,h.us,h.th,h.me,h.gt,h.tb,hd,h.wl,fun w=>by
  have h1:=h.oE w;have h2:=e w
  have h3:ed {s with aO:=d } w=ed s w:=rfl
  rw[h3];unfold gN at h1 ⊢;simp only;omega⟩
theorem Ok.aA(h:Ok k s p q){u:j6}(hu:0≤u.now∧u.now≤1099511627776){p' q':List Int}(e:∀ w,cL u w+p'.count w+q.count w=cL s.aA w+p.count w+q'.count w):Ok k {s with aA:=u } p' q' :=
 ⟨h.yW,h.lt,h.ll,h.tk,h.us,h.th,h.me,h.gt,h.tb,h.dk,hu,fun w=>by
  have h1:=h.oE w;have h2:=e w
  have h3:ed {s with aA:=u } w=ed s w:=rfl
  rw[h3];unfold gN at h1 ⊢;simp only;omega⟩
theorem Ok.aj(h:Ok k s p q){n:Nat}{t t':bo}(ht:s.thr[n]?=some (some t))(hh:Jh (s.table.getD n (false,0)) n t'){p' q':List Int}
  (e:∀ w,jn w (some t')+(if w=(n:Int) then bT t else 0)+p'.count w+q.count w=jn w (some t)+(if w=(n:Int) then bT t' else 0)+p.count w+q'.count w):Ok k (s.aj n t') p' q':=by
 have hn:n<s.thr.length:=(List.getElem?_eq_some_iff.1 ht).1
 refine⟨h.yW,?_,h.ll,h.tk,fun m hm=>?_,fun m u hu=>?_,h.me,h.gt,h.tb,h.dk,h.wl,fun w=>?_⟩
 ·show(s.thr.set n _).length=16;rw[List.length_set];exact h.lt
 ·refine(h.us m hm).trans ?_
  show(∃ t,s.thr[m]?=_)↔ ∃ t,(s.thr.set n (some t'))[m]?=_
  by_cases e:n=m
  ·subst e;rw[List.getElem?_set_self hn];exact⟨fun _=>⟨_,rfl⟩,fun _=>⟨_,ht⟩⟩
  ·rw[List.getElem?_set_ne e]
 ·have hu:(s.thr.set n (some t'))[m]?=some (some u):=hu
  by_cases e:n=m
  ·subst e;rw[List.getElem?_set_self hn] at hu;cases hu;exact hh
  ·rw[List.getElem?_set_ne e] at hu;exact h.th m u hu
 ·have h1:=h.oE w;have h2:=e w
  have h3:cJ (s.aj n t').thr w+jn w (some t)=cJ s.thr w+jn w (some t'):=gm (f:=jn w) (some t') ht
  have h4:ed (s.aj n t') w+(if w=(n:Int) then bT t else 0)=ed s w+(if w=(n:Int) then bT t' else 0):=by
   unfold ed
   rw[show(s.aj n t').at w=_ from jQ hn w]
   by_cases e:w=(n:Int)
   ·subst e;simp only[if_pos];rw[ly ht];simp only[bO];omega
   ·simp only[if_neg e]
  have h5:gN (s.aj n t') w=cG s.ag w+cT s.bA w+cD s.aO w+cL s.aA w+cJ (s.aj n t').thr w:=rfl
  rw[h5];unfold gN at h1;omega
end
end Go.SLYtefdijgllbkmfaaGreat
namespace Go.SLYtefdijgllbkmfaaGreat
open Go Go.RowKit
section
variable{k:Nat}{s:Spc}{p q:List Int}
theorem xQ{l:List (Bool×Int)}{n:Nat}(hn:n<16)(hl:l.length=16)(h1:(l.getD n (false,0)).1=true)(_h0:0≤(l.getD n (false,0)).2):bm l (dq (l.getD n (false,0)).2 n)=some n:=by
 unfold bm
 have e:dq (l.getD n (false,0)).2 n % 65536=(n:Int)+1:=by unfold dq;omega
 rw[e,if_neg (by omega),show((n:Int)+1-1).toNat=n from by omega]
 have hx:=getD_some (d:=(false,(0:Int))) (show n<l.length by omega)
 rw[hx]
 simp only
 rw[if_pos (by simp only[and_true];exact h1)]
theorem Ok.EJ(h:Ok k s p q){n:Nat}{t:bo}(ht:s.thr[n]?=some (some t)):s.free n = {s with table:=s.table.set n (false,(s.table.getD n (false,0)).2),thr:=s.thr.set n none }:=by
 have hn:n<16:=h.lt ▸ (List.getElem?_eq_some_iff.1 ht).1
 have hx:=getD_some (d:=(false,(0:Int))) (show n<s.table.length by rw[h.ll];exact hn)
 have h0:=h.tk _ (List.mem_of_getElem? hx)
 unfold Spc.free
 rw[cW ht,(h.th n t ht).h,rY (xQ hn h.ll ((h.us n hn).2 ⟨t,ht⟩) h0.1)]
 rfl
theorem Ok.free(h:Ok k s p q){n:Nat}{t:bo}(ht:s.thr[n]?=some (some t)){p' q':List Int}
  (e:∀ w,(if w=(n:Int) then bT t else 0)+p'.count w+q.count w=jn w (some t)+p.count w+q'.count w):Ok k (s.free n) p' q':=by
 have hn:n<s.thr.length:=(List.getElem?_eq_some_iff.1 ht).1
 have hn16:n<16:=h.lt ▸ hn
 have hlt:n<s.table.length:=by rw[h.ll];exact hn16
 have hx:=getD_some (d:=(false,(0:Int))) hlt
 rw[h.EJ ht]
 refine⟨h.yW,?_,?_,fun o ho=>?_,fun m hm=>?_,fun m u hu=>?_,h.me,h.gt,h.tb,h.dk,h.wl,fun w=>?_⟩
 ·show(s.thr.set n _).length=16;rw[List.length_set];exact h.lt
 ·show(s.table.set n _).length=16;rw[List.length_set];exact h.ll
 ·rcases List.mem_or_eq_of_mem_set ho with ho | rfl
  ·exact h.tk o ho
  ·show 0≤(s.table.getD n (false,0)).2∧_
   exact h.tk _ (List.mem_of_getElem? hx)
 ·show((s.table.set n _).getD m (false,0)).1=true↔ ∃ t,(s.thr.set n none)[m]?=_
  by_cases e:n=m
  ·subst e
   rw[List.getElem?_set_self hn,List.getD_eq_getElem?_getD,List.getElem?_set_self hlt]
   exact⟨fun h=>(by cases h),fun⟨t,h⟩=>(by cases h)⟩
  ·rw[List.getElem?_set_ne e,List.getD_eq_getElem?_getD,List.getElem?_set_ne e, ← List.getD_eq_getElem?_getD]
   exact h.us m hm
 ·have hu:(s.thr.set n none)[m]?=some (some u):=hu
  by_cases e:n=m
  ·subst e;rw[List.getElem?_set_self hn] at hu;cases hu
  ·rw[List.getElem?_set_ne e] at hu
   show Jh ((s.table.set n _).getD m (false,0)) m u
   rw[List.getD_eq_getElem?_getD,List.getElem?_set_ne e, ← List.getD_eq_getElem?_getD]
   exact h.th m u hu
 ·have h1:=h.oE w;have h2:=e w
  have h3:cJ (s.thr.set n none) w+jn w (some t)=cJ s.thr w+0:=gm (f:=jn w) none ht
  have h4:ed {s with thr:=s.thr.set n none } w+(if w=(n:Int) then bT t else 0)=ed s w:=by
   unfold ed
   rw[jQ hn w]
   by_cases e:w=(n:Int)
   ·subst e;simp only[if_pos];rw[ly ht];simp only[bO];omega
   ·simp only[if_neg e];omega
  have h5:ed {s with table:=s.table.set n (false,(s.table.getD n (false,0)).2),thr:=s.thr.set n none } w=ed {s with thr:=s.thr.set n none } w:=rfl
  rw[h5]
  unfold gN at h1 ⊢
  simp only
  omega
theorem Ok.begin(h:Ok k s p q)(hk:k≤1000000){f arg:Int}(ha:fq arg):Ok (k+1) (s.begin f arg).2.2 p q:=by
 cases hf:slotFree? s.table 0 with
 | none=>rw[iY hf];exact h.more (Nat.le_succ _)
 | some n =>
  have hfr:∀ (l:List (Bool×Int)) (i n:Nat),slotFree? l i=some n→i≤n∧ ∃ o,l[n-i]?=some o∧o.1=false:=by
   intro l
   induction l with
   | nil=>intro i n h;cases h
   | cons o l ih =>
    intro i n h
    unfold slotFree? at h
    split at h
    ·obtain⟨a,o',b,c⟩:=ih (i+1) n h
     exact⟨by omega,o',by rw[show n-i=(n-(i+1))+1 from by omega];simpa using b,c⟩
    ·cases h;rename_i hb
     exact⟨Nat.le_refl _,o,by simp,by simpa using hb⟩
  obtain⟨-,o,ho,ho1⟩:=hfr _ _ _ hf
  rw[Nat.sub_zero] at ho
  have hlt:n<s.table.length:=(List.getElem?_eq_some_iff.1 ho).1
  have hn16:n<16:=h.ll ▸ hlt
  have hn:n<s.thr.length:=by rw[h.lt];exact hn16
  have hgd:s.table.getD n (false,0)=o:=by rw[List.getD_eq_getElem?_getD,ho];rfl
  have hno:s.thr[n]?=some none:=by
   obtain⟨x,hx⟩:=ay hn
   cases x with
   | none=>exact hx
   | some t=>have:=(h.us n hn16).2 ⟨t,hx⟩;rw[hgd,ho1] at this;cases this
  have htk:=h.tk o (List.mem_of_getElem? ho)
  rw[dX hf,hgd]
  refine⟨h.yW,?_,?_,fun o' ho'=>?_,fun m hm=>?_,fun m u hu=>?_,h.me,h.gt,h.tb,h.dk,h.wl,fun w=>?_⟩
  ·show(s.thr.set n _).length=16;rw[List.length_set];exact h.lt
  ·show(s.table.set n _).length=16;rw[List.length_set];exact h.ll
  ·rcases List.mem_or_eq_of_mem_set ho' with ho' | rfl
   ·have:=h.tk o' ho';omega
   ·show 0≤o.2+1∧o.2+1≤((k+1:Nat):Int);omega
  ·show((s.table.set n _).getD m (false,0)).1=true↔ ∃ t,(s.thr.set n _)[m]?=_
   by_cases e:n=m
   ·subst e
    rw[List.getElem?_set_self hn,List.getD_eq_getElem?_getD,List.getElem?_set_self hlt]
    exact⟨fun _=>⟨_,rfl⟩,fun _=>rfl⟩
   ·rw[List.getElem?_set_ne e,List.getD_eq_getElem?_getD,List.getElem?_set_ne e, ← List.getD_eq_getElem?_getD]
    exact h.us m hm
  ·have hu:(s.thr.set n _)[m]?=some (some u):=hu
   by_cases e:n=m
   ·subst e;rw[List.getElem?_set_self hn] at hu;cases hu
    show Jh ((s.table.set n _).getD n (false,0)) n _
    rw[List.getD_eq_getElem?_getD,List.getElem?_set_self hlt]
    refine⟨rfl,⟨rfl,fun m=>?_,by show(-1:Int)≤ -1∧(-1:Int)<8;decide,by show(0:Int)≤0∧(0:Int)≤_;decide,?_⟩,by show(0:Int)≤0∧(0:Int)≤257;decide,fun h=>(by cases h),fun h=>rfl⟩
    ·have h0:(0:Int)≤0∧(0:Int)≤18446744073709551615:=by decide
     show 0≤([arg,0,0,0,0,0,0,0]:List Int).getD m 0∧_
     match m with
     | 0=>exact ha
     | 1=>exact h0
     | 2=>exact h0
     | 3=>exact h0
     | 4=>exact h0
     | 5=>exact h0
     | 6=>exact h0
     | 7=>exact h0
     | m+8=>exact h0
    ·show 0≤dq (o.2+1) n∧dq (o.2+1) n≤_;unfold dq;omega
   ·rw[List.getElem?_set_ne e] at hu
    show Jh ((s.table.set n _).getD m (false,0)) m u
    rw[List.getD_eq_getElem?_getD,List.getElem?_set_ne e, ← List.getD_eq_getElem?_getD]
    exact h.th m u hu
  ·have h1:=h.oE w
   have h3:cJ (s.thr.set n (some (mP f arg (dq (o.2+1) n)))) w+0=cJ s.thr w+jn w (some (mP f arg (dq (o.2+1) n))):=gm (f:=jn w) _ hno
   have hj:jn w (some (mP f arg (dq (o.2+1) n)))=0:=by unfold jn;exact if_neg (by rintro⟨a,b⟩;exact b a.symm)
   have h4:ed {s with thr:=s.thr.set n (some (mP f arg (dq (o.2+1) n))) } w=ed s w:=by
    unfold ed
    rw[jQ hn w]
    by_cases e:w=(n:Int)
    ·subst e;simp only[if_pos];rw[jP,hno];rfl
    ·simp only[if_neg e]
   have h5:ed {s with table:=s.table.set n (true,o.2+1),thr:=s.thr.set n (some (mP f arg (dq (o.2+1) n))) } w=ed {s with thr:=s.thr.set n (some (mP f arg (dq (o.2+1) n))) } w:=rfl
   rw[h5]
   unfold gN at h1 ⊢
   simp only
   omega
end
end Go.SLYtefdijgllbkmfaaGreat
namespace Go.SLYtefdijgllbkmfaaGreat
open Go Go.RowKit
def opn(V:List Rec)(h:Int):Option Int:=match (V.filter fun r=>decide (r.dv=h)).getLast? with | none=>none | some r=>if r.fin=true then none else some r.op
theorem EK{V:List Rec}{r:Rec}{h:Int}(e:r.dv=h):opn (V++[r]) h=if r.fin=true then none else some r.op:=by
 unfold opn;rw[List.filter_append];simp[e]
theorem Cp{V:List Rec}{r:Rec}{h:Int}(e:r.dv≠h):opn (V++[r]) h=opn V h:=by
 unfold opn;rw[List.filter_append];simp[e]
def sA(V:List Rec):Prop:=∀ a r b,V=a++r::b→ ∀ op,opn a r.dv=some op→r.fin=true∧r.op=op∧r.x=0∧r.result=0
theorem sA.nil:sA []:=fun a r b e=>by cases a <;> cases e
theorem sA.snoc{V:List Rec}{r:Rec}(h:sA V)(hr:∀ op,opn V r.dv=some op→r.fin=true∧r.op=op∧r.x=0∧r.result=0):sA (V++[r]):=fun a q b e=>by
 rcases List.eq_nil_or_concat b with rfl | ⟨b',z,rfl⟩
 ·have:=List.append_inj' e rfl
  obtain⟨rfl,h2⟩:=this
  cases h2
  exact hr
 ·rw[List.concat_eq_append, ← List.cons_append, ← List.append_assoc] at e
  have:=List.append_inj' e rfl
  exact h a q b' this.1
structure ek(s:Spc)(V:List Rec):Prop where
 pr:sA V
 op:∀ (n:Nat) (t:bo),s.thr[n]?=some (some t)→opn V t.handle=if bT t=1 then some t.op else none
 hd:∀ r∈V, ∃ (n:Nat) (k:Int),n<16∧r.dv=dq k n∧k≤(s.table.getD n (false,0)).2
theorem uj{a b:Int}{n m:Nat}(hn:n<16)(hm:m<16)(h:dq a n=dq b m):n=m∧a=b:=by unfold dq at h;omega
section
variable{k:Nat}{s:Spc}{p q:List Int}{V:List Rec}{n:Nat}{t t':bo}
theorem ek.of(h:ek s V){s':Spc}(e1:s'.thr=s.thr)(e2:s'.table=s.table):ek s' V:=⟨h.pr,fun n t ht=>h.op n t (by rw[← e1];exact ht),fun r hr=>by rw[e2];exact h.hd r hr⟩
theorem Cq(hO:Ok k s p q){m:Nat}{u:bo}(ht:s.thr[n]?=some (some t))(hu:s.thr[m]?=some (some u))(hne:n≠m):t.handle≠u.handle:=fun e=>by
 rw[(hO.th n t ht).h,(hO.th m u hu).h] at e
 exact hne (uj (hO.lt ▸ (List.getElem?_eq_some_iff.1 ht).1) (hO.lt ▸ (List.getElem?_eq_some_iff.1 hu).1) e).1
theorem ek.wg(h:ek s V)(hO:Ok k s p q)(ht:s.thr[n]?=some (some t)){r:Rec}(hr:r.dv=t.handle)(hh:t'.handle=t.handle)(hp:∀ op,opn V t.handle=some op→r.fin=true∧r.op=op∧r.x=0∧r.result=0)
  (he:(if r.fin=true then none else some r.op)=if bT t'=1 then some t'.op else none):ek (s.aj n t') (V++[r]):=by
 have hn:n<s.thr.length:=(List.getElem?_eq_some_iff.1 ht).1
 refine⟨h.pr.snoc (by rw[hr];exact hp),fun m u hu=>?_,fun x hx=>?_⟩
 ·have hu:(s.thr.set n (some t'))[m]?=some (some u):=hu
  by_cases e:n=m
  ·subst e;rw[List.getElem?_set_self hn] at hu;cases hu
   rw[hh,EK hr];exact he
  ·rw[List.getElem?_set_ne e] at hu
   rw[Cp (by rw[hr];exact Cq hO ht hu e)]
   exact h.op m u hu
 ·rcases List.mem_append.1 hx with hx | hx
  ·exact h.hd x hx
  ·rw[List.mem_singleton] at hx
   rw[hx,hr,(hO.th n t ht).h]
   exact⟨n,_,hO.lt ▸ hn,rfl,Int.le_refl _⟩
theorem ek.aj(h:ek s V)(ht:s.thr[n]?=some (some t))(hh:t'.handle=t.handle)(hb:bT t'=bT t)(ho:bT t=1→t'.op=t.op):ek (s.aj n t') V:=by
 have hn:n<s.thr.length:=(List.getElem?_eq_some_iff.1 ht).1
 refine⟨h.pr,fun m u hu=>?_,h.hd⟩
 have hu:(s.thr.set n (some t'))[m]?=some (some u):=hu
 by_cases e:n=m
 ·subst e;rw[List.getElem?_set_self hn] at hu;cases hu
  rw[hh,h.op n t ht,hb]
  by_cases e:bT t=1
  ·rw[if_pos e,if_pos e,ho e]
  ·rw[if_neg e,if_neg e]
 ·rw[List.getElem?_set_ne e] at hu
  exact h.op m u hu
theorem ek.tell(h:ek s V)(hO:Ok k s p q)(ht:s.thr[n]?=some (some t))(hb:bT t=0){o x y e:Int}:ek s (V++[⟨t.handle,o,x,y,e,true⟩]):=by
 have h0:opn V t.handle=none:=by rw[h.op n t ht,hb];rfl
 have:=h.wg (t':=t) hO ht (r:=⟨t.handle,o,x,y,e,true⟩) rfl rfl (fun op e=>by rw[h0] at e;cases e) (by rw[hb];rfl)
 refine this.of ?_ rfl
 show s.thr=s.thr.set n (some t)
 rw[eF ht]
theorem ek.free(h:ek s V)(hO:Ok k s p q)(ht:s.thr[n]?=some (some t)):ek (s.free n) V:=by
 have hn:n<s.thr.length:=(List.getElem?_eq_some_iff.1 ht).1
 have hlt:n<s.table.length:=by rw[hO.ll, ← hO.lt];exact hn
 rw[hO.EJ ht]
 refine⟨h.pr,fun m u hu=>?_,fun r hr=>?_⟩
 ·have hu:(s.thr.set n none)[m]?=some (some u):=hu
  by_cases e:n=m
  ·subst e;rw[List.getElem?_set_self hn] at hu;cases hu
  ·rw[List.getElem?_set_ne e] at hu;exact h.op m u hu
 ·obtain⟨m,k,h1,h2,h3⟩:=h.hd r hr
  refine⟨m,k,h1,h2,?_⟩
  show k≤((s.table.set n (false,(s.table.getD n (false,0)).2)).getD m (false,0)).2
  by_cases e:n=m
  ·subst e;rw[List.getD_eq_getElem?_getD,List.getElem?_set_self hlt];exact h3
  ·rw[List.getD_eq_getElem?_getD,List.getElem?_set_ne e, ← List.getD_eq_getElem?_getD];exact h3
theorem EL{V:List Rec}{h:Int}(e:∀ r∈V,r.dv≠h):opn V h=none:=by
 unfold opn
 rw[List.filter_eq_nil_iff.2 (fun r hr=>by simpa using e r hr)];rfl
theorem ek.begin(h:ek s V)(hO:Ok k s p q){f a:Int}:ek (s.begin f a).2.2 V:=by
 cases hf:slotFree? s.table 0 with
 | none=>rw[iY hf];exact h
 | some n =>
  have hn16:n<16:=by
   have hfr:∀ (l:List (Bool×Int)) (i n:Nat),slotFree? l i=some n→n<i+l.length:=by
    intro l
    induction l with
    | nil=>intro i n h;cases h
    | cons o l ih =>
     intro i n h
     unfold slotFree? at h
     split at h
     ·have:=ih (i+1) n h;simp only[List.length_cons];omega
     ·cases h;simp only[List.length_cons];omega
   have:=hfr _ _ _ hf
   have:=hO.ll
   omega
  have hn:n<s.thr.length:=by rw[hO.lt];exact hn16
  have hlt:n<s.table.length:=by rw[hO.ll];exact hn16
  rw[dX hf]
  refine⟨h.pr,fun m u hu=>?_,fun r hr=>?_⟩
  ·have hu:(s.thr.set n _)[m]?=some (some u):=hu
   by_cases e:n=m
   ·subst e;rw[List.getElem?_set_self hn] at hu;cases hu
    refine(EL fun r hr e=>?_).trans rfl
    obtain⟨m,k,h1,h2,h3⟩:=h.hd r hr
    rw[h2] at e
    obtain⟨rfl,rfl⟩:=uj h1 hn16 e
    omega
   ·rw[List.getElem?_set_ne e] at hu;exact h.op m u hu
  ·obtain⟨m,k,h1,h2,h3⟩:=h.hd r hr
   refine⟨m,k,h1,h2,?_⟩
   show k≤((s.table.set n (true,(s.table.getD n (false,0)).2+1)).getD m (false,0)).2
   by_cases e:n=m
   ·subst e;rw[List.getD_eq_getElem?_getD,List.getElem?_set_self hlt];show k≤(s.table.getD n (false,0)).2+1;omega
   ·rw[List.getD_eq_getElem?_getD,List.getElem?_set_ne e, ← List.getD_eq_getElem?_getD];exact h3
theorem xR{u:bo}{y:Int}:(u.cV y).handle=u.handle:=by show(if u.into = -1 then u else u.put u.into y).handle=_;split <;> rfl
theorem ek.dn(h:ek s V)(hO:Ok k s p q){w0:Int}{u:bo}(hu:s.at w0=some u)(hu0:u.why≠0)(hu9:u.why≠9){y:Int}:ek (s.dn w0.toNat y) (V++[u.dL y]):=by
 obtain⟨h0,hat⟩:=fa hu
 unfold Spc.dn
 rw[cW hat]
 have hb:bT u=1:=jR hu0 hu9
 refine h.wg hO hat rfl xR (fun op e=>?_) ?_
 ·rw[h.op _ u hat,hb,if_pos rfl] at e
  cases e
  exact⟨rfl,rfl,rfl,rfl⟩
 ·rw[show bT (u.cV y)=0 from ns rfl];rfl
end
end Go.SLYtefdijgllbkmfaaGreat
namespace Go.SLYtefdijgllbkmfaaGreat
open Go Go.RowKit
structure dO(k:Nat)(s0:Spc)(d:Dng)(p q:List Int):Prop where
 ok:Ok k d.s p q
 rd:∀ w,eR d.s w+(if (d.out.bE=true∨d.out.ended=true)∧w=(d.n:Int) then 1 else 0)=eR s0 w+d.out.aM.count w
 wk:∀ w∈d.out.aM,eR s0 w=0
 rc:ek d.s (d.s.au++d.ends)
 px:s0.au <+: d.s.au
section
variable{k:Nat}{s0:Spc}{d:Dng}{p q:List Int}{t:bo}
theorem gu{w:Int}{t:bo}:jn w (some t)=if t.av=w∧¬w = -1 then 1 else 0:=rfl
theorem ee{t:bo}:rO (some t)=if t.why=0 then 1 else 0:=rfl
theorem l2{s:Spc}{n:Nat}{t t':bo}(ht:s.thr[n]?=some (some t))(w:Int):eR (s.aj n t') w=if w=(n:Int) then rO (some t') else eR s w:=by
 unfold eR
 rw[show(s.aj n t').at w=_ from jQ (List.getElem?_eq_some_iff.1 ht).1 w]
 split <;> rfl
theorem nt{s:Spc}{n:Nat}{t:bo}(ht:s.thr[n]?=some (some t)):eR s (n:Int)=rO (some t):=by unfold eR;rw[ly ht]
theorem dO.oE(h:dO k s0 d p q){p' q':List Int}(e:∀ w,p'.count w+q.count w=p.count w+q'.count w):dO k s0 d p' q':=⟨h.ok.Ji e,h.rd,h.wk,h.rc,h.px⟩
theorem dO.tell(h:dO k s0 d p q)(ht:d.s.thr[d.n]?=some (some t))(hw:t.why=0)(hn:d.ends=[]){x y e:Int}:dO k s0 (d.tell x y e true) p q:=⟨h.ok.au _,h.rd,h.wk,by
 have h1:=h.rc
 rw[hn,List.append_nil] at h1
 have h2:=h1.tell h.ok ht (ns hw) (o:=d.i.op) (x:=x) (y:=y) (e:=e)
 show ek (d.s.tell ⟨d.t.handle,d.i.op,x,y,e,true⟩) ((d.s.au++[⟨d.t.handle,d.i.op,x,y,e,true⟩])++d.ends)
 rw[hn,List.append_nil,ck ht]
 exact h2.of rfl rfl,h.px.trans (List.prefix_append _ _)⟩
theorem dO.own(h:dO k s0 d p q)(ht:d.s.thr[d.n]?=some (some t)){t':bo}(hR:gR t')(hpc:0≤t'.pc∧t'.pc≤257)(e1:t'.handle=t.handle)(e2:t'.why=t.why)(e3:t'.av=t.av)(e4:t'.bq=t.bq)(e5:t'.op=t.op):dO k s0 (d.aj t') p q:=by
 have ho:=h.ok.th d.n t ht
 refine⟨h.ok.aj ht ⟨e1.trans ho.h,hR,hpc,fun a=>by rw[e3];exact ho.d (by rw[← e4];exact a),fun a=>by rw[e3];exact ho.f (by rw[← e2];exact a)⟩ (fun w=>?_),fun w=>?_,h.wk,h.rc.aj ht e1 (by unfold bT;rw[e2]) (fun _=>e5),h.px⟩
 ·have hjj:jn w (some t')=jn w (some t):=by rw[gu,gu,e3]
  have hbb:bT t'=bT t:=by unfold bT;rw[e2]
  rw[hjj,hbb]
 ·have:=h.rd w
  have hr:eR (d.aj t').s w=eR d.s w:=by
   show eR (d.s.aj d.n t') w=_
   rw[l2 ht]
   split
   ·rename_i e;rw[e,nt ht,ee,ee,e2]
   ·rfl
  rw[hr];exact this
theorem dO.pass(h:dO k s0 d p q)(ht:d.s.thr[d.n]?=some (some t))(hw:t.why=0)(hn:d.ends=[]){x y e:Int}(he:0≤e∧e≤11):dO k s0 (d.pass x y e) p q:=by
 have ho:=h.ok.th d.n t ht
 unfold Dng.pass
 rw[ck ht]
 exact dO.own (d:=d.tell x y e true) (h.tell ht hw hn) ht (ho.R.put (by omega)) ho.pc rfl rfl rfl rfl rfl
theorem dO.block(h:dO k s0 d p ((d.n:Int)::q))(ht:d.s.thr[d.n]?=some (some t))(hw:t.why=0)(hn:d.ends=[])(hs:d.out.bE=false)(hd:d.out.ended=false){a i x y:Int}(ha:a≠0∧a≠9)(hi : -1≤i∧i<8):dO k s0 (d.block a i x y) p q:=by
 have ho:=h.ok.th d.n t ht
 have hTo:Ok k (d.tell x y 0 false).s p ((d.n:Int)::q):=h.ok.au _
 have ht2:(d.tell x y 0 false).s.thr[d.n]?=some (some t):=ht
 unfold Dng.block
 rw[ck ht]
 refine⟨hTo.aj ht2 (t':={t with why:=a,op:=d.i.op,into:=i }) ⟨ho.h,ho.R.with hi,ho.pc,ho.d,fun e=>absurd e ha.2⟩ (fun w=>?_),fun w=>?_,h.wk,?_,h.px.trans (List.prefix_append _ _)⟩
 ·have e1:bT t=0:=ns hw
  have e2:bT {t with why:=a,op:=d.i.op,into:=i }=1:=jR ha.1 ha.2
  have e3:jn w (some {t with why:=a,op:=d.i.op,into:=i })=jn w (some t):=rfl
  rw[e1,e2,e3,List.count_cons]
  simp only[beq_iff_eq]
  by_cases e:w=(d.n:Int)
  ·rw[if_pos e,if_pos e,if_pos e.symm];omega
  ·rw[if_neg e,if_neg e,if_neg (fun h=>e h.symm)];omega
 ·have h1:=h.rd w
  rw[if_neg (by rw[hs,hd];simp)] at h1
  show eR ((d.tell x y 0 false).s.aj d.n {t with why:=a,op:=d.i.op,into:=i }) w+(if (true=true∨d.out.ended=true)∧w=(d.n:Int) then 1 else 0)=eR s0 w+d.out.aM.count w
  rw[l2 ht2]
  by_cases e:w=(d.n:Int)
  ·rw[if_pos e,if_pos ⟨.inl rfl,e⟩]
   rw[e,nt ht] at h1
   have:rO (some t)=1:=by rw[ee,if_pos hw]
   have:rO (some {t with why:=a,op:=d.i.op,into:=i })=0:=by rw[ee];exact if_neg ha.1
   rw[e];omega
  ·rw[if_neg e,if_neg (fun h=>e h.2)]
   exact h1
 ·have h1:=h.rc
  rw[hn,List.append_nil] at h1
  have e2:bT {t with why:=a,op:=d.i.op,into:=i }=1:=jR ha.1 ha.2
  have h0:opn d.s.au t.handle=none:=by rw[h1.op d.n t ht,ns hw];rfl
  have h2:=h1.wg (t':={t with why:=a,op:=d.i.op,into:=i }) h.ok ht (r:=⟨t.handle,d.i.op,x,y,0,false⟩) rfl rfl (fun op e=>by rw[h0] at e;cases e) (by rw[e2];rfl)
  show ek ((d.tell x y 0 false).s.aj d.n {t with why:=a,op:=d.i.op,into:=i }) ((d.s.au++[⟨d.t.handle,d.i.op,x,y,0,false⟩])++d.ends)
  rw[hn,List.append_nil,ck ht]
  exact h2.of rfl rfl
theorem oF{u:bo}{y:Int}:(u.cV y).av=u.av:=by show(if u.into = -1 then u else u.put u.into y).av=_;split <;> rfl
theorem Ok.dn{s:Spc}(h:Ok k s p q){w0:Int}{u:bo}(hu:s.at w0=some u)(hu0:u.why≠0)(hu9:u.why≠9){y:Int}(hy:fq y):Ok k (s.dn w0.toNat y) p (w0::q):=by
 obtain⟨h0,hat⟩:=fa hu
 have ho:=h.th _ u hat
 have hc:((w0.toNat:Nat):Int)=w0:=by omega
 unfold Spc.dn
 rw[cW hat]
 refine h.aj hat ⟨?_,ho.R.cV hy,?_,?_,?_⟩ (fun w=>?_)
 ·rw[← ho.h];show(if u.into = -1 then u else u.put u.into y).handle=_;split <;> rfl
 ·show 0≤(if u.into = -1 then u else u.put u.into y).pc∧(if u.into = -1 then u else u.put u.into y).pc≤257;split <;> exact ho.pc
 ·intro e
  rw[oF];refine ho.d ?_
  rw[← e];show _=(if u.into = -1 then u else u.put u.into y).bq;split <;> rfl
 ·intro e;exact absurd (show(0:Int)=9 from e) (by decide)
 ·have e1:bT u=1:=jR hu0 hu9
  have e2:bT (u.cV y)=0:=ns rfl
  have e3:jn w (some (u.cV y))=jn w (some u):=by rw[gu,gu,oF]
  rw[e1,e2,e3,List.count_cons,hc]
  simp only[beq_iff_eq]
  by_cases e:w=w0
  ·rw[if_pos e,if_pos e,if_pos e.symm];omega
  ·rw[if_neg e,if_neg e,if_neg (fun h=>e h.symm)];omega
theorem oG{s:Spc}{w0:Int}{u:bo}(hu:s.at w0=some u){y:Int}(w:Int):eR (s.dn w0.toNat y) w=if w=w0 then 1 else eR s w:=by
 obtain⟨h0,hat⟩:=fa hu
 unfold Spc.dn
 rw[cW hat,l2 hat,show((w0.toNat:Nat):Int)=w0 from by omega]
 rfl
theorem dO.KJ(h:dO k s0 d p q){w0:Int}{u:bo}(hu:d.s.at w0=some u)(hu0:u.why≠0)(hu9:u.why≠9){y:Int}(hy:fq y)(hne:w0=(d.n:Int)→d.out.bE=false∧d.out.ended=false):dO k s0 (d.dZ w0.toNat y) p (w0::q):=by
 have h0:=(fa hu).1
 have hr:eR d.s w0=0:=by unfold eR;rw[hu,ee];exact if_neg hu0
 refine⟨h.ok.dn hu hu0 hu9 hy,fun w=>?_,fun w hw=>?_,?_,h.px⟩
 ·have h1:=h.rd w
  show eR (d.s.dn w0.toNat y) w+(if (d.out.bE=true∨d.out.ended=true)∧w=(d.n:Int) then 1 else 0)=eR s0 w+(d.out.aM++[((w0.toNat:Nat):Int)]).count w
  rw[oG hu,List.count_append,List.count_singleton,show((w0.toNat:Nat):Int)=w0 from by omega]
  simp only[beq_iff_eq]
  generalize (if (d.out.bE=true∨d.out.ended=true)∧w=(d.n:Int) then 1 else 0)=B at h1 ⊢
  by_cases e:w=w0
  ·rw[if_pos e,if_pos e.symm]
   rw[e] at h1 ⊢
   omega
  ·rw[if_neg e,if_neg (fun h=>e h.symm)];omega
 ·have hw:w∈d.out.aM++[((w0.toNat:Nat):Int)]:=hw
  rcases List.mem_append.1 hw with hw | hw
  ·exact h.wk w hw
  ·rw[List.mem_singleton,show((w0.toNat:Nat):Int)=w0 from by omega] at hw
   subst hw
   have h1:=h.rd w
   by_cases e:w=(d.n:Int)
   ·obtain⟨e1,e2⟩:=hne e
    rw[if_neg (by rw[e1,e2];simp)] at h1;omega
   ·rw[if_neg (fun h=>e h.2)] at h1;omega
 ·have h2:=h.rc.dn h.ok hu hu0 hu9 (y:=y)
  show ek (d.s.dn w0.toNat y) (d.s.au++(d.ends++[(d.s.t w0.toNat).dL y]))
  rw[← List.append_assoc,cW (fa hu).2]
  exact h2
theorem dO.dZ(h:dO k s0 d p q){w0:Int}(hpq:q.count w0<p.count w0){y:Int}(hy:fq y)(hne:w0=(d.n:Int)→d.out.bE=false∧d.out.ended=false):dO k s0 (d.dZ w0.toNat y) p (w0::q):=by
 have hb:=h.ok.oE w0
 obtain⟨u,hu,hu0,hu9⟩:=gO (show 0<ed d.s w0 by omega)
 exact h.KJ hu hu0 hu9 hy hne
theorem dO.aZ(h:dO k s0 d p q){g:Gates}(hg:q4 d.s.dK g){p' q':List Int}(e:∀ w,cG g w+p'.count w+q.count w=cG d.s.ag w+p.count w+q'.count w):dO k s0 (d.aZ g) p' q':=⟨h.ok.ag hg e,h.rd,h.wk,h.rc.of rfl rfl,h.px⟩
theorem dO.dP(h:dO k s0 d p q){i:Nat}{u v:Tub}(hi:d.s.bA[i]?=some u)(hv:Iq v){p' q':List Int}(e:∀ w,cU w v+p'.count w+q.count w=cU w u+p.count w+q'.count w):dO k s0 (d.dP i v) p' q':=by
 refine⟨h.ok.bA (by rw[List.length_set]) (fun x hx=>?_) (fun w=>?_),h.rd,h.wk,h.rc.of rfl rfl,h.px⟩
 ·rcases List.mem_or_eq_of_mem_set hx with hx | rfl
  ·exact h.ok.tb.2 x hx
  ·exact hv
 ·have h1:cT (d.s.bA.set i v) w+cU w u=cT d.s.bA w+cU w v:=gm (f:=cU w) v hi
  have:=e w;omega
theorem dO.dC(h:dO k s0 d p q){u:jC}(hu:zG u){p' q':List Int}(e:∀ w,cD u w+p'.count w+q.count w=cD d.s.aO w+p.count w+q'.count w):dO k s0 (d.dC u) p' q':=⟨h.ok.aO hu e,h.rd,h.wk,h.rc.of rfl rfl,h.px⟩
theorem dO.rW(h:dO k s0 d p q){u:j6}(hu:0≤u.now∧u.now≤1099511627776){p' q':List Int}(e:∀ w,cL u w+p'.count w+q.count w=cL d.s.aA w+p.count w+q'.count w):dO k s0 (d.rW u) p' q':=⟨h.ok.aA hu e,h.rd,h.wk,h.rc.of rfl rfl,h.px⟩
theorem sB(h:Ok k d.s p q){n:Nat}(ht:d.s.thr[n]?=some (some t))(w:Int):eR (d.s.free n) w=if w=(n:Int) then 0 else eR d.s w:=by
 rw[h.EJ ht]
 unfold eR
 rw[show({d.s with table:=d.s.table.set n (false,(d.s.table.getD n (false,0)).2),thr:=d.s.thr.set n none }:Spc).at w=({d.s with thr:=d.s.thr.set n none }:Spc).at w from rfl,jQ (List.getElem?_eq_some_iff.1 ht).1 w]
 split <;> rfl
theorem dO.free(h:dO k s0 d p q){m:Nat}(ht:d.s.thr[m]?=some (some t))(h9:t.why=9):dO k s0 (d.free m) p q:=by
 have ho:=h.ok.th m t ht
 refine⟨h.ok.free ht (fun w=>?_),fun w=>?_,h.wk,h.rc.free h.ok ht,h.px⟩
 ·have e1:bT t=0:=by unfold bT;rw[if_pos (.inr h9)]
  have e2:jn w (some t)=0:=by rw[gu,ho.f h9];exact if_neg (by rintro⟨a,b⟩;exact b a.symm)
  rw[e1,e2];split <;> omega
 ·have h1:=h.rd w
  show eR (d.s.free m) w+_=_
  rw[sB h.ok ht]
  by_cases e:w=(m:Int)
  ·have h2:eR d.s w=0:=by rw[e,nt ht,ee];exact if_neg (by omega)
   rw[if_pos e];rw[h2] at h1;exact h1
  ·rw[if_neg e];exact h1
theorem dO.fin(h:dO k s0 d [] [])(ht:d.s.thr[d.n]?=some (some t))(hw:t.why=0)(hs:d.out.bE=false)(hd:d.out.ended=false){v:Int}(hv:fq v):dO k s0 (d.fin v) [] []:=by
 have ho:=h.ok.th d.n t ht
 have hr0:rO (some t)=1:=by rw[ee];exact if_pos hw
 have hbt:bT t=0:=ns hw
 have h1:=h.rd
 have hend:∀ w,(if (d.ended.out.bE=true∨d.ended.out.ended=true)∧w=(d.ended.n:Int) then 1 else 0)=if w=(d.n:Int) then 1 else 0:=fun w=>by
  by_cases e:w=(d.n:Int)
  ·rw[if_pos (show(d.ended.out.bE=true∨d.ended.out.ended=true)∧w=(d.ended.n:Int) from⟨.inr rfl,e⟩),if_pos e]
  ·rw[if_neg (show ¬((d.ended.out.bE=true∨d.ended.out.ended=true)∧w=(d.ended.n:Int)) from fun h=>e h.2),if_neg e]
 have hrd:∀ w,eR d.s w=eR s0 w+d.out.aM.count w:=fun w=>by
  have:=h1 w;rw[if_neg (by rw[hs,hd];simp)] at this;exact this
 cases hdt:t.bq with
 | true =>
  rw[vU ht hdt]
  refine⟨h.ok.free ht (fun w=>?_),fun w=>?_,h.wk,h.rc.free h.ok ht,h.px⟩
  ·have e2:jn w (some t)=0:=by rw[gu,ho.d hdt];exact if_neg (by rintro⟨a,b⟩;exact b a.symm)
   rw[hbt,e2];split <;> omega
  ·show eR (d.s.free d.n) w+(if (d.ended.out.bE=true∨d.ended.out.ended=true)∧w=(d.ended.n:Int) then 1 else 0)=eR s0 w+d.out.aM.count w
   rw[hend,sB h.ok ht, ← hrd]
   by_cases e:w=(d.n:Int)
   ·rw[if_pos e,if_pos e,e,nt ht,hr0]
   ·rw[if_neg e,if_neg e];rfl
 | false =>
  by_cases hj:t.av = -1
  ·rw[sf ht hdt hj]
   refine⟨h.ok.aj (s:=d.s) (t':={t with why:=9,value:=v }) ht ⟨ho.h,⟨ho.R.l,ho.R.r,ho.R.i,hv,ho.R.h⟩,ho.pc,ho.d,fun _=>hj⟩ (fun w=>?_),fun w=>?_,h.wk,h.rc.aj (s:=d.s) (t':={t with why:=9,value:=v }) ht rfl (by rw[hbt];try rfl) (fun e=>absurd e (by rw[hbt];decide)),h.px⟩
   ·have e1:bT {t with why:=9,value:=v }=0:=by unfold bT;exact if_pos (.inr rfl)
    have e3:jn w (some {t with why:=9,value:=v })=jn w (some t):=rfl
    rw[hbt,e1,e3]
   ·show eR (d.s.aj d.n {t with why:=9,value:=v }) w+(if (d.ended.out.bE=true∨d.ended.out.ended=true)∧w=(d.ended.n:Int) then 1 else 0)=eR s0 w+d.out.aM.count w
    rw[hend,l2 ht, ← hrd]
    by_cases e:w=(d.n:Int)
    ·rw[if_pos e,if_pos e,e,nt ht,hr0,ee,if_neg (by show(9:Int)≠0;decide)]
    ·rw[if_neg e,if_neg e];rfl
  ·rw[si ht hdt hj]
   -- who joined dZ on: it is counted by this thread's own word
   have hcj:1≤gN d.s t.av:=by
    have:jn t.av (some t)=1:=by rw[gu];exact if_pos ⟨rfl,hj⟩
    have h2:jn t.av (some t)≤cJ d.s.thr t.av:=dj (f:=jn t.av) (List.mem_of_getElem? ht)
    unfold gN;omega
   have hb:=h.ok.oE t.av
   obtain⟨u,hu,hu0,hu9⟩:=gO (s:=d.s) (w:=t.av) (by simp at hb;omega)
   obtain⟨h0,hat⟩:=fa hu
   have hne:t.av.toNat≠d.n:=fun e=>by rw[e,ht] at hat;cases hat;exact hu0 hw
   have hc:((t.av.toNat:Nat):Int)=t.av:=by omega
   have hk:=h.ok.dn hu hu0 hu9 hv
   have ht2:(d.s.dn t.av.toNat v).thr[d.n]?=some (some t):=by
    unfold Spc.dn;exact cr ht hne
   refine⟨hk.free (n:=d.n) ht2 (fun w=>?_),fun w=>?_,fun w hw=>?_,?_,h.px⟩
   ·rw[hbt,gu,List.count_cons]
    simp only[beq_iff_eq,List.count_nil]
    by_cases e:t.av=w
    ·rw[if_pos (show t.av=w∧¬w = -1 from⟨e,by rw[← e];exact hj⟩),if_pos e];split <;> omega
    ·rw[if_neg (show ¬(t.av=w∧¬w = -1) from fun h=>e h.1),if_neg e];split <;> omega
   ·show eR ((d.s.dn t.av.toNat v).free d.n) w+(if (d.ended.out.bE=true∨d.ended.out.ended=true)∧w=(d.ended.n:Int) then 1 else 0)=eR s0 w+(d.out.aM++[((t.av.toNat:Nat):Int)]).count w
    rw[hend,sB (d:={d with s:=d.s.dn t.av.toNat v }) hk ht2,hc,List.count_append,List.count_singleton]
    simp only[beq_iff_eq]
    rw[oG hu]
    have h2:=hrd w
    by_cases e:w=(d.n:Int)
    ·rw[if_pos e,if_pos e,if_neg (show ¬t.av=w by rw[e];omega)]
     rw[e,nt ht,hr0] at h2
     rw[e];omega
    ·rw[if_neg e,if_neg e]
     by_cases e2:w=t.av
     ·rw[if_pos e2,if_pos e2.symm]
      have:eR d.s w=0:=by rw[e2];unfold eR;rw[hu,ee];exact if_neg hu0
      omega
     ·rw[if_neg e2,if_neg (fun h=>e2 h.symm)];omega
   ·have hw:w∈d.out.aM++[((t.av.toNat:Nat):Int)]:=hw
    rcases List.mem_append.1 hw with hw | hw
    ·exact h.wk w hw
    ·rw[List.mem_singleton,hc] at hw
     have h2:=hrd w
     have:eR d.s w=0:=by rw[hw];unfold eR;rw[hu,ee];exact if_neg hu0
     omega
   ·have h2:=h.rc.dn h.ok hu hu0 hu9 (y:=v)
    have h3:=h2.free hk (n:=d.n) ht2
    show ek ((d.s.dn t.av.toNat v).free d.n) (d.s.au++(d.ends++[(d.s.t t.av.toNat).dL v]))
    rw[← List.append_assoc,cW hat]
    exact h3
end
end Go.SLYtefdijgllbkmfaaGreat
namespace Go.SLYtefdijgllbkmfaaGreat
open Go Go.RowKit
theorem A7{n:Int}:fq (gU n):=by unfold gU fq;omega
theorem wh:fq mW:=by unfold mW fq;decide
theorem q5{n:Int}(h:fq n):fq (fA n):=by unfold fA;split;exact wh;exact h
theorem A8{o:Option Nat}(h:∀ r,o=some r→r<18446744073709551616):fq (B8 o):=by
 cases o with
 | none=>exact wh
 | some r=>have:=h r rfl;exact q5 ⟨by omega,by omega⟩
theorem gC{c:Prop}[Decidable c]{a b:Int}(h1:fq a)(h2:fq b):fq (if c then a else b):=by split;exact h1;exact h2
theorem Ir{b:Bool}:fq (rV b):=by unfold rV;exact gC ⟨by decide,by decide⟩ ⟨by decide,by decide⟩
theorem EM{neg:Bool}{win:Ordering}{x y:Nat}(hx:x<18446744073709551616)(hy:y<18446744073709551616):fq ((eD neg win x y:Nat):Int):=by
 have h1:Go.FloatKind.f64.encode (.infinity neg)<18446744073709551616:=by cases neg <;> decide +kernel
 unfold eD
 simp only
 unfold fq
 repeat' split
 all_goals omega
theorem A9{op a b:Int}(ha:fq a)(hb:fq b):fq (aH op a b):=by
 have hx:a.toNat<18446744073709551616:=by have:=ha.1;have:=ha.2;omega
 have hy:b.toNat<18446744073709551616:=by have:=hb.1;have:=hb.2;omega
 have h0:fq 0:=⟨by decide,by decide⟩
 have hmin:fq (n8 a b):=by unfold n8;exact gC wh (q5 (EM hx hy))
 have hmax:fq (n9 a b):=by unfold n9;exact gC wh (q5 (EM hx hy))
 have hti:fq (fe a):=by unfold fe;exact gC h0 (gC ⟨by decide,by decide⟩ (gC ⟨by decide,by decide⟩ A7))
 have htf:fq (fj a):=by
  unfold fj
  refine q5 ⟨by omega,?_⟩
  have:Go.FloatKind.f64.nearest (Go.IntKind.i64.wrap a)<18446744073709551616:=(Ieee.Format.write_lt Ieee.double (.number (decide (Go.IntKind.i64.wrap a<0)) (Go.IntKind.i64.wrap a).natAbs 0):_)
  omega
 unfold aH
 refine gC ha (gC A7 (gC A7 (gC A7 (gC Ir (gC (A8 fun r h=>Ieee.Format.add_lt _ h) (gC (A8 fun r h=>Ieee.Format.sub_lt _ h) (gC (A8 fun r h=>Ieee.Format.mul_lt _ h) (gC (A8 fun r h=>Ieee.Format.div_lt _ h) (gC hmin (gC hmax (gC Ir (gC hti (gC htf h0)))))))))))))
end Go.SLYtefdijgllbkmfaaGreat
namespace Go.SLYtefdijgllbkmfaaGreat
open Go Go.RowKit
def b2(p:Prop)[Decidable p]:Nat:=if p then 1 else 0
theorem l3{w:Int}{l:List dh}{a b:Int}:dp w (l++[⟨a,b⟩])=dp w l+b2 (a=w):=by
 unfold dp b2 EI;rw[List.countP_append];simp[List.countP_cons]
theorem pU{w:Int}{l:List dh}{c:Int}:dp w (aJ l c).2.2+b2 ((aJ l c).2.1=true∧(aJ l c).1.who=w)=dp w l:=by
 by_cases h0:l.length=0
 ·rw[vN h0];unfold b2;rw[if_neg (by rintro⟨a,b⟩;cases a)];rfl
 ·rw[qY h0]
  have hp:=fc (t:=c) (n:=l.length) (by omega)
  have hx:l[pick c l.length]?=some (l.getD (pick c l.length) ⟨0,0⟩):=getD_some hp
  have:=k0 (P:=EI w) hx
  unfold dp b2
  rw[← this]
  simp only[true_and,EI,decide_eq_true_eq]
theorem pV{w:Int}{l:List dh}(h:dp w l=0):lB l w=false:=by
 unfold lB
 rw[List.any_eq_false]
 intro x hx e
 have:0<dp w l:=List.countP_pos_iff.2 ⟨x,hx,e⟩
 omega
theorem zI{g:Gates}{w:Int}(h:cG g w=0):g.waits w=false:=by
 unfold cG at h
 unfold Gates.waits
 rw[Bool.or_eq_false_iff,Bool.or_eq_false_iff,List.any_eq_false,List.any_eq_false,List.any_eq_false]
 refine⟨⟨fun x hx=>?_,fun x hx=>?_⟩,fun x hx=>?_⟩
 ·have:=dj (f:=fun m:dB=>dp w m.wait) hx
  rw[pV (by omega)];simp
 ·have:=dj (f:=dp w) hx
  rw[pV (by omega)];simp
 ·have:=dj (f:=fun m:jr=>dp w m.wait) hx
  rw[pV (by omega)];simp
theorem d1:(1:Int)≠0:=by decide
theorem d4:(4:Int)≠0:=by decide
theorem d5:(5:Int)≠0:=by decide
section
variable{g:Gates}{p:eZ}
theorem wj{i:Nat}{x y:dB}(h:g.aF[i]?=some x)(w:Int):cG {g with aF:=g.aF.set i y } w+dp w x.wait=cG g w+dp w y.wait:=by
 have:=gm (f:=fun m:dB=>dp w m.wait) y h
 unfold cG;simp only at this ⊢;omega
theorem EN{i:Nat}{x y:List dh}(h:g.bn[i]?=some x)(w:Int):cG {g with bn:=g.bn.set i y } w+dp w x=cG g w+dp w y:=by
 have:=gm (f:=dp w) y h
 unfold cG;simp only at this ⊢;omega
theorem wm{i:Nat}{x y:jr}(h:g.cf[i]?=some x)(w:Int):cG {g with cf:=g.cf.set i y } w+dp w x.wait=cG g w+dp w y.wait:=by
 have:=gm (f:=fun m:jr=>dp w m.wait) y h
 unfold cG;simp only at this ⊢;omega
theorem q4.aF(h:q4 p g){i:Nat}{y:dB}:q4 p {g with aF:=g.aF.set i y }:=⟨by simp only[List.length_set];exact h.m,h.c,h.s,h.sc,fun r hr w hw=>by simp only[List.length_set];exact h.cm r hr w hw⟩
theorem q4.bn(h:q4 p g){i:Nat}{y:List dh}(hy:∀ w∈y,0≤w.mutex∧w.mutex<(g.aF.length:Int)):q4 p {g with bn:=g.bn.set i y }:=⟨h.m,by simp only[List.length_set];exact h.c,h.s,h.sc,fun r hr w hw=>by
 rcases List.mem_or_eq_of_mem_set hr with hr | rfl
 ·exact h.cm r hr w hw
 ·exact hy w hw⟩
theorem q4.cf(h:q4 p g){i:Nat}{y:jr}(hy:0≤y.count∧y.count≤1048576):q4 p {g with cf:=g.cf.set i y }:=⟨h.m,h.c,by simp only[List.length_set];exact h.s,fun x hx=>by
 rcases List.mem_or_eq_of_mem_set hx with hx | rfl
 ·exact h.sc x hx
 ·exact hy,h.cm⟩
theorem eS{q:Prop}[Decidable q](h:¬q):b2 q=0:=if_neg h
theorem jf{q:Prop}[Decidable q](h:q):b2 q=1:=if_pos h
theorem Jj(h:q4 p g){n m:Int}:q4 p (g.lock n m).2.2∧ ∀ w,cG (g.lock n m).2.2 w=cG g w+b2 (((g.lock n m).2.1=0∧(g.lock n m).1=false)∧n=w):=by
 have nope:∀ (b:Bool) (e:Int),(e≠0∨b=true)→ ∀ w,cG g w=cG g w+b2 ((e=0∧b=false)∧n=w):=fun b e he w=>by
  rw[eS (by rintro⟨⟨a,c⟩, -⟩;rcases he with he | he;exact he a;rw[he] at c;cases c)];rfl
 by_cases hm:0≤m∧m<(g.aF.length:Int)
 ·obtain⟨x,hx,hgx⟩:=cp hm
  cases hb:(g.waits n || x.is n) with
  | true=>rw[qw hgx hb];exact⟨h,nope _ _ (.inl d4)⟩
  | false =>
   rw[ub hgx hb]
   cases hh:x.held with
   | true =>
    rw[vO hh]
    refine⟨h.aF,fun w=>?_⟩
    have:=wj (y:={x with wait:=x.wait++[⟨n,0⟩] }) hx w
    rw[l3] at this
    have e:b2 (((0:Int)=0∧false=false)∧n=w)=b2 (n=w):=by unfold b2;simp
    rw[e];simp only at this ⊢;omega
   | false =>
    rw[vP hh]
    refine⟨h.aF,fun w=>?_⟩
    have:=wj (y:={x with held:=true,owner:=n }) hx w
    rw[eS (by rintro⟨⟨a,c⟩, -⟩;cases c)]
    simp only at this ⊢;omega
 ·rw[tZ hm];exact⟨h,nope _ _ (.inl d1)⟩
theorem qD{x:dB}{c w:Int}:dp w (x.unlock c).2.2.wait+b2 ((x.unlock c).2.1=true∧(x.unlock c).1=w)=dp w x.wait:=pU
theorem xS(h:q4 p g){n m c:Int}:q4 p (g.unlock n m c).2.2.2∧ ∀ w,cG (g.unlock n m c).2.2.2 w+b2 ((g.unlock n m c).2.1=true∧(g.unlock n m c).1=w)=cG g w:=by
 have nope:∀ w,cG g w+b2 (false=true∧(0:Int)=w)=cG g w:=fun w=>by rw[eS (by rintro⟨a, -⟩;cases a)];rfl
 by_cases hm:0≤m∧m<(g.aF.length:Int)
 ·obtain⟨x,hx,hgx⟩:=cp hm
  cases hb:x.is n with
  | false=>rw[oq hgx hb];exact⟨h,nope⟩
  | true =>
   rw[qy hgx hb]
   refine⟨h.aF,fun w=>?_⟩
   have:=wj (y:=(x.unlock c).2.2) hx w
   have:=qD (x:=x) (c:=c) (w:=w)
   simp only at *;omega
 ·rw[qx hm];exact⟨h,nope⟩
theorem Jk(h:q4 p g){n c m ch:Int}(hw0:g.waits n=false):q4 p (g.wait n c m ch).2.2.2∧ ∀ w,cG (g.wait n c m ch).2.2.2 w+b2 ((g.wait n c m ch).2.1=true∧(g.wait n c m ch).1=w)=cG g w+b2 ((g.wait n c m ch).2.2.1=0∧n=w):=by
 have nope:∀ e:Int,e≠0→ ∀ w,cG g w+b2 (false=true∧(0:Int)=w)=cG g w+b2 (e=0∧n=w):=fun e he w=>by rw[eS (by rintro⟨a, -⟩;cases a),eS (fun h=>he h.1)]
 by_cases hm:0≤m∧m<(g.aF.length:Int)
 ·by_cases hc:0≤c∧c<(g.bn.length:Int)
  ·obtain⟨x,hx,hgx⟩:=cp hm
   obtain⟨r,hr,hgr⟩:=cp hc
   cases hb:x.is n with
   | false=>rw[nk hgx hgr hw0 hb];exact⟨h,nope _ d5⟩
   | true =>
    rw[pK hgx hgr hw0 hb]
    have h1:=h.aF (i:=m.toNat) (y:=(x.unlock ch).2.2)
    refine⟨h1.bn (i:=c.toNat) (y:=r++[⟨n,m⟩]) (fun w hw=>?_),fun w=>?_⟩
    ·simp only[List.length_set]
     rcases List.mem_append.1 hw with hw | hw
     ·exact h.cm r (List.mem_of_getElem? hr) w hw
     ·rw[List.mem_singleton] at hw;rw[hw];exact hm
    ·have a1:=wj (y:=(x.unlock ch).2.2) hx w
     have a2:=qD (x:=x) (c:=ch) (w:=w)
     have a3:=EN (g:={g with aF:=g.aF.set m.toNat (x.unlock ch).2.2 }) (y:=r++[⟨n,m⟩]) hr w
     rw[l3] at a3
     have e:b2 ((0:Int)=0∧n=w)=b2 (n=w):=by unfold b2;simp
     simp only at *
     omega
  ·rw[nj hc];exact⟨h,nope _ d1⟩
 ·rw[ni hm];exact⟨h,nope _ d1⟩
theorem Jl(h:q4 p g){n s:Int}(hw0:g.waits n=false):q4 p (g.down n s).2.2∧ ∀ w,cG (g.down n s).2.2 w=cG g w+b2 (((g.down n s).2.1=0∧(g.down n s).1=false)∧n=w):=by
 by_cases hs:0≤s∧s<(g.cf.length:Int)
 ·obtain⟨x,hx,hgx⟩:=cp hs
  have hxc:=h.sc x (List.mem_of_getElem? hx)
  by_cases hc:0<x.count
  ·rw[ud hgx hw0 hc]
   refine⟨h.cf (by simp only;omega),fun w=>?_⟩
   have:=wm (y:={x with count:=x.count-1 }) hx w
   rw[eS (by rintro⟨⟨a,c⟩, -⟩;cases c)]
   simp only at this ⊢;omega
  ·rw[qB hgx hw0 hc]
   refine⟨h.cf hxc,fun w=>?_⟩
   have:=wm (y:={x with wait:=x.wait++[⟨n,0⟩] }) hx w
   rw[l3] at this
   have e:b2 (((0:Int)=0∧false=false)∧n=w)=b2 (n=w):=by unfold b2;simp
   rw[e];simp only at this ⊢;omega
 ·rw[uc hs]
  exact⟨h,fun w=>by rw[eS (by rintro⟨⟨a,c⟩, -⟩;exact d1 a)];rfl⟩
theorem KK(h:q4 p g){s c:Int}:q4 p (g.up s c).2.2.2∧ ∀ w,cG (g.up s c).2.2.2 w+b2 ((g.up s c).2.1=true∧(g.up s c).1=w)=cG g w:=by
 have no:∀ w,b2 (false=true∧(0:Int)=w)=0:=fun w=>eS (by rintro⟨a, -⟩;cases a)
 by_cases hs:0≤s∧s<(g.cf.length:Int)
 ·obtain⟨x,hx,hgx⟩:=cp hs
  have hxc:=h.sc x (List.mem_of_getElem? hx)
  cases ht:(aJ x.wait c).2.1 with
  | true =>
   rw[ue hgx ht]
   refine⟨h.cf hxc,fun w=>?_⟩
   have a1:=wm (y:={x with wait:=(aJ x.wait c).2.2 }) hx w
   have a2:=pU (w:=w) (l:=x.wait) (c:=c)
   rw[ht] at a2
   simp only at *;omega
  | false =>
   by_cases hc:1048576≤x.count
   ·rw[uf hgx ht hc];exact⟨h,fun w=>by rw[no];rfl⟩
   ·rw[AX hgx ht hc]
    refine⟨h.cf (by simp only;omega),fun w=>?_⟩
    have:=wm (y:={x with count:=x.count+1 }) hx w
    rw[no];simp only at this ⊢;omega
 ·rw[AW hs];exact⟨h,fun w=>by rw[no];rfl⟩
theorem Is:∀ (n:Nat) (c:Int) (r:List dh) (ms:List dB) (out:List Int) (w:Int),n≤r.length→(∀ y∈r,0≤y.mutex∧y.mutex<(ms.length:Int))→
  dp w (sigLoop n c r ms out).1+kZ (fun m:dB=>dp w m.wait) (sigLoop n c r ms out).2.1+(sigLoop n c r ms out).2.2.count w=dp w r+kZ (fun m:dB=>dp w m.wait) ms+out.count w∧ ∀ y∈(sigLoop n c r ms out).1,y∈r
 | 0,_,_,_,_,_,_,_=>⟨rfl,fun _ h=>h⟩
 | n+1,c,r,ms,out,w,hn,hr=>by
  obtain⟨h1,h2,h3⟩:=kk (l:=r) (c:=c) (by omega)
  have hm:=hr _ h1
  obtain⟨x,hx⟩:=ay (show(aJ r c).1.mutex.toNat<ms.length by omega)
  have ht:(aJ r c).2.1=true:=by rw[qY (by omega)]
  have hgx:ms.getD (aJ r c).1.mutex.toNat ⟨[],false,0⟩=x:=by rw[List.getD_eq_getElem?_getD,hx];rfl
  unfold sigLoop
  simp only
  rw[hgx]
  obtain⟨a1,a2⟩:=Is n c (aJ r c).2.2 (ms.set (aJ r c).1.mutex.toNat (x.lock (aJ r c).1.who).2) (if (x.lock (aJ r c).1.who).1=true then out++[(aJ r c).1.who] else out) w (by omega) (fun y hy=>by rw[List.length_set];exact hr y (h3 y hy))
  refine⟨a1.trans ?_,fun y hy=>h3 y (a2 y hy)⟩
  have b1:=pU (w:=w) (l:=r) (c:=c)
  have b3:=gm (f:=fun m:dB=>dp w m.wait) (x.lock (aJ r c).1.who).2 hx
  have e:b2 ((aJ r c).2.1=true∧(aJ r c).1.who=w)=b2 ((aJ r c).1.who=w):=by unfold b2;simp[ht]
  rw[e] at b1
  cases hh:x.held with
  | true =>
   rw[vO hh] at b3 ⊢
   simp only[Bool.false_eq_true,if_false] at b3 ⊢
   rw[l3] at b3
   omega
  | false =>
   rw[vP hh] at b3 ⊢
   simp only[if_true] at b3 ⊢
   rw[List.count_append,List.count_singleton]
   have e2:(if ((aJ r c).1.who == w)=true then 1 else 0)=b2 ((aJ r c).1.who=w):=by unfold b2;simp
   rw[e2];omega
theorem xU(h:q4 p g){c ch:Int}{all:Bool}:q4 p (g.signal c ch all).2.2∧ ∀ w,cG (g.signal c ch all).2.2 w+(g.signal c ch all).1.count w=cG g w:=by
 by_cases hc:0≤c∧c<(g.bn.length:Int)
 ·obtain⟨r,hr,hgr⟩:=cp hc
  have hrm:=h.cm r (List.mem_of_getElem? hr)
  rw[qA hgr rfl]
  have hs:=fun w=>Is (if all=true then r.length else min r.length 1) (if all=true then 0 else ch) r g.aF [] w (by split <;> omega) hrm
  refine⟨⟨?_,?_,h.s,h.sc,fun y hy w hw=>?_⟩,fun w=>?_⟩
  ·rw[oB];exact h.m
  ·simp only[List.length_set];exact h.c
  ·rw[oB]
   rcases List.mem_or_eq_of_mem_set hy with hy | rfl
   ·exact h.cm y hy w hw
   ·exact hrm w ((hs 0).2 w hw)
  ·have a1:=(hs w).1
   have a2:=gm (f:=dp w) (sigLoop (if all=true then r.length else min r.length 1) (if all=true then 0 else ch) r g.aF []).1 hr
   unfold cG
   simp only[List.count_nil] at *
   omega
 ·rw[qz hc];exact⟨h,fun w=>rfl⟩
end
end Go.SLYtefdijgllbkmfaaGreat
namespace Go.SLYtefdijgllbkmfaaGreat
open Go Go.RowKit
theorem oH{n w:Int}:[n].count w=b2 (n=w):=by rw[List.count_singleton];unfold b2;simp
theorem xV{ok:Bool}{n w:Int}:(if ok=true then [n] else []).count w=b2 (ok=true∧n=w):=by
 cases ok
 ·simp[b2]
 ·simp only[if_true,oH,true_and]
structure St(k:Nat)(s0:Spc)(d:Dng)(t:bo):Prop where
 h:dO k s0 d [] []
 ht:d.s.thr[d.n]?=some (some t)
 hw:t.why=0
 hs:d.out.bE=false
 he:d.out.ended=false
 I:jb d.i
 hn:d.ends=[]
section
variable{k:Nat}{s0:Spc}{d:Dng}{p q:List Int}{t:bo}
theorem St.o(S:St k s0 d t):Jh (d.s.table.getD d.n (false,0)) d.n t:=S.h.ok.th d.n t S.ht
theorem St.zero(S:St k s0 d t):gN d.s d.n=0:=by
 have:=S.h.ok.oE d.n
 have e:ed d.s d.n=0:=by unfold ed;rw[ly S.ht];exact ns S.hw
 simp at this;omega
theorem St.a(S:St k s0 d t):fq d.a:=by unfold Dng.a;rw[ck S.ht];exact S.o.R.r _
theorem St.b(S:St k s0 d t):fq d.b:=by unfold Dng.b;rw[ck S.ht];exact S.o.R.r _
theorem St.pass(S:St k s0 d t){x y e:Int}(he:0≤e∧e≤11):dO k s0 (d.pass x y e) [] []:=S.h.pass S.ht S.hw S.hn he
theorem dO.given{ok:Bool}{n:Int}(h:dO k s0 d (if ok=true then [n] else []) [])(hne:ok=true→n=(d.n:Int)→d.out.bE=false∧d.out.ended=false):dO k s0 (d.given n ok) [] []:=by
 unfold Dng.given
 cases ok with
 | false=>exact h
 | true =>
  have:=dO.dZ (y:=0) h (w0:=n) (by simp) ⟨by decide,by decide⟩ (hne rfl)
  exact this.oE (fun w=>by simp)
theorem EO{g:Gates}{n c m ch:Int}(h:(g.wait n c m ch).2.2.1≠0):(g.wait n c m ch).2.1=false:=by
 unfold Gates.wait at h ⊢
 repeat' split
 all_goals first | rfl | skip
 rename_i h1 h2 h3 h4
 rw[h1,h2] at h
 simp only at h
 rw[if_neg h3,if_pos h4] at h
 exact absurd rfl h
theorem St.waits(S:St k s0 d t):d.s.ag.waits d.n=false:=zI (by have:=S.zero;unfold gN at this;omega)
theorem EP{g:Gates}{n c m ch:Int}(hw0:g.waits n=false)(h:(g.wait n c m ch).2.2.1=0):1≤cG (g.wait n c m ch).2.2.2 n:=by
 by_cases hm:0≤m∧m<(g.aF.length:Int)
 ·by_cases hc:0≤c∧c<(g.bn.length:Int)
  ·obtain⟨x,hx,hgx⟩:=cp hm
   obtain⟨r,hr,hgr⟩:=cp hc
   cases hb:x.is n with
   | false=>rw[nk hgx hgr hw0 hb] at h;exact absurd h d5
   | true =>
    rw[pK hgx hgr hw0 hb]
    have a3:=EN (g:={g with aF:=g.aF.set m.toNat (x.unlock ch).2.2 }) (y:=r++[⟨n,m⟩]) hr n
    have a4:dp n r≤cG {g with aF:=g.aF.set m.toNat (x.unlock ch).2.2 } n:=by
     have:=dj (f:=dp n) (List.mem_of_getElem? hr)
     unfold cG;simp only;omega
    rw[l3,jf rfl] at a3
    simp only at a3 ⊢
    omega
  ·rw[nj hc] at h;exact absurd h d1
 ·rw[ni hm] at h;exact absurd h d1
theorem St.mutex(S:St k s0 d t):dO k s0 d.mutex [] []:=by
 unfold Dng.mutex
 simp only
 split
 ·obtain⟨hg,hc⟩:=Jj (n:=d.n) (m:=d.i.n) S.h.ok.gt
  split
  ·rename_i hb
   have h1:=S.h.aZ hg (p':=[]) (q':=[(d.n:Int)]) (fun w=>by
    rw[hc w,oH]
    have:b2 (((d.s.ag.lock d.n d.i.n).2.1=0∧(d.s.ag.lock d.n d.i.n).1=false)∧(d.n:Int)=w)=b2 ((d.n:Int)=w):=by unfold b2;simp[hb]
    rw[this];simp)
   exact h1.block S.ht S.hw S.hn S.hs S.he ⟨by decide,by decide⟩ (by decide)
  ·rename_i hb
   have h1:=S.h.aZ hg (p':=[]) (q':=[]) (fun w=>by rw[hc w,eS (fun h=>hb h.1)];rfl)
   exact h1.pass S.ht S.hw S.hn A0
 ·split
  ·obtain⟨hg,hc⟩:=xS (n:=d.n) (m:=d.i.n) (c:=d.choice) S.h.ok.gt
   have h1:=S.h.aZ hg (p':=if (d.s.ag.unlock d.n d.i.n d.choice).2.1=true then [(d.s.ag.unlock d.n d.i.n d.choice).1] else []) (q':=[]) (fun w=>by rw[xV];have:=hc w;simp;omega)
   exact(h1.pass S.ht S.hw S.hn pN).given (fun _ _=>⟨S.hs,S.he⟩)
  ·obtain⟨hg,hc⟩:=Jk (n:=d.n) (c:=d.i.n) (m:=d.i.c) (ch:=d.choice) S.h.ok.gt S.waits
   have hc2:=fun w=>hc w
   split
   ·rename_i he
    have h1:=S.h.aZ hg (p':=[]) (q':=[]) (fun w=>by
     have:=hc w
     rw[eS (fun h=>by rw[EO he] at h;exact absurd h.1 (by simp)),eS (fun h=>he h.1)] at this
     simp;omega)
    exact h1.pass S.ht S.hw S.hn A1
   ·rename_i he
    have he:(d.s.ag.wait d.n d.i.n d.i.c d.choice).2.2.1=0:=Decidable.not_not.mp he
    have hno:(d.s.ag.wait d.n d.i.n d.i.c d.choice).2.1=true→¬(d.s.ag.wait d.n d.i.n d.i.c d.choice).1=(d.n:Int):=fun ho hn=>by
     have h1:=hc d.n
     have h2:cG d.s.ag d.n=0:=by have:=S.zero;unfold gN at this;omega
     have h3:=EP (g:=d.s.ag) (n:=d.n) (c:=d.i.n) (m:=d.i.c) (ch:=d.choice) S.waits he
     rw[jf ⟨ho,hn⟩,jf ⟨he,rfl⟩] at h1
     omega
    have h1:=S.h.aZ hg (p':=if (d.s.ag.wait d.n d.i.n d.i.c d.choice).2.1=true then [(d.s.ag.wait d.n d.i.n d.i.c d.choice).1] else []) (q':=[(d.n:Int)]) (fun w=>by
     rw[xV,oH]
     have:=hc w
     have e:b2 ((d.s.ag.wait d.n d.i.n d.i.c d.choice).2.2.1=0∧(d.n:Int)=w)=b2 ((d.n:Int)=w):=by unfold b2;simp[he]
     rw[e] at this
     simp;omega)
    exact(h1.block S.ht S.hw S.hn S.hs S.he ⟨by decide,by decide⟩ (by decide)).given (fun ho hn=>absurd hn (hno ho))
theorem St.cf(S:St k s0 d t):dO k s0 d.cf [] []:=by
 unfold Dng.cf
 simp only
 split
 ·obtain⟨hg,hc⟩:=KK (s:=d.i.n) (c:=d.choice) S.h.ok.gt
  have h1:=S.h.aZ hg (p':=if (d.s.ag.up d.i.n d.choice).2.1=true then [(d.s.ag.up d.i.n d.choice).1] else []) (q':=[]) (fun w=>by rw[xV];have:=hc w;simp;omega)
  exact(h1.pass S.ht S.hw S.hn Eu).given (fun _ _=>⟨S.hs,S.he⟩)
 ·obtain⟨hg,hc⟩:=Jl (n:=d.n) (s:=d.i.n) S.h.ok.gt S.waits
  split
  ·rename_i hb
   have h1:=S.h.aZ hg (p':=[]) (q':=[(d.n:Int)]) (fun w=>by
    rw[hc w,oH]
    have:b2 (((d.s.ag.down d.n d.i.n).2.1=0∧(d.s.ag.down d.n d.i.n).1=false)∧(d.n:Int)=w)=b2 ((d.n:Int)=w):=by unfold b2;simp[hb]
    rw[this];simp)
   exact h1.block S.ht S.hw S.hn S.hs S.he ⟨by decide,by decide⟩ (by decide)
  ·rename_i hb
   have h1:=S.h.aZ hg (p':=[]) (q':=[]) (fun w=>by rw[hc w,eS (fun h=>hb h.1)];rfl)
   exact h1.pass S.ht S.hw S.hn A2
/-! those who go on by a signal -/
theorem Ok.LK{s:Spc}(h:Ok k s p q){w0:Int}{u:bo}(hu:s.at w0=some u)(hu0:u.why≠0)(hu9:u.why≠9):Ok k (s.aj w0.toNat {u with why:=1 }) p q:=by
 obtain⟨h0,hat⟩:=fa hu
 have ho:=h.th _ u hat
 refine h.aj (t':={u with why:=1 }) hat ⟨ho.h,⟨ho.R.l,ho.R.r,ho.R.i,ho.R.v,ho.R.h⟩,ho.pc,ho.d,fun e=>absurd (show(1:Int)=9 from e) (by decide)⟩ (fun w=>?_)
 have e1:bT u=1:=jR hu0 hu9
 have e2:bT {u with why:=1 }=1:=jR (t:={u with why:=1 }) (by show(1:Int)≠0;decide) (by show(1:Int)≠9;decide)
 have e3:jn w (some {u with why:=1 })=jn w (some u):=rfl
 rw[e1,e2,e3]
theorem ER{s:Spc}{w0:Int}{u:bo}(hu:s.at w0=some u)(hu0:u.why≠0)(hu9:u.why≠9)(w:Int):ed (s.aj w0.toNat {u with why:=1 }) w=ed s w∧eR (s.aj w0.toNat {u with why:=1 }) w=eR s w:=by
 obtain⟨h0,hat⟩:=fa hu
 have hc:((w0.toNat:Nat):Int)=w0:=by omega
 have e:(s.aj w0.toNat {u with why:=1 }).at w=if w=w0 then some {u with why:=1 } else s.at w:=by
  have:=jQ (s:=s) (n:=w0.toNat) (o:=some {u with why:=1 }) (List.getElem?_eq_some_iff.1 hat).1 w
  rw[hc] at this;exact this
 unfold ed eR
 rw[e]
 by_cases hw:w=w0
 ·rw[if_pos hw,hw,hu]
  refine⟨?_,?_⟩
  ·show bT {u with why:=1 }=bT u
   exact(jR (t:={u with why:=1 }) (by show(1:Int)≠0;decide) (by show(1:Int)≠9;decide)).trans (jR hu0 hu9).symm
  ·rw[ee,ee,if_neg (by show ¬(1:Int)=0;decide),if_neg hu0]
 ·rw[if_neg hw];exact⟨rfl,rfl⟩
theorem dO.bY:∀ (l:List Int) (d:Dng),dO k s0 d p q→(∀ w∈l,0<ed d.s w)→dO k s0 {d with s:=bY d.s l } p q
 | [],_,h,_=>h
 | w::l,d,h,hl=>by
  obtain⟨u,hu,hu0,hu9⟩:=gO (hl w List.mem_cons_self)
  have hat:=(fa hu).2
  have hk:=ER hu hu0 hu9
  have h2:dO k s0 {d with s:=d.s.aj w.toNat {u with why:=1 } } p q:=⟨h.ok.LK hu hu0 hu9,fun w'=>by
   have:=h.rd w'
   show eR (d.s.aj w.toNat {u with why:=1 }) w'+_=_
   rw[(hk w').2];exact this,h.wk,h.rc.aj hat rfl (by rw[jR hu0 hu9];exact jR (t:={u with why:=1 }) (by show(1:Int)≠0;decide) (by show(1:Int)≠9;decide)) (fun _=>rfl),h.px⟩
  have h3:=dO.bY l _ h2 (fun w' hw'=>by
   show 0<ed (d.s.aj w.toNat {u with why:=1 }) w'
   rw[(hk w').1];exact hl w' (List.mem_cons_of_mem _ hw'))
  show dO k s0 {d with s:=Go.SLYtefdijgllbkmfaaGreat.bY (d.s.aj w.toNat {d.s.t w.toNat with why:=1 }) l } p q
  rw[show d.s.t w.toNat=u from cW hat]
  exact h3
theorem dO.dE:∀ (l:List Int) (d:Dng),dO k s0 d l []→d.out.bE=false∧d.out.ended=false→dO k s0 (d.dE l) [] []
 | [],_,h,_=>h
 | w::l,d,h,hs=>by
  have h1:=h.dZ (w0:=w) (y:=0) (by simp) ⟨by decide,by decide⟩ (fun _=>hs)
  refine dO.dE l _ ?_ hs
  exact(h1.oE (fun w'=>by simp[List.count_cons]))
theorem dO.j8{l:List Int}(h:dO k s0 d l [])(hs:d.out.bE=false∧d.out.ended=false):dO k s0 (d.j8 l) [] []:=by
 unfold Dng.j8
 refine dO.dE l _ (dO.bY d.waits d h (fun w hw=>?_)) hs
 have:=h.ok.oE w
 have h1:0<cG d.s.ag w:=by
  obtain⟨x,hx,hw⟩:=List.mem_flatMap.1 hw
  obtain⟨y,hy,rfl⟩:=List.mem_map.1 hw
  have h2:=dj (f:=fun m:dB=>dp y.who m.wait) (List.mem_of_mem_take hx)
  have h3:0<dp y.who x.wait:=List.countP_pos_iff.2 ⟨y,hy,by simp[EI]⟩
  unfold cG;omega
 unfold gN at this
 simp at this;omega
theorem St.signal(S:St k s0 d t){all:Bool}:dO k s0 (((d.aZ (d.s.ag.signal d.i.n d.choice all).2.2).pass d.i.n 0 (d.s.ag.signal d.i.n d.choice all).2.1).j8 (d.s.ag.signal d.i.n d.choice all).1) [] []:=by
 obtain⟨hg,hc⟩:=xU (c:=d.i.n) (ch:=d.choice) (all:=all) S.h.ok.gt
 have h1:=S.h.aZ hg (p':=(d.s.ag.signal d.i.n d.choice all).1) (q':=[]) (fun w=>by have:=hc w;simp;omega)
 exact(h1.pass S.ht S.hw S.hn gY).j8 ⟨S.hs,S.he⟩
end
end Go.SLYtefdijgllbkmfaaGreat
namespace Go.SLYtefdijgllbkmfaaGreat
open Go Go.RowKit
section
variable{k:Nat}{s0:Spc}{d:Dng}{p q:List Int}{t:bo}
theorem zJ{l:List Int}(h:∀ n,fq (l.getD n 0)){i n:Nat}{x:Int}(hx:fq x):fq ((l.set i x).getD n 0):=oA hx h
theorem wq{l:List Int}(h:∀ x∈l,fq x){i:Nat}(hi:i<l.length):fq (l.getD i 0):=h _ (List.mem_of_getElem? (getD_some hi))
theorem Jm{f:iG}{m:List Int}{i:Ins}{z:iG×List Int}(h:hY f m i=some z)(hI:jb i)(hl:f.aq.length=8)(hr:∀ n,fq (f.aq.getD n 0))(hp:0≤f.pc∧f.pc≤256)(hm:∀ x∈m,fq x) :
  z.1.aq.length=8∧(∀ n,fq (z.1.aq.getD n 0))∧(0≤z.1.pc∧z.1.pc≤257)∧z.2.length=m.length∧ ∀ x∈z.2,fq x:=by
 have hn:=hI.n
 have hj:=hI.j
 unfold hY at h
 split at h
 ·cases h;exact⟨hl,hr,⟨hn.1,by have:=hj (.inl ‹_›);show i.n≤257;omega⟩,rfl,hm⟩
 split at h
 ·cases h
  refine⟨hl,hr,?_,rfl,hm⟩
  show 0≤(if f.eX i.a=0 then i.n else f.pc+1)∧(if f.eX i.a=0 then i.n else f.pc+1)≤257
  have:=hj (.inr ‹_›)
  split <;> omega
 split at h
 ·cases h
  exact⟨by show(f.aq.set _ _).length=8;rw[List.length_set];exact hl,fun n=>zJ hr ⟨hn.1,hn.2⟩,by show 0≤f.pc+1∧f.pc+1≤257;omega,rfl,hm⟩
 split at h
 ·split at h
  ·cases h
   refine⟨by show(f.aq.set _ _).length=8;rw[List.length_set];exact hl,fun n=>zJ hr (wq hm ?_),by show 0≤f.pc+1∧f.pc+1≤257;omega,rfl,hm⟩
   have:=(hr i.b.toNat).1
   unfold iG.eX at *;omega
  ·cases h
 split at h
 ·split at h
  ·cases h
   refine⟨hl,hr,by show 0≤f.pc+1∧f.pc+1≤257;omega,by show(m.set _ _).length=_;rw[List.length_set],fun x hx=>?_⟩
   rcases List.mem_or_eq_of_mem_set hx with hx | rfl
   ·exact hm x hx
   ·exact hr _
  ·cases h
 ·cases h
  refine⟨by show(f.aq.set _ _).length=8;rw[List.length_set];exact hl,fun n=>zJ hr (A9 (hr _) ?_),by show 0≤f.pc+1∧f.pc+1≤257;omega,rfl,hm⟩
  split
  ·exact⟨by decide,by decide⟩
  ·exact hr _
theorem St.told(S:St k s0 d t):dO k s0 d.told [] []∧d.told.s.thr=d.s.thr∧d.told.s.mem=d.s.mem∧d.told.n=d.n∧d.told.out=d.out:=by
 unfold Dng.told
 split
 ·exact⟨S.h.tell S.ht S.hw S.hn,rfl,rfl,rfl,rfl⟩
 ·split
  ·exact⟨S.h.tell S.ht S.hw S.hn,rfl,rfl,rfl,rfl⟩
  ·exact⟨S.h,rfl,rfl,rfl,rfl⟩
theorem St.plain(S:St k s0 d t)(hpc:t.pc≤256):dO k s0 d.plain [] []:=by
 have ho:=S.o
 cases hd:hY t.hZ d.s.mem d.i with
 | none =>
  rw[lX S.ht hd]
  have hm:fq 18446744073709551615:=⟨by decide,by decide⟩
  split
  ·exact dO.fin (d:=d.tell d.b 0 6 true) (S.h.tell S.ht S.hw S.hn) S.ht S.hw S.hs S.he hm
  ·exact dO.fin (d:=d.tell d.a d.b 6 true) (S.h.tell S.ht S.hw S.hn) S.ht S.hw S.hs S.he hm
 | some z =>
  rw[jG S.ht hd]
  obtain⟨h1,e1,e2,e3,e4⟩:=S.told
  obtain⟨a1,a2,a3,a4,a5⟩:=Jm hd S.I ho.R.l ho.R.r ⟨ho.pc.1,hpc⟩ S.h.ok.me.2
  have h2:dO k s0 (d.told.aj (t.lR z.1)) [] []:=h1.own (t:=t) (by rw[e1,e3];exact S.ht) ⟨a1,a2,ho.R.i,ho.R.v,ho.R.h⟩ a3 rfl rfl rfl rfl rfl
  have h3:dO k s0 {d.told.aj (t.lR z.1) with s:={(d.told.aj (t.lR z.1)).s with mem:=z.2 } } [] []:=⟨h2.ok.mem (by show z.2.length=d.told.s.mem.length;rw[e2];exact a4) a5,h2.rd,h2.wk,h2.rc.of rfl rfl,h2.px⟩
  have e5:({d.told with s:={d.told.s.aj d.n (t.lR z.1) with mem:=z.2 } }:Dng) = {d.told.aj (t.lR z.1) with s:={(d.told.aj (t.lR z.1)).s with mem:=z.2 } }:=by
   rw[← e3];rfl
  rw[e5];exact h3
theorem St.spawn(S:St k s0 d t)(hk:k≤1000000):dO (k+1) s0 d.spawn [] []:=by
 have hb:=S.b
 have hok:=S.h.ok.begin hk (f:=d.i.n) hb
 have hrd:=S.h.rd
 unfold Dng.spawn
 simp only
 cases hf:slotFree? d.s.table 0 with
 | none =>
  have e:d.s.begin d.i.n d.b=(0,2,d.s):=iY hf
  rw[e] at hok ⊢
  simp only[show ¬((2:Int)=0) from by decide,if_false]
  rw[ck (d:={d with s:=d.s,out:=d.out }) S.ht]
  have h1:dO (k+1) s0 d [] []:=⟨hok,hrd,S.h.wk,S.h.rc,S.h.px⟩
  have ho:=S.o
  have h2:=h1.own S.ht (t':=t.put d.i.a 0) (ho.R.put (by decide)) ho.pc rfl rfl rfl rfl rfl
  exact h2.pass (t:=t.put d.i.a 0) (bW S.ht) S.hw S.hn (by decide)
 | some n =>
  obtain⟨t1,ht1,ht1e⟩:=pP (f:=d.i.n) (arg:=d.b) hf (by
   have:=S.h.ok.lt
   have hfr:∀ (l:List (Bool×Int)) (i n:Nat),slotFree? l i=some n→n<i+l.length:=by
    intro l
    induction l with
    | nil=>intro i n h;cases h
    | cons o l ih =>
     intro i n h
     unfold slotFree? at h
     split at h
     ·have:=ih (i+1) n h;simp only[List.length_cons];omega
     ·cases h;simp only[List.length_cons];omega
   have:=hfr _ _ _ hf
   have:=S.h.ok.ll
   omega)
  have e1:(d.s.begin d.i.n d.b).1=(n:Int):=by rw[dX hf]
  have e2:(d.s.begin d.i.n d.b).2.1=0:=by rw[dX hf]
  have e3:(d.s.begin d.i.n d.b).2.2.thr=d.s.thr.set n (some t1):=by rw[ht1e,dX hf]
  have hn:n<d.s.thr.length:=by
   have:=(List.getElem?_eq_some_iff.1 ht1).1
   rw[e3,List.length_set] at this;exact this
  have hno:d.s.thr[n]?=some none:=by
   obtain⟨x,hx⟩:=ay hn
   cases x with
   | none=>exact hx
   | some u =>
    have hfr:∀ (l:List (Bool×Int)) (i n:Nat),slotFree? l i=some n→i≤n∧ ∃ o,l[n-i]?=some o∧o.1=false:=by
     intro l
     induction l with
     | nil=>intro i n h;cases h
     | cons o l ih =>
      intro i n h
      unfold slotFree? at h
      split at h
      ·obtain⟨a,o',b,c⟩:=ih (i+1) n h
       exact⟨by omega,o',by rw[show n-i=(n-(i+1))+1 from by omega];simpa using b,c⟩
      ·cases h;rename_i hb
       exact⟨Nat.le_refl _,o,by simp,by simpa using hb⟩
    obtain⟨-,o,ho,ho1⟩:=hfr _ _ _ hf
    rw[Nat.sub_zero] at ho
    have:=(S.h.ok.us n (S.h.ok.lt ▸ hn)).2 ⟨u,hx⟩
    rw[List.getD_eq_getElem?_getD,ho] at this
    rw[show(Option.getD (some o) (false,(0:Int)))=o from rfl,ho1] at this
    cases this
  have hne:n≠d.n:=fun e=>by rw[e,S.ht] at hno;cases hno
  have ht2:(d.s.begin d.i.n d.b).2.2.thr[d.n]?=some (some t):=by rw[e3,List.getElem?_set_ne hne];exact S.ht
  rw[e2,e1]
  simp only[if_true,Int.toNat_natCast]
  rw[cW ht1]
  have h1:dO (k+1) s0 {d with s:=(d.s.begin d.i.n d.b).2.2,out:={d.out with aM:=d.out.aM++[(n:Int)] } } [] []:=⟨hok,fun w=>by
   have h2:=hrd w
   rw[if_neg (by rw[S.hs,S.he];simp)] at h2
   show eR (d.s.begin d.i.n d.b).2.2 w+(if (d.out.bE=true∨d.out.ended=true)∧w=(d.n:Int) then 1 else 0)=eR s0 w+(d.out.aM++[(n:Int)]).count w
   rw[if_neg (by rw[S.hs,S.he];simp),List.count_append,oH]
   have h3:eR (d.s.begin d.i.n d.b).2.2 w=if w=(n:Int) then 1 else eR d.s w:=by
    unfold eR
    have:=jQ (s:=d.s) (n:=n) (o:=some t1) hn w
    rw[show(d.s.begin d.i.n d.b).2.2.at w=({d.s with thr:=d.s.thr.set n (some t1) }:Spc).at w from by unfold Spc.at;rw[e3],this]
    split
    ·rw[ee,ht1e];exact if_pos rfl
    ·rfl
   rw[h3]
   have h4:eR d.s (n:Int)=0:=by unfold eR;rw[jP,hno];rfl
   by_cases e:w=(n:Int)
   ·rw[if_pos e,jf e.symm];rw[e] at h2 ⊢;omega
   ·rw[if_neg e,eS (fun h=>e h.symm)];omega,fun w hw=>by
   have hw:w∈d.out.aM++[(n:Int)]:=hw
   rcases List.mem_append.1 hw with hw | hw
   ·exact S.h.wk w hw
   ·rw[List.mem_singleton] at hw
    subst hw
    have h2:=hrd (n:Int)
    rw[if_neg (by rw[S.hs,S.he];simp)] at h2
    have h4:eR d.s (n:Int)=0:=by unfold eR;rw[jP,hno];rfl
    omega,S.h.rc.begin S.h.ok |>.of rfl rfl |> fun h=>(by
   show ek (d.s.begin d.i.n d.b).2.2 ((d.s.begin d.i.n d.b).2.2.au++d.ends)
   rw[je];exact h),by show s0.au <+: (d.s.begin d.i.n d.b).2.2.au;rw[je];exact S.h.px⟩
  rw[ck (d:={d with s:=(d.s.begin d.i.n d.b).2.2,out:={d.out with aM:=d.out.aM++[(n:Int)] } }) ht2]
  have ho:=h1.ok.th d.n t ht2
  have hh1:=h1.ok.th n t1 ht1
  have h2:=h1.own ht2 (t':=t.put d.i.a t1.handle) (ho.R.put hh1.R.h) ho.pc rfl rfl rfl rfl rfl
  exact h2.pass (t:=t.put d.i.a t1.handle) (bW ht2) S.hw S.hn (by decide)
theorem dO.other(h:dO k s0 d p q){m:Nat}{u u':bo}(hu:d.s.thr[m]?=some (some u))(hh:Jh (d.s.table.getD m (false,0)) m u')(hhd:u'.handle=u.handle)(hop:u'.op=u.op)(hw:u'.why=u.why){q':List Int}(e:∀ w,jn w (some u')+q.count w=jn w (some u)+q'.count w):dO k s0 {d with s:=d.s.aj m u' } p q':=by
 refine⟨h.ok.aj hu hh (fun w=>?_),fun w=>?_,h.wk,h.rc.aj hu hhd (by unfold bT;rw[hw]) (fun _=>hop),h.px⟩
 ·have e1:bT u'=bT u:=by unfold bT;rw[hw]
  have:=e w
  rw[e1];omega
 ·have h1:=h.rd w
  show eR (d.s.aj m u') w+_=_
  have:eR (d.s.aj m u') w=eR d.s w:=by
   rw[l2 hu]
   split
   ·rename_i e;rw[e,nt hu,ee,ee,hw]
   ·rfl
  rw[this];exact h1
theorem pW(h:Ok k d.s p q)(x:Int)(m:Nat)(e:bm d.s.table x=some m):∃ u,d.s.thr[m]?=some (some u):=by
 obtain⟨h1,h2,h3,h4⟩:=vK e
 exact(h.us m (h.ll ▸ h1)).1 h3
theorem jI(h:Ok k d.s p q){x:Int}(e:(d.other x).2=0):∃ m u,(d.other x).1=m∧m≠d.n∧d.s.thr[m]?=some (some u)∧u.bq=false∧u.av = -1:=by
 cases hf:bm d.s.table x with
 | none=>rw[oy hf] at e;cases e
 | some m =>
  obtain⟨u,hu⟩:=pW h x m hf
  by_cases h1:m=d.n∨u.bq=true
  ·rw[jd hf hu h1] at e;cases e
  ·by_cases h2:u.av = -1
   ·exact⟨m,u,by rw[oz hf hu h1 h2],fun h=>h1 (.inl h),hu,by cases hd:u.bq with | false=>rfl | true=>exact absurd (.inr hd) h1,h2⟩
   ·rw[kW hf hu h1 h2] at e;cases e
theorem oI{s:Spc}{n m:Nat}{u:bo}(h:s.thr[m]?=some (some u))(hne:n≠m):(s.free n).thr[m]?=some (some u):=by
 unfold Spc.free;simp only;rw[List.getElem?_set_ne hne];exact h
theorem St.cO(S:St k s0 d t):dO k s0 d.cO [] []:=by
 unfold Dng.cO
 simp only
 split
 ·exact S.pass km
 ·rename_i e
  obtain⟨m,u,e1,hne,hu,hd,hj⟩:=jI S.h.ok (Decidable.not_not.mp e)
  have hOu:=S.h.ok.th m u hu
  rw[e1,cW hu]
  split
  ·rename_i h9
   exact(S.h.free hu h9).pass (t:=t) (oI S.ht hne) S.hw S.hn (by decide)
  ·exact(S.h.other hu (u':={u with bq:=true }) ⟨hOu.h,⟨hOu.R.l,hOu.R.r,hOu.R.i,hOu.R.v,hOu.R.h⟩,hOu.pc,fun _=>hj,hOu.f⟩ rfl rfl rfl (fun w=>rfl)).pass (t:=t) (cr S.ht hne) S.hw S.hn (by decide)
theorem St.join(S:St k s0 d t):dO k s0 d.join [] []:=by
 have ho:=S.o
 unfold Dng.join
 simp only
 split
 ·exact S.pass km
 ·rename_i e
  obtain⟨m,u,e1,hne,hu,hd,hj⟩:=jI S.h.ok (Decidable.not_not.mp e)
  have hOu:=S.h.ok.th m u hu
  rw[e1,cW hu]
  split
  ·rename_i h9
   rw[ck S.ht]
   have h1:=S.h.own S.ht (t':=t.put d.i.a u.value) (ho.R.put hOu.R.v) ho.pc rfl rfl rfl rfl rfl
   have hu2:(d.aj (t.put d.i.a u.value)).s.thr[m]?=some (some u):=cr hu (Ne.symm hne)
   exact(h1.free hu2 h9).pass (t:=t.put d.i.a u.value) (oI (bW S.ht) hne) S.hw S.hn (by decide)
  ·rename_i h9
   have h1:dO k s0 {d with s:=d.s.aj m {u with av:=d.n } } [] [(d.n:Int)]:=S.h.other hu (u':={u with av:=d.n }) ⟨hOu.h,⟨hOu.R.l,hOu.R.r,hOu.R.i,hOu.R.v,hOu.R.h⟩,hOu.pc,fun e=>absurd (show u.bq=true from e) (by rw[hd];simp),fun e=>absurd (show u.why=9 from e) h9⟩ rfl rfl rfl (fun w=>by
    rw[gu,gu,hj,if_neg (show ¬((-1:Int)=w∧¬w = -1) from fun h=>h.2 h.1.symm),oH]
    unfold b2
    by_cases e:(d.n:Int)=w
    ·rw[if_pos (show(d.n:Int)=w∧¬w = -1 from⟨e,by omega⟩),if_pos e];simp
    ·rw[if_neg (show ¬((d.n:Int)=w∧¬w = -1) from fun h=>e h.1),if_neg e];simp)
   exact h1.block (cr S.ht hne) S.hw S.hn S.hs S.he ⟨by decide,by decide⟩ (by have:=S.I.a;omega)
end
end Go.SLYtefdijgllbkmfaaGreat
namespace Go.SLYtefdijgllbkmfaaGreat
open Go Go.RowKit
theorem Gn:fq 0:=⟨by decide,by decide⟩
theorem tD{l:List Int}{w:Int}(h:l.count w=0):l.contains w=false:=by
 cases e:l.contains w with
 | false=>rfl
 | true =>
  have:w∈l:=by simpa using e
  have:=List.count_pos_iff.2 this
  omega
theorem sC{u:Tub}{n:Int}(h:cU n u=0):u.waits n=false:=by
 unfold cU at h
 unfold Tub.waits
 rw[tD (by omega),Bool.false_or,List.any_eq_false]
 intro x hx e
 have:0<u.bP.countP fun x=>decide (x.who=n):=List.countP_pos_iff.2 ⟨x,hx,e⟩
 omega
theorem eI{l:List Int}{x w:Int}:(x::l).count w=l.count w+b2 (x=w):=by rw[List.count_cons];unfold b2;simp
theorem ES{l:List Ptr}{a b w:Int}:(l++[(⟨a,b⟩:Ptr)]).countP (fun x:Ptr=>decide (x.who=w))=l.countP (fun x=>decide (x.who=w))+b2 (a=w):=by
 rw[List.countP_append];unfold b2;simp[List.countP_cons]
theorem uk{l:List Ptr}{x:Ptr}{w:Int}:(x::l).countP (fun x=>decide (x.who=w))=l.countP (fun x=>decide (x.who=w))+b2 (x.who=w):=by
 rw[List.countP_cons];unfold b2;simp
theorem KL{u:Tub}(h:Iq u){n x:Int}(hx:fq x)(hw:u.waits n=false):Iq (u.put n x).2.2.2∧ ∀ w,cU w (u.put n x).2.2.2+b2 ((u.put n x).2.2.1=true∧(u.put n x).2.1=w)=cU w u+b2 ((u.put n x).1=false∧n=w):=by
 cases hg:u.bC with
 | cons a r =>
  rw[ou hw hg]
  refine⟨⟨h.r,h.l,h.w,h.p⟩,fun w=>?_⟩
  have e1:b2 (true=true∧a=w)=b2 (a=w):=by unfold b2;simp
  rw[eS (q:=true=false∧n=w) (by rintro⟨a, -⟩;cases a),e1]
  unfold cU
  rw[hg,eI];simp only;omega
 | nil =>
  by_cases hr:(u.words.length:Int)<u.room
  ·rw[lV hw hg hr]
   refine⟨⟨h.r,?_,?_,h.p⟩,fun w=>?_⟩
   ·have:=h.r;rw[List.length_append];simp only[List.length_cons,List.length_nil];omega
   ·intro y hy
    rcases List.mem_append.1 hy with hy | hy
    ·exact h.w y hy
    ·rw[List.mem_singleton] at hy;rw[hy];exact hx
   ·rw[eS (q:=true=false∧n=w) (by rintro⟨a, -⟩;cases a),eS (q:=false=true∧(0:Int)=w) (by rintro⟨a, -⟩;cases a)];rfl
  ·rw[lW hw hg hr]
   refine⟨⟨h.r,h.l,h.w,fun y hy=>?_⟩,fun w=>?_⟩
   ·rcases List.mem_append.1 hy with hy | hy
    ·exact h.p y hy
    ·rw[List.mem_singleton] at hy;rw[hy];exact hx
   ·have e1:b2 (false=false∧n=w)=b2 (n=w):=by unfold b2;simp
    rw[eS (q:=false=true∧(0:Int)=w) (by rintro⟨a, -⟩;cases a),e1]
    unfold cU
    rw[ES];simp only;omega
theorem KM{u:Tub}(h:Iq u){n:Int}(hw:u.waits n=false):Iq (u.get n).2.2.2.2∧fq (u.get n).1∧ ∀ w,cU w (u.get n).2.2.2.2+b2 ((u.get n).2.2.2.1=true∧(u.get n).2.2.1=w)=cU w u+b2 ((u.get n).2.1=false∧n=w):=by
 have n1:∀ w,b2 (true=false∧n=w)=0:=fun w=>eS (by rintro⟨a, -⟩;cases a)
 have n2:∀ w,b2 (false=true∧(0:Int)=w)=0:=fun w=>eS (by rintro⟨a, -⟩;cases a)
 cases hg:u.words with
 | nil =>
  rw[get_none hw hg]
  refine⟨⟨h.r,h.l,h.w,h.p⟩,Gn,fun w=>?_⟩
  have e1:b2 (false=false∧n=w)=b2 (n=w):=by unfold b2;simp
  rw[n2,e1]
  unfold cU
  rw[List.count_append,oH];simp only;omega
 | cons x r =>
  have hwx:=h.w x (by rw[hg];exact List.mem_cons_self)
  have hwr:∀ y∈r,fq y:=fun y hy=>h.w y (by rw[hg];exact List.mem_cons_of_mem _ hy)
  have hl:=h.l
  rw[hg,List.length_cons] at hl
  cases hp:u.bP with
  | nil =>
   rw[my hw hg hp]
   refine⟨⟨h.r,by show r.length≤8;omega,hwr,h.p⟩,hwx,fun w=>?_⟩
   rw[n1,n2];rfl
  | cons y q =>
   rw[mz hw hg hp]
   refine⟨⟨h.r,?_,?_,fun z hz=>h.p z (by rw[hp];exact List.mem_cons_of_mem _ hz)⟩,hwx,fun w=>?_⟩
   ·show(r++[y.x]).length≤8
    rw[List.length_append];simp only[List.length_cons,List.length_nil];omega
   ·intro z hz
    rcases List.mem_append.1 hz with hz | hz
    ·exact hwr z hz
    ·rw[List.mem_singleton] at hz;rw[hz];exact h.p y (by rw[hp];exact List.mem_cons_self)
   ·have e1:b2 (true=true∧y.who=w)=b2 (y.who=w):=by unfold b2;simp
    rw[n1,e1]
    unfold cU
    rw[hp,uk];simp only;omega
theorem Jn{d:jC}{r:pE}{w:Int}:cD {d with wait:=d.wait++[r] } w=cD d w+b2 (r.who=w):=by
 unfold cD;rw[List.countP_append];unfold b2;simp[List.countP_cons]
theorem KN{d:jC}(h:zG d){r:pE}(hx:fq r.x)(hw:cD d r.who=0):zG (d.ask r).2∧ ∀ w,cD (d.ask r).2 w=cD d w+b2 ((d.ask r).1=0∧r.who=w):=by
 cases hb:(decide (r.block<0) || decide ((d.blocks.length:Int)≤r.block)) with
 | true =>
  rw[AY hb]
  exact⟨h,fun w=>by rw[eS (fun h=>d1 h.1)];rfl⟩
 | false =>
  have hn:d.wait.any (fun x=>decide (x.who=r.who))=false:=by
   rw[List.any_eq_false]
   intro x hx e
   have:0<cD d r.who:=List.countP_pos_iff.2 ⟨x,hx,e⟩
   omega
  rw[Em hb hn]
  refine⟨⟨h.l,h.b,fun y hy=>?_⟩,fun w=>?_⟩
  ·rcases List.mem_append.1 hy with hy | hy
   ·exact h.w y hy
   ·rw[List.mem_singleton] at hy
    subst hy
    simp only[Bool.or_eq_false_iff,decide_eq_false_iff_not] at hb
    exact⟨by omega,by show _<(d.blocks.length:Int);omega,hx⟩
  ·rw[Jn]
   have e1:b2 ((0:Int)=0∧r.who=w)=b2 (r.who=w):=by unfold b2;simp
   rw[e1]
theorem Jo{l:List (Int×Int)}{n v w:Int}(h:l.countP (fun x=>decide (x.1=n))=0):(mapSet l n v).countP (fun x=>decide (x.1=w))=l.countP (fun x=>decide (x.1=w))+b2 (n=w):=by
 induction l with
 | nil=>unfold mapSet b2;simp[List.countP_cons]
 | cons a l ih =>
  rw[List.countP_cons] at h
  have ha:¬a.1=n:=fun e=>by rw[if_pos (by simpa using e)] at h;omega
  unfold mapSet
  rw[if_neg ha,List.countP_cons,List.countP_cons,ih (by omega)]
  omega
theorem l4{l:List (Int×Int)}{n:Int}(h:l.countP (fun x=>decide (x.1=n))=0):cF l n=none:=by
 unfold cF
 rw[List.find?_eq_none.2]
 ·rfl
 ·intro x hx e
  have:0<l.countP (fun x=>decide (x.1=n)):=List.countP_pos_iff.2 ⟨x,hx,e⟩
  omega
theorem GU{u:j6}(h:0≤u.now∧u.now≤1099511627776){n x:Int}(hx:1≤x∧x≤1099511627776)(hz:cL u n=0):(0≤(u.sleep n x).2.now∧(u.sleep n x).2.now≤1099511627776)∧ ∀ w,cL (u.sleep n x).2 w=cL u w+b2 (n=w):=by
 unfold j6.sleep
 rw[if_neg (by omega),l4 hz,if_neg (by simp)]
 exact⟨h,fun w=>Jo hz⟩
section
variable{k:Nat}{s0:Spc}{d:Dng}{p q:List Int}{t:bo}
theorem St.bc(S:St k s0 d t)(ht:d.i.n<(d.s.bA.length:Int)):d.s.bA[d.i.n.toNat]?=some d.bc∧Iq d.bc∧d.bc.waits d.n=false:=by
 have hn:=S.I.n
 have h1:d.s.bA[d.i.n.toNat]?=some d.bc:=getD_some (by omega)
 have hm:=List.mem_of_getElem? h1
 refine⟨h1,S.h.ok.tb.2 _ hm,sC ?_⟩
 have h2:cU d.n d.bc≤cT d.s.bA d.n:=dj (f:=cU d.n) hm
 have:=S.zero
 unfold gN at this;omega
theorem St.put(S:St k s0 d t)(ht:d.i.n<(d.s.bA.length:Int)):dO k s0 d.put [] []:=by
 obtain⟨h1,h2,h3⟩:=S.bc ht
 obtain⟨h4,h5⟩:=KL h2 S.a h3
 unfold Dng.put
 simp only
 split
 ·rename_i hb
  have hg:(d.bc.put d.n d.a).2.2.1=false:=by
   cases hg:d.bc.bC with
   | cons a r=>rw[ou h3 hg] at hb;cases hb
   | nil =>
    by_cases hr:(d.bc.words.length:Int)<d.bc.room
    ·rw[lV h3 hg hr] at hb;cases hb
    ·rw[lW h3 hg hr]
  have h6:=S.h.dP h1 h4 (p':=[]) (q':=[(d.n:Int)]) (fun w=>by
   have:=h5 w
   rw[eS (fun h=>by rw[hg] at h;exact absurd h.1 (by simp))] at this
   have e:b2 ((d.bc.put d.n d.a).1=false∧(d.n:Int)=w)=b2 ((d.n:Int)=w):=by unfold b2;simp[hb]
   rw[e] at this;rw[oH];simp;omega)
  exact h6.block S.ht S.hw S.hn S.hs S.he ⟨by decide,by decide⟩ (by decide)
 ·rename_i hb
  have hb:(d.bc.put d.n d.a).1=true:=by simpa using hb
  have h6:=S.h.dP h1 h4 (p':=if (d.bc.put d.n d.a).2.2.1=true then [(d.bc.put d.n d.a).2.1] else []) (q':=[]) (fun w=>by
   have:=h5 w
   rw[eS (q:=(d.bc.put d.n d.a).1=false∧_) (fun h=>by rw[hb] at h;exact absurd h.1 (by simp))] at this
   rw[xV];simp;omega)
  have h7:=h6.pass S.ht S.hw S.hn (x:=d.i.n) (y:=d.a) (e:=0) (by decide)
  split
  ·rename_i hg
   rw[if_pos hg] at h7
   exact(h7.dZ (by simp) S.a (fun _=>⟨S.hs,S.he⟩)).oE (fun w=>by simp)
  ·rename_i hg
   rw[if_neg hg] at h7
   exact h7
theorem St.get(S:St k s0 d t)(ht:d.i.n<(d.s.bA.length:Int)):dO k s0 d.get [] []:=by
 have ho:=S.o
 obtain⟨h1,h2,h3⟩:=S.bc ht
 obtain⟨h4,hW,h5⟩:=KM h2 h3
 unfold Dng.get
 simp only
 split
 ·rename_i hb
  have hg:(d.bc.get d.n).2.2.2.1=false:=by
   cases hg:d.bc.words with
   | nil=>rw[get_none h3 hg]
   | cons x r =>
    cases hp:d.bc.bP with
    | nil=>rw[my h3 hg hp]
    | cons y q=>rw[mz h3 hg hp] at hb;cases hb
  have h6:=S.h.dP h1 h4 (p':=[]) (q':=[(d.n:Int)]) (fun w=>by
   have:=h5 w
   rw[eS (fun h=>by rw[hg] at h;exact absurd h.1 (by simp))] at this
   have e:b2 ((d.bc.get d.n).2.1=false∧(d.n:Int)=w)=b2 ((d.n:Int)=w):=by unfold b2;simp[hb]
   rw[e] at this;rw[oH];simp;omega)
  exact h6.block S.ht S.hw S.hn S.hs S.he ⟨by decide,by decide⟩ (by have:=S.I.a;omega)
 ·rename_i hb
  have hb:(d.bc.get d.n).2.1=true:=by simpa using hb
  have h6:=S.h.dP h1 h4 (p':=if (d.bc.get d.n).2.2.2.1=true then [(d.bc.get d.n).2.2.1] else []) (q':=[]) (fun w=>by
   have:=h5 w
   rw[eS (q:=(d.bc.get d.n).2.1=false∧_) (fun h=>by rw[hb] at h;exact absurd h.1 (by simp))] at this
   rw[xV];simp;omega)
  rw[show(d.dP d.i.n.toNat (d.bc.get d.n).2.2.2.2).t=t from ck S.ht]
  have h8:=h6.own S.ht (t':=t.put d.i.a (d.bc.get d.n).1) (ho.R.put hW) ho.pc rfl rfl rfl rfl rfl
  have h7:=h8.pass (t:=t.put d.i.a (d.bc.get d.n).1) (bW S.ht) S.hw S.hn (x:=d.i.n) (y:=(d.bc.get d.n).1) (e:=0) (by decide)
  split
  ·rename_i hg
   rw[if_pos hg] at h7
   exact(h7.dZ (by simp) ⟨by decide,by decide⟩ (fun _=>⟨S.hs,S.he⟩)).oE (fun w=>by simp)
  ·rename_i hg
   rw[if_neg hg] at h7
   exact h7
theorem St.ask(S:St k s0 d t){b y i:Int}(hy:fq y)(hi : -1≤i∧i<8):dO k s0 (d.ask b y i) [] []:=by
 unfold Dng.ask
 simp only
 split
 ·have hz:cD d.s.aO d.n=0:=by have:=S.zero;unfold gN at this;omega
  obtain⟨h1,h2⟩:=KN S.h.ok.dk (r:=⟨d.n,b,decide (d.i.op=34),y⟩) hy hz
  split
  ·rename_i he
   have h6:=S.h.dC h1 (p':=[]) (q':=[]) (fun w=>by rw[h2 w,eS (fun h=>he h.1)];rfl)
   exact h6.pass S.ht S.hw S.hn Et
  ·rename_i he
   have he:=Decidable.not_not.mp he
   have h6:=S.h.dC h1 (p':=[]) (q':=[(d.n:Int)]) (fun w=>by
    rw[h2 w,oH]
    have e:b2 ((d.s.aO.ask ⟨d.n,b,decide (d.i.op=34),y⟩).1=0∧(d.n:Int)=w)=b2 ((d.n:Int)=w):=by unfold b2;simp[he]
    simp only[e];simp)
   exact h6.block S.ht S.hw S.hn S.hs S.he ⟨by decide,by decide⟩ hi
 ·exact S.pass (by decide)
theorem St.sleep(S:St k s0 d t):dO k s0 d.sleep [] []:=by
 have ha:=S.a
 unfold Dng.sleep
 simp only
 split
 ·exact S.pass (by decide)
 ·split
  ·exact S.pass (by decide)
  ·rename_i h0 h1
   have hz:cL d.s.aA d.n=0:=by have:=S.zero;unfold gN at this;omega
   obtain⟨h2,h3⟩:=GU S.h.ok.wl (n:=d.n) (x:=d.a) ⟨by have:=ha.1;omega,by omega⟩ hz
   have h6:=S.h.rW h2 (p':=[]) (q':=[(d.n:Int)]) (fun w=>by rw[h3 w,oH];simp)
   exact h6.block S.ht S.hw S.hn S.hs S.he ⟨by decide,by decide⟩ (by decide)
theorem St.kernel(S:St k s0 d t)(ht:d.i.op=35∨d.i.op=36→d.i.n<(d.s.bA.length:Int)):dO k s0 d.kernel [] []:=by
 have hi:=S.I.a
 unfold Dng.kernel
 split
 ·exact S.ask ⟨by decide,by decide⟩ (by omega)
 split
 ·exact S.ask S.b (by decide)
 split
 ·exact S.put (ht (.inl ‹_›))
 split
 ·exact S.get (ht (.inr ‹_›))
 split
 ·exact S.sleep
 ·exact S.pass (by decide)
theorem dO.more(h:dO k s0 d p q){k':Nat}(hk:k≤k'):dO k' s0 d p q:=⟨h.ok.more hk,h.rd,h.wk,h.rc,h.px⟩
theorem St.call(S:St k s0 d t)(hk:k≤1000000)(ht:d.i.op=35∨d.i.op=36→d.i.n<(d.s.bA.length:Int)):dO (k+1) s0 d.call [] []:=by
 have ho:=S.o
 have up:∀ {e:Dng},dO k s0 e [] []→dO (k+1) s0 e [] []:=fun h=>h.more (Nat.le_succ _)
 unfold Dng.call
 simp only
 split
 ·exact S.spawn hk
 split
 ·rw[ck S.ht]
  have h1:=S.h.own S.ht (t':=t.put d.i.a t.handle) (ho.R.put ho.R.h) ho.pc rfl rfl rfl rfl rfl
  exact up (h1.pass (t:=t.put d.i.a t.handle) (bW S.ht) S.hw S.hn (by decide))
 split
 ·have h1:=S.pass (x:=0) (y:=0) (e:=0) (by decide)
  exact up ⟨h1.ok,h1.rd,h1.wk,h1.rc,h1.px⟩
 split
 ·exact up S.join
 split
 ·exact up S.cO
 split
 ·exact up (dO.fin (d:=d.tell d.a 0 0 true) (S.h.tell S.ht S.hw S.hn) S.ht S.hw S.hs S.he S.a)
 split
 ·exact up S.mutex
 split
 ·exact up S.signal
 split
 ·exact up S.cf
 ·exact up (S.kernel ht)
end
end Go.SLYtefdijgllbkmfaaGreat
namespace Go.SLYtefdijgllbkmfaaGreat
open Go Go.RowKit
theorem Mk:∀ (n:Nat) (l:List Int),(∀ x∈l,0≤x∧x<(n:Int))→(∀ w,l.count w≤1)→l.length≤n
 | 0,l,h,_=>by
  cases l with
  | nil=>exact Nat.le_refl _
  | cons a l=>have:=h a List.mem_cons_self;omega
 | n+1,l,h,hc=>by
  have h1:=Mk n (l.filter fun x => !decide (x=(n:Int))) (fun x hx=>by
   obtain⟨a,b⟩:=List.mem_filter.1 hx
   have:=h x a
   have:¬x=(n:Int):=by simpa using b
   omega) (fun w=>Nat.le_trans (List.Sublist.count_le w List.filter_sublist) (hc w))
  have h2:=List.length_eq_countP_add_countP (fun x=>decide (x=(n:Int))) (l:=l)
  have h3:l.countP (fun x=>decide (x=(n:Int)))=l.count (n:Int):=by unfold List.count;congr 1
  rw[← List.countP_eq_length_filter] at h1
  have h4:=hc (n:Int)
  have h5:l.countP (fun x => !decide (x=(n:Int)))=l.countP (fun a=>decide ¬(decide (a=(n:Int)))=true):=by congr 1;funext x;simp
  omega
section
variable{k:Nat}{s:Spc}
theorem oJ{α:Type}{f:α→Int}{l:List α}(hl:s.thr.length=16)(h:∀ w,l.countP (fun x=>decide (f x=w))≤ed s w):l.length≤16:=by
 have e:∀ w,(l.map f).count w=l.countP (fun x=>decide (f x=w)):=fun w=>by
  unfold List.count;rw[List.countP_map];congr 1
 have:=Mk 16 (l.map f) (fun x hx=>by
  obtain⟨y,hy,rfl⟩:=List.mem_map.1 hx
  have h1:0<l.countP (fun x=>decide (f x=f y)):=List.countP_pos_iff.2 ⟨y,hy,by simp⟩
  obtain⟨t,ht, -, -⟩:=gO (Nat.lt_of_lt_of_le h1 (h (f y)))
  obtain⟨h0,hat⟩:=fa ht
  have:=(List.getElem?_eq_some_iff.1 hat).1
  exact⟨h0,by omega⟩) (fun w=>by rw[e];exact Nat.le_trans (h w) pT)
 rw[List.length_map] at this;exact this
theorem kp{w:Int}(h:0<ed s w):0≤w∧ ∃ u,s.thr[w.toNat]?=some (some u):=by
 obtain⟨t,ht, -, -⟩:=gO h
 exact⟨(fa ht).1,t,(fa ht).2⟩
theorem Jp{p:eZ}(hc:((((((((((0<p.funcs.length∧p.funcs.length≤8)∧0≤p.words∧p.words≤64)∧0≤p.aB∧p.aB≤4)∧0≤p.conds∧p.conds≤4)∧0≤p.blocks∧p.blocks≤64)∧0≤p.prio∧p.prio≤7)∧p.aU.length≤4)∧p.aG.length≤4)∧(p.funcs.all fun f=>decide (f.length≤256))=true)∧(p.aU.all fun n=>decide (0≤n) && decide (n≤1048576))=true)∧(p.aG.all fun n=>decide (0<n) && (decide (0≤n) && decide (n≤8)))=true){op:Int}(h:¬op=1):(aR p op).any=false∧(aR p op).n≤1000:=by
 unfold aR
 rw[if_neg h]
 repeat' split
 all_goals exact⟨rfl,by simp only;omega⟩
theorem ET{p:eZ}(hc:eg p=true){i:Ins}(h:ez p i=true)(hn:fq i.n):jb i∧(cls i.op≠1→i.n≤1099511627776)∧(i.op=35∨i.op=36→i.n<(p.aG.length:Int)):=by
 unfold eg at hc
 simp only[Bool.and_eq_true,decide_eq_true_eq,within] at hc
 unfold ez at h
 split at h
 ·cases h
 ·rename_i hcl
  simp only[Bool.and_eq_true] at h
  obtain⟨⟨⟨h1,h2⟩,h3⟩,h4⟩:=h
  have hr:∀ {n:Int} {b:Bool},lM n b=true→0≤n∧n<8:=fun h=>by
   simp[lM] at h;omega
  refine⟨⟨hr h1,hr h2,?_,hn,fun hj=>?_⟩,fun hc1=>?_,fun ho=>?_⟩
  ·split at h3
   ·simp at h3;omega
   ·exact hr h3
  ·unfold Form.below at h4
   rcases hj with hj | hj
   ·rw[show aR p i.op=⟨0,false,257,false⟩ from by unfold aR;repeat (first | rw[if_pos (by omega)] | rw[if_neg (by omega)])] at h4
    simp at h4;omega
   ·rw[show aR p i.op=⟨1,false,257,false⟩ from by unfold aR;repeat (first | rw[if_pos (by omega)] | rw[if_neg (by omega)])] at h4
    simp at h4;omega
  ·have hn1:¬i.op=1:=fun e=>hc1 (by unfold cls;rw[if_pos (by omega)])
   obtain⟨g1,g2⟩:=Jp hc hn1
   unfold Form.below at h4
   rw[g1] at h4
   simp at h4
   split at h4
   ·omega
   ·have:=(by simpa using h4:_∧_).2
    omega
  ·unfold Form.below at h4
   rw[show aR p i.op=⟨1,false,p.aG.length,false⟩ from by unfold aR;repeat (first | rw[if_pos (by omega)] | rw[if_neg (by omega)])] at h4
   simp at h4
   exact h4.2
theorem Ok.qP(h:Ok k s [] [])(hk:k≤1000000)(hr:s.au.length≤800000000):fE s:=by
 have hcap:eg s.dK=true:=by
  have:=h.yW.1;unfold dD at this
  split at this
  ·assumption
  ·cases this
 have hall:∀ f∈s.dK.funcs, ∀ i∈f,ez s.dK i=true:=by
  have:=h.yW.1;unfold dD at this
  rw[if_pos hcap] at this
  split at this
  ·rename_i ha
   intro f hf i hi
   have:=List.all_eq_true.1 (List.all_eq_true.1 ha f hf) i hi
   exact this
  ·cases this
 have hc:=hcap
 unfold eg at hc
 simp only[Bool.and_eq_true,decide_eq_true_eq,within,List.all_eq_true] at hc
 obtain⟨⟨⟨⟨⟨⟨⟨⟨⟨⟨⟨c1,c2⟩,c3⟩,c4⟩,c5⟩,c6⟩,c7⟩,c8⟩,c9⟩,c10⟩,c11⟩,c12⟩:=hc
 have hbal:∀ w,gN s w=ed s w:=fun w=>by have:=h.oE w;simpa using this
 have bG:∀ w,cG s.ag w≤ed s w:=fun w=>by have:=hbal w;unfold gN at this;omega
 have bU:∀ w,cT s.bA w≤ed s w:=fun w=>by have:=hbal w;unfold gN at this;omega
 have bD:∀ w,cD s.aO w≤ed s w:=fun w=>by have:=hbal w;unfold gN at this;omega
 have bL:∀ w,cL s.aA w≤ed s w:=fun w=>by have:=hbal w;unfold gN at this;omega
 have hm:∀ x∈s.ag.aF,x.wait.length≤16:=fun x hx=>oJ (f:=fun y:dh=>y.who) h.lt fun w=>by
  have:=dj (f:=fun m:dB=>dp w m.wait) hx
  have:=bG w
  have e:x.wait.countP (fun y=>decide (y.who=w))=dp w x.wait:=rfl
  unfold cG at this;omega
 have hcn:∀ x∈s.ag.bn,x.length≤16:=fun x hx=>oJ (f:=fun y:dh=>y.who) h.lt fun w=>by
  have:=dj (f:=dp w) hx
  have:=bG w
  have e:x.countP (fun y=>decide (y.who=w))=dp w x:=rfl
  unfold cG at this;omega
 have hsm:∀ x∈s.ag.cf,x.wait.length≤16:=fun x hx=>oJ (f:=fun y:dh=>y.who) h.lt fun w=>by
  have:=dj (f:=fun m:jr=>dp w m.wait) hx
  have:=bG w
  have e:x.wait.countP (fun y=>decide (y.who=w))=dp w x.wait:=rfl
  unfold cG at this;omega
 have hug:∀ u∈s.bA, ∀ w,u.bC.count w≤ed s w∧u.bP.countP (fun x=>decide (x.who=w))≤ed s w:=fun u hu w=>by
  have h1:cU w u≤cT s.bA w:=dj (f:=cU w) hu
  have h2:=bU w
  unfold cU at h1;exact⟨by omega,by omega⟩
 have hd16:s.aO.wait.length≤16:=oJ (f:=fun r:pE=>r.who) h.lt bD
 have hw16:s.aA.dY.length≤16:=oJ (f:=fun r:Int×Int=>r.1) h.lt bL
 refine⟨h.lt,⟨by rw[h.ll];decide,fun o ho=>?_⟩,fun n t e=>⟨(h.th n t e).R,(h.th n t e).pc⟩,fun x m e=>pW (d:=⟨s,0,⟨0,0,0,0,0⟩,0,iZ.z,[]⟩) h x m e,fun n e=>?_,fun n t ht hw hj=>?_,hr,by rw[h.me.1];omega,⟨by rw[h.gt.m];omega,by rw[h.gt.c];omega,by rw[h.gt.s];omega,fun x hx=>Nat.le_trans (hm x hx) (by decide),fun x hx=>Nat.le_trans (hcn x hx) (by decide),fun x hx=>Nat.le_trans (hsm x hx) (by decide)⟩,h.gt.sc,h.gt.cm,fun w hw=>kp ?_,by rw[h.gt.m];omega,⟨fun x hx=>Nat.le_trans (hm x hx) (by decide),fun x hx=>Nat.le_trans (hcn x hx) (by decide)⟩,fun f hf i hi=>?_,⟨by omega,fun f hf=>c10 f hf⟩,fun u hu=>?_,fun u hu=>⟨fun w hw=>kp ?_,fun x hx=>kp ?_⟩,fun u hu=>(h.tb.2 u hu).w,by omega,fun r hr=>?_,fun r hr=>kp ?_,h.wl,by omega,fun x hx=>kp ?_⟩
 ·have:=h.tk o ho;omega
 ·obtain⟨o,ho,hb⟩:∃ o,s.table[n]?=some o∧o.1=false:=by
   have hfr:∀ (l:List (Bool×Int)) (i n:Nat),slotFree? l i=some n→i≤n∧ ∃ o,l[n-i]?=some o∧o.1=false:=by
    intro l
    induction l with
    | nil=>intro i n h;cases h
    | cons o l ih =>
     intro i n h
     unfold slotFree? at h
     split at h
     ·obtain⟨a,o',b,c⟩:=ih (i+1) n h
      exact⟨by omega,o',by rw[show n-i=(n-(i+1))+1 from by omega];simpa using b,c⟩
     ·cases h;rename_i hb
      exact⟨Nat.le_refl _,o,by simp,by simpa using hb⟩
   obtain⟨-,o,ho,hb⟩:=hfr _ _ _ e
   exact⟨o,by simpa using ho,hb⟩
  have hn:n<16:=h.ll ▸ (List.getElem?_eq_some_iff.1 ho).1
  obtain⟨x,hx⟩:=ay (show n<s.thr.length by rw[h.lt];exact hn)
  cases x with
  | none=>exact hx
  | some t =>
   have:=(h.us n hn).2 ⟨t,hx⟩
   rw[List.getD_eq_getElem?_getD,ho,show(Option.getD (some o) (false,(0:Int)))=o from rfl,hb] at this
   cases this
 ·have h1:1≤cJ s.thr t.av:=by
   have:jn t.av (some t)=1:=by rw[gu];exact if_pos ⟨rfl,hj⟩
   have h2:jn t.av (some t)≤cJ s.thr t.av:=dj (f:=jn t.av) (List.mem_of_getElem? ht)
   omega
  have h2:=hbal t.av
  obtain⟨u,hu,hu0,hu9⟩:=gO (s:=s) (w:=t.av) (by unfold gN at h2;omega)
  obtain⟨h0,hat⟩:=fa hu
  exact⟨h0,fun e=>by rw[e,ht] at hat;cases hat;exact hu0 hw,u,hat⟩
 ·refine Nat.lt_of_lt_of_le ?_ (bG w)
  unfold cG
  rcases hw with ⟨x,hx,y,hy,rfl⟩ | ⟨x,hx,y,hy,rfl⟩ | ⟨x,hx,y,hy,rfl⟩
  ·have h1:=dj (f:=fun m:dB=>dp y.who m.wait) hx
   have h2:0<dp y.who x.wait:=List.countP_pos_iff.2 ⟨y,hy,by simp[EI]⟩
   omega
  ·have h1:=dj (f:=dp y.who) hx
   have h2:0<dp y.who x:=List.countP_pos_iff.2 ⟨y,hy,by simp[EI]⟩
   omega
  ·have h1:=dj (f:=fun m:jr=>dp y.who m.wait) hx
   have h2:0<dp y.who x.wait:=List.countP_pos_iff.2 ⟨y,hy,by simp[EI]⟩
   omega
 ·have:=ET hcap (hall f hf i hi) (h.yW.2 f hf i hi)
  rw[h.tb.1];exact this
 ·have h1:=h.tb.2 u hu
  exact⟨Nat.le_trans h1.l (by decide),Nat.le_trans (oJ (f:=fun x:Ptr=>x.who) h.lt fun w=>(hug u hu w).2) (by decide),Nat.le_trans (oJ (f:=fun x:Int=>x) h.lt fun w=>by
   have:=(hug u hu w).1
   have e:u.bC.countP (fun x=>decide (x=w))=u.bC.count w:=by unfold List.count;congr 1
   omega) (by decide)⟩
 ·exact Nat.lt_of_lt_of_le (List.count_pos_iff.2 hw) (hug u hu w).1
 ·exact Nat.lt_of_lt_of_le (List.countP_pos_iff.2 ⟨x,hx,by simp⟩) (hug u hu x.who).2
 ·have:=h.dk.w r hr;exact⟨this.1,this.2.1⟩
 ·exact Nat.lt_of_lt_of_le (List.countP_pos_iff.2 ⟨r,hr,by simp⟩) (bD r.who)
 ·exact Nat.lt_of_lt_of_le (List.countP_pos_iff.2 ⟨x,hx,by simp⟩) (bL x.1)
end
end Go.SLYtefdijgllbkmfaaGreat
