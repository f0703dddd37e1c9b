/- Walks of functions, and what they compute. Conditions: none, this text proves no statement. -/
import Derived.Test.YtefdijgllbkmfaaGreatI03
import Derived.Laws.FloatBits
namespace Go.SLYtefdijgllbkmfaaGreat
open Go Go.RowKit
def eL(d e:Dng)(a n:Nat):Prop:=e.s.au.length≤d.s.au.length+a∧e.ends.length≤d.ends.length+n
theorem eL.refl{d:Dng}:eL d d 0 0:=⟨Nat.le_refl _,Nat.le_refl _⟩
theorem eL.up{d e:Dng}{a n a' n':Nat}(h:eL d e a n)(ha:a≤a')(hn:n≤n'):eL d e a' n':=⟨Nat.le_trans h.1 (by omega),Nat.le_trans h.2 (by omega)⟩
theorem eL.trans{d e f:Dng}{a n a' n':Nat}(h:eL d e a n)(k:eL e f a' n'):eL d f (a+a') (n+n'):=⟨by have:=h.1;have:=k.1;omega,by have:=h.2;have:=k.2;omega⟩
theorem eL.same{d e:Dng}(h1:e.s.au=d.s.au)(h2:e.ends=d.ends):eL d e 0 0:=⟨by rw[h1];exact Nat.le_refl _,by rw[h2];exact Nat.le_refl _⟩
theorem gv{d:Dng}{x y e:Int}{f:Bool}:eL d (d.tell x y e f) 1 0:=⟨by simp[Dng.tell,Spc.tell],Nat.le_refl _⟩
theorem cr{d:Dng}{x y e:Int}:eL d (d.pass x y e) 1 0:=⟨by simp[Dng.pass,Dng.aj,Spc.aj,Dng.tell,Spc.tell],Nat.le_refl _⟩
theorem fA{d:Dng}{w i x y:Int}:eL d (d.block w i x y) 1 0:=⟨by simp[Dng.block,Dng.aj,Spc.aj,Dng.tell,Spc.tell],Nat.le_refl _⟩
theorem mz{d:Dng}{n:Nat}{y:Int}:eL d (d.dW n y) 0 1:=⟨by simp[Dng.dW,Spc.di,Spc.aj],by simp[Dng.dW]⟩
theorem kc{d:Dng}{v:Int}:eL d (d.fin v) 0 1:=by
 unfold Dng.fin
 split
 ·exact(eL.same rfl rfl).up (Nat.le_refl _) (by decide)
 ·split
  ·exact(eL.same rfl rfl).up (Nat.le_refl _) (by decide)
  ·exact(eL.same (d:=d) (e:=d.ended) rfl rfl).trans (mz.trans (eL.same rfl rfl))
theorem nj{d:Dng}:eL d d.plain 1 1:=by
 unfold Dng.plain
 split
 ·have:∀ e:Dng,eL d e 1 0→ ∀ s:Spc,s.au=e.s.au→eL d {e with s:=s } 1 1:=fun e h s hs=>⟨by show s.au.length≤_;rw[hs];exact h.1,Nat.le_trans h.2 (by omega)⟩
  simp only
  refine this _ ?_ _ rfl
  split
  ·exact gv
  ·split
   ·exact gv
   ·exact eL.refl.up (by decide) (by decide)
 ·split
  ·exact gv.trans kc
  ·exact gv.trans kc
theorem nk{d:Dng}{n:Int}{ok:Bool}:eL d (d.given n ok) 0 1:=by
 unfold Dng.given
 split
 ·exact mz
 ·exact eL.refl.up (by decide) (by decide)
theorem cX{d e f:Dng}{a n:Nat}(h:eL e f a n)(h1:e.s.au=d.s.au)(h2:e.ends=d.ends):eL d f a n:=⟨by rw[← h1];exact h.1,by rw[← h2];exact h.2⟩
theorem jd{s:Spc}{f a:Int}:(s.begin f a).2.2.au=s.au:=by
 unfold Spc.begin
 split <;> rfl
theorem zn{d:Dng}:eL d d.spawn 1 1:=by
 unfold Dng.spawn
 refine eL.up (a:=1) (n:=0) ?_ (Nat.le_refl _) (by decide)
 exact cX cr (jd (s:=d.s) (f:=d.i.n) (a:=d.b)) rfl
theorem BX{d:Dng}:eL d d.join 1 1:=by
 unfold Dng.join
 simp only
 repeat' split
 ·exact cr.up (Nat.le_refl _) (by decide)
 ·exact(cX cr rfl rfl).up (Nat.le_refl _) (by decide)
 ·exact(cX fA rfl rfl).up (Nat.le_refl _) (by decide)
theorem xB{d:Dng}:eL d d.cO 1 1:=by
 unfold Dng.cO
 simp only
 repeat' split
 ·exact cr.up (Nat.le_refl _) (by decide)
 ·exact(cX cr rfl rfl).up (Nat.le_refl _) (by decide)
 ·exact(cX cr rfl rfl).up (Nat.le_refl _) (by decide)
theorem zo{d:Dng}:eL d d.mutex 1 1:=by
 unfold Dng.mutex
 simp only
 repeat' split
 ·exact(cX fA rfl rfl).up (Nat.le_refl _) (by decide)
 ·exact(cX cr rfl rfl).up (Nat.le_refl _) (by decide)
 ·exact cX (cr.trans nk) rfl rfl
 ·exact(cX cr rfl rfl).up (Nat.le_refl _) (by decide)
 ·exact cX (fA.trans nk) rfl rfl
theorem D8{d:Dng}:eL d d.bX 1 1:=by
 unfold Dng.bX
 simp only
 repeat' split
 ·exact cX (cr.trans nk) rfl rfl
 ·exact(cX fA rfl rfl).up (Nat.le_refl _) (by decide)
 ·exact(cX cr rfl rfl).up (Nat.le_refl _) (by decide)
theorem xC{d:Dng}{b y i:Int}:eL d (d.ask b y i) 1 1:=by
 unfold Dng.ask
 simp only
 repeat' split
 ·exact(cX cr rfl rfl).up (Nat.le_refl _) (by decide)
 ·exact(cX fA rfl rfl).up (Nat.le_refl _) (by decide)
 ·exact cr.up (Nat.le_refl _) (by decide)
theorem D9{d:Dng}:eL d d.put 1 1:=by
 unfold Dng.put
 simp only
 repeat' split
 ·exact(cX fA rfl rfl).up (Nat.le_refl _) (by decide)
 ·exact cX (cr.trans mz) rfl rfl
 ·exact(cX cr rfl rfl).up (Nat.le_refl _) (by decide)
theorem Ea{d:Dng}:eL d d.get 1 1:=by
 unfold Dng.get
 simp only
 repeat' split
 ·exact(cX fA rfl rfl).up (Nat.le_refl _) (by decide)
 ·exact cX (cr.trans mz) rfl rfl
 ·exact(cX cr rfl rfl).up (Nat.le_refl _) (by decide)
theorem zp{d:Dng}:eL d d.sleep 1 1:=by
 unfold Dng.sleep
 simp only
 repeat' split
 ·exact cr.up (Nat.le_refl _) (by decide)
 ·exact cr.up (Nat.le_refl _) (by decide)
 ·exact(cX fA rfl rfl).up (Nat.le_refl _) (by decide)
theorem xD{d:Dng}:eL d d.kernel 1 1:=by
 unfold Dng.kernel
 repeat' split
 ·exact xC
 ·exact xC
 ·exact D9
 ·exact Ea
 ·exact zp
 ·exact cr.up (Nat.le_refl _) (by decide)
theorem xE(s:Spc)(a:List Int):(bV s a).au=s.au:=by
 induction a generalizing s with
 | nil=>rfl
 | cons x l ih=>exact(ih _).trans rfl
theorem vT(d:Dng)(a:List Int):(d.dy a).s.au=d.s.au:=by
 induction a generalizing d with
 | nil=>rfl
 | cons x l ih=>exact(ih _).trans rfl
theorem zq{d:Dng}{l:List Int}:eL d (d.jY l) 0 l.length:=by
 unfold Dng.jY
 refine⟨?_,?_⟩
 ·rw[vT];show(bV d.s d.waits).au.length≤_;rw[xE];exact Nat.le_refl _
 ·rw[(qz _ _).1];exact Nat.le_refl _
theorem pN{d:Dng}(h:∀ r∈d.s.ag.bm,r.length≤400000):eL d d.call 1 400001:=by
 unfold Dng.call
 simp only
 repeat' split
 ·exact zn.up (Nat.le_refl _) (by decide)
 ·exact(cX cr rfl rfl).up (Nat.le_refl _) (by decide)
 ·exact(cr (d:=d)).up (Nat.le_refl _) (by decide)
 ·exact BX.up (Nat.le_refl _) (by decide)
 ·exact xB.up (Nat.le_refl _) (by decide)
 ·exact(gv.trans kc).up (Nat.le_refl _) (by decide)
 ·exact zo.up (Nat.le_refl _) (by decide)
 ·exact(cX (cr.trans zq) rfl rfl).up (Nat.le_refl _) (by have:=ni (c:=d.i.n) (ch:=d.choice) (all:=decide (d.i.op=29)) h;omega)
 ·exact D8.up (Nat.le_refl _) (by decide)
 ·exact xD.up (Nat.le_refl _) (by decide)
end Go.SLYtefdijgllbkmfaaGreat
namespace Go.SLYtefdijgllbkmfaaGreat
open Go Go.RowKit
section
variable{P:Program}
theorem du {d : Nat} {xs ys : Array Value} {f : Field} {fs : List Field} {a b : Value} {r : Bool} {w : World} (hn : (f.name != "_") = true) (pa : Part P f.type xs f.offset a) (pb : Part P f.type ys f.offset b) (h : (Op.equalIn d f.type a b).run P w = .ok r w) :
  (Op.eqFields d xs ys (f::fs)).run P w=if r=true then (Op.eqFields d xs ys fs).run P w else .ok false w:=by
 simp only[Op.eqFields,Sem.run_bind,Sem.run_ite,pa w,pb w,Result.andThen_ok,h]
 cases r
 ·simp;intro e;simp[e] at hn
 ·simp
end
theorem Eb{d:jB}{k:Int}(h:(d.done k).2.2.1=true):(d.done k).1∈d.wait∧(d.done k).2.2.2.wait.length≤d.wait.length:=by
 unfold jB.done at h ⊢
 split at h
 ·cases h
 ·rename_i h0
  rw[if_neg h0]
  simp only
  have hm:d.wait.getD (pick k d.wait.length) ⟨0,0,false,0⟩∈d.wait:=by
   have:=eX (t:=k) (n:=d.wait.length) (by omega)
   rw[List.getD_eq_getElem?_getD,List.getElem?_eq_getElem this];exact List.getElem_mem _
  split
  ·exact⟨hm,by simp only;rw[List.length_eraseIdx];split <;> omega⟩
  ·exact⟨hm,by simp only;rw[List.length_eraseIdx];split <;> omega⟩
theorem IH{b:Nat}{x:Int}:∀ h,seps [arr b 0 [.int .i64 x]] h→sl aP 1 (.slice (some ⟨b,0,none⟩) 1 1) [x] h:=fun h a=>by
 have a:arr b 0 [.int .i64 x] h:=by simpa only[seps,aO] using a
 exact .inr ⟨b,1,[],rfl,Nat.le_refl _,fun _ _=>rfl,rfl,a⟩
theorem BZ{d:jB}{k:Int}(h:(d.done k).2.2.1=false):(d.done k).2.2.2=d:=by
 by_cases h0:d.wait.length=0
 ·rw[mu h0]
 ·cases hw:(d.wait.getD (pick k d.wait.length) rX).write with
  | true=>rw[kQ h0 rfl hw] at h;cases h
  | false=>rw[mv h0 rfl hw] at h;cases h
theorem lU{s:Spc}{k:Int}(h:(s.aN.done k).2.2.1=false):s.done k=(iY.z,3,s):=by unfold Spc.done;simp only;rw[if_pos h]
theorem lV{s:Spc}{k:Int}{t:bF}(h:(s.aN.done k).2.2.1=true)(ht:s.thr[(s.aN.done k).1.who.toNat]?=some (some t)) :
  s.done k=(⟨[(s.aN.done k).1.who],false,false,false⟩,0,(({s with aN:=(s.aN.done k).2.2.2 }:Spc).di (s.aN.done k).1.who.toNat (s.aN.done k).2.1).tell (t.dH (s.aN.done k).2.1)):=by
 unfold Spc.done;simp only;rw[if_neg (by rw[h];simp),show({s with aN:=(s.aN.done k).2.2.2 }:Spc).t (s.aN.done k).1.who.toNat=t from cV ht]
theorem vU(s:Spc)(a:List Int)(n:Int):df s (a++[n])=((df s a).di n.toNat 0).tell (((df s a).t n.toNat).dH 0):=by
 induction a generalizing s with
 | nil=>rfl
 | cons x l ih=>exact ih _
theorem vV{ps:List (Option Nat)}(m:Nat)(a:List Int):∀ (s:Spc),bW ps s m→(∀ w∈a,bW ps s w.toNat)→bW ps (df s a) m:=by
 induction a with
 | nil=>intro d h _;exact h
 | cons x l ih =>
  intro s h ha
  obtain⟨hn16,q,u,hq,hu,hR⟩:=ha x List.mem_cons_self
  have key:∀ {k:Nat},bW ps s k→bW ps ((s.di x.toNat 0).tell ((s.t x.toNat).dH 0)) k:=fun hk=>by
   have:=hk.aj (n:=x.toNat) (hR.cS (y:=0) (by decide))
   refine bW.of (s:=s.aj x.toNat (u.cS 0)) this ?_
   unfold Spc.tell Spc.di;rw[cV hu]
  exact ih _ (key h) (fun w hw=>key (ha w (List.mem_cons_of_mem _ hw)))
theorem oz(s:Spc)(a:List Int):(df s a).au.length=s.au.length+a.length:=by
 induction a generalizing s with
 | nil=>rfl
 | cons x l ih =>
  show(df _ l).au.length=_
  rw[ih];simp[Spc.tell,Spc.di,Spc.aj];omega
theorem AK{w:jW}{x:Int}(h:x∈w.due):∃ y∈w.dV,y.1=x:=by
 unfold jW.due at h
 have hs:∀ (l:List Int),x∈gq l→x∈l:=by
  intro l
  induction l with
  | nil=>exact fun h=>h
  | cons a l ih =>
   intro h
   have hi:∀ (m:List Int),x∈dB a m→x=a∨x∈m:=by
    intro m
    induction m with
    | nil=>intro h;rcases List.mem_singleton.1 h with rfl;exact .inl rfl
    | cons b m ihm =>
     intro h
     unfold dB at h
     split at h
     ·rcases List.mem_cons.1 h with h | h
      ·exact .inl h
      ·exact .inr h
     ·rcases List.mem_cons.1 h with h | h
      ·exact .inr (h ▸ List.mem_cons_self)
      ·rcases ihm h with h | h
       ·exact .inl h
       ·exact .inr (List.mem_cons_of_mem _ h)
   rcases hi _ h with h | h
   ·rw[h];exact List.mem_cons_self
   ·exact List.mem_cons_of_mem _ (ih h)
 obtain⟨y,hy,e⟩:=List.mem_map.1 (hs _ h)
 exact⟨y,(List.mem_filter.1 hy).1,e⟩
theorem B0(l:List Int):(gq l).length=l.length:=by
 induction l with
 | nil=>rfl
 | cons a l ih =>
  have hi:∀ (m:List Int),(dB a m).length=m.length+1:=by
   intro m
   induction m with
   | nil=>rfl
   | cons b m ihm=>unfold dB;split <;> simp[ihm]
  show(dB a (gq l)).length=_
  rw[hi,ih,List.length_cons]
theorem xF(w:jW):w.due.length≤w.dV.length:=by
 unfold jW.due;rw[B0,List.length_map];exact List.length_filter_le ..
end Go.SLYtefdijgllbkmfaaGreat
namespace Go.SLYtefdijgllbkmfaaGreat
open Go Go.RowKit
def kV{α:Type}(f:α→Nat)(l:List α):Nat:=(l.map f).sum
theorem gb{α:Type}{f:α→Nat}:∀ {l:List α} {i:Nat} {x:α} (y:α),l[i]?=some x→kV f (l.set i y)+f x=kV f l+f y
 | a::l,0,x,y,h=>by
  obtain rfl:a=x:=by simpa using h
  simp[kV];omega
 | a::l,i+1,x,y,h=>by
  have:=gb (f:=f) (l:=l) (i:=i) y (by simpa using h)
  simp[kV] at this ⊢;omega
theorem dh{α:Type}{f:α→Nat}:∀ {l:List α} {x:α},x∈l→f x≤kV f l
 | a::l,x,h=>by
  rcases List.mem_cons.1 h with rfl | h
  ·simp[kV]
  ·have:=dh (f:=f) h
   simp[kV] at this ⊢;omega
theorem pO{α:Type}{f:α→Nat}{l:List α}(h:∀ x∈l,f x=0):kV f l=0:=by
 induction l with
 | nil=>rfl
 | cons a l ih =>
  have:=ih (fun x hx=>h x (List.mem_cons_of_mem _ hx))
  have:=h a List.mem_cons_self
  simp[kV] at *;omega
theorem kW{α:Type}{P:α→Bool}:∀ {l:List α} {i:Nat} {x:α},l[i]?=some x→(l.eraseIdx i).countP P+(if P x=true then 1 else 0)=l.countP P
 | a::l,0,x,h=>by
  obtain rfl:a=x:=by simpa using h
  simp[List.countP_cons]
 | a::l,i+1,x,h=>by
  have:=kW (P:=P) (l:=l) (i:=i) (x:=x) (by simpa using h)
  simp[List.countP_cons] at this ⊢;omega
def Ec(w:Int)(x:dc):Bool:=decide (x.who=w)
def dj(w:Int)(l:List dc):Nat:=l.countP (Ec w)
def cG(g:Gates)(w:Int):Nat:=kV (fun m:dt=>dj w m.wait) g.aD+kV (dj w) g.bm+kV (fun m:jr=>dj w m.wait) g.bX
def cU(w:Int)(u:Tub):Nat:=u.bz.count w+u.bN.countP fun x=>decide (x.who=w)
def cT(l:List Tub)(w:Int):Nat:=kV (cU w) l
def cD(d:jB)(w:Int):Nat:=d.wait.countP fun r=>decide (r.who=w)
def cL(u:jW)(w:Int):Nat:=u.dV.countP fun x=>decide (x.1=w)
def jn(w:Int):Option bF→Nat
 | none=>0
 | some t=>if t.ar=w∧¬w = -1 then 1 else 0
def cJ(l:List (Option bF))(w:Int):Nat:=kV (jn w) l
def gH(s:Spc)(w:Int):Nat:=cG s.ag w+cT s.bx w+cD s.aN w+cL s.aA w+cJ s.thr w
def bT(t:bF):Nat:=if t.why=0∨t.why=9 then 0 else 1
def bO:Option bF→Nat
 | none=>0
 | some t=>bT t
def rO:Option bF→Nat
 | none=>0
 | some t=>if t.why=0 then 1 else 0
def dZ(s:Spc)(w:Int):Nat:=bO (s.at w)
def eQ(s:Spc)(w:Int):Nat:=rO (s.at w)
def ff(x:Int):Prop:=0≤x∧x≤18446744073709551615
structure qX(p:eB)(g:Gates):Prop where
 m:g.aD.length=p.ay.toNat
 c:g.bm.length=p.conds.toNat
 s:g.bX.length=p.aT.length
 sc:∀ x∈g.bX,0≤x.count∧x.count≤1048576
 cm:∀ r∈g.bm, ∀ w∈r,0≤w.mutex∧w.mutex<(g.aD.length:Int)
structure HU(u:Tub):Prop where
 r:u.room≤8
 l:u.words.length≤8
 w:∀ x∈u.words,ff x
 p:∀ x∈u.bN,ff x.x
structure zr(d:jB):Prop where
 l:d.blocks.length≤64
 b:∀ x∈d.blocks,ff x
 w:∀ r∈d.wait,0≤r.block∧r.block<(d.blocks.length:Int)∧ff r.x
structure II(o:Bool×Int)(n:Nat)(t:bF):Prop where
 h:t.handle=dn o.2 n
 R:gL t
 pc:0≤t.pc∧t.pc≤257
 d:t.bn=true→t.ar = -1
 f:t.why=9→t.ar = -1
def xG(p:eB):Prop:=cK p=0∧ ∀ f∈p.funcs, ∀ i∈f,ff i.n
structure Ok(k:Nat)(s:Spc)(p q:List Int):Prop where
 yK:xG s.dG
 lt:s.thr.length=16
 ll:s.table.length=16
 tk:∀ o∈s.table,0≤o.2∧o.2≤(k:Int)
 us:∀ n:Nat,n<16→((s.table.getD n (false,0)).1=true↔ ∃ t,s.thr[n]?=some (some t))
 th:∀ (n:Nat) (t:bF),s.thr[n]?=some (some t)→II (s.table.getD n (false,0)) n t
 me:s.mem.length=s.dG.words.toNat∧ ∀ x∈s.mem,ff x
 gt:qX s.dG s.ag
 tb:s.bx.length=s.dG.aC.length∧ ∀ u∈s.bx,HU u
 dk:zr s.aN
 wl:0≤s.aA.now∧s.aA.now≤1099511627776
 oB:∀ w,gH s w+p.count w=dZ s w+q.count w
/-! who is at a place -/
theorem kX{s:Spc}{n:Nat}:s.at (n:Int)=(s.thr[n]?).getD none:=by
 unfold Spc.at cH;rw[if_neg (by omega),Int.toNat_natCast]
theorem zt{s:Spc}{w:Int}(h:w<0):s.at w=none:=by unfold Spc.at cH;rw[if_pos h];rfl
theorem jN{s:Spc}{n:Nat}{o:Option bF}(hn:n<s.thr.length)(w:Int):({s with thr:=s.thr.set n o }:Spc).at w=if w=(n:Int) then o else s.at w:=by
 by_cases h0:w<0
 ·rw[zt h0,zt h0,if_neg (by omega)]
 ·obtain⟨m,rfl⟩:∃ m:Nat,w=(m:Int):=⟨w.toNat,by omega⟩
  rw[kX,kX]
  simp only
  by_cases e:m=n
  ·subst e;rw[List.getElem?_set_self hn,if_pos rfl];rfl
  ·rw[List.getElem?_set_ne (fun h=>e h.symm),if_neg (by omega)]
theorem oA{s:Spc}{n:Nat}{t:bF}(h:s.thr[n]?=some (some t)):s.at (n:Int)=some t:=by rw[kX,h];rfl
theorem fi{s:Spc}{w:Int}{t:bF}(h:s.at w=some t):0≤w∧s.thr[w.toNat]?=some (some t):=by
 by_cases h0:w<0
 ·rw[zt h0] at h;cases h
 ·obtain⟨m,rfl⟩:∃ m:Nat,w=(m:Int):=⟨w.toNat,by omega⟩
  rw[kX] at h
  refine⟨by omega,?_⟩
  rw[Int.toNat_natCast]
  cases e:s.thr[m]? with
  | none=>rw[e] at h;cases h
  | some o=>rw[e] at h;exact congrArg some h
theorem gI{s:Spc}{w:Int}(h:0<dZ s w):∃ t,s.at w=some t∧t.why≠0∧t.why≠9:=by
 unfold dZ bO at h
 cases e:s.at w with
 | none=>rw[e] at h;exact absurd h (by simp)
 | some t =>
  rw[e] at h;simp only[bT] at h
  split at h
  ·exact absurd h (by simp)
  ·exact⟨t,rfl,by omega,by omega⟩
theorem pP{s:Spc}{w:Int}:dZ s w≤1:=by
 unfold dZ bO
 split
 ·omega
 ·unfold bT;split <;> omega
theorem nm{t:bF}(h:t.why=0):bT t=0:=by unfold bT;rw[if_pos (.inl h)]
theorem jO{t:bF}(h:t.why≠0)(h9:t.why≠9):bT t=1:=by unfold bT;rw[if_neg (by omega)]
/-! steps that keep a space in order -/
section
variable{k:Nat}{s:Spc}{p q:List Int}
theorem Ok.au(h:Ok k s p q)(l:List Rec):Ok k {s with au:=l } p q:=⟨h.yK,h.lt,h.ll,h.tk,h.us,h.th,h.me,h.gt,h.tb,h.dk,h.wl,h.oB⟩
theorem Ok.IJ(h:Ok k s p q){p' q':List Int}(e:∀ w,p'.count w+q.count w=p.count w+q'.count w):Ok k s p' q':=⟨h.yK,h.lt,h.ll,h.tk,h.us,h.th,h.me,h.gt,h.tb,h.dk,h.wl,fun w=>by have:=h.oB w;have:=e w;omega⟩
theorem Ok.more(h:Ok k s p q){k':Nat}(hk:k≤k'):Ok k' s p q:=⟨h.yK,h.lt,h.ll,fun o ho=>by have:=h.tk o ho;omega,h.us,h.th,h.me,h.gt,h.tb,h.dk,h.wl,h.oB⟩
theorem Ok.mem(h:Ok k s p q){m:List Int}(hl:m.length=s.mem.length)(hw:∀ x∈m,ff x):Ok k {s with mem:=m } p q:=⟨h.yK,h.lt,h.ll,h.tk,h.us,h.th,⟨hl.trans h.me.1,hw⟩,h.gt,h.tb,h.dk,h.wl,h.oB⟩
theorem Ok.ag(h:Ok k s p q){g:Gates}(hg:qX s.dG g){p' q':List Int}(e:∀ w,cG g w+p'.count w+q.count w=cG s.ag w+p.count w+q'.count w):Ok k {s with ag:=g } p' q' :=
 ⟨h.yK,h.lt,h.ll,h.tk,h.us,h.th,h.me,hg,h.tb,h.dk,h.wl,fun w=>by
  have h1:=h.oB w;have h2:=e w
  have h3:dZ {s with ag:=g } w=dZ s w:=rfl
  rw[h3];unfold gH at h1 ⊢;simp only;omega⟩
theorem Ok.bx(h:Ok k s p q){l:List Tub}(hl:l.length=s.bx.length)(hu:∀ u∈l,HU u){p' q':List Int}(e:∀ w,cT l w+p'.count w+q.count w=cT s.bx w+p.count w+q'.count w):Ok k {s with bx:=l } p' q' :=
 ⟨h.yK,h.lt,h.ll,h.tk,h.us,h.th,h.me,h.gt,⟨hl.trans h.tb.1,hu⟩,h.dk,h.wl,fun w=>by
  have h1:=h.oB w;have h2:=e w
  have h3:dZ {s with bx:=l } w=dZ s w:=rfl
  rw[h3];unfold gH at h1 ⊢;simp only;omega⟩
theorem Ok.aN(h:Ok k s p q){d:jB}(hd:zr d){p' q':List Int}(e:∀ w,cD d w+p'.count w+q.count w=cD s.aN w+p.count w+q'.count w):Ok k {s with aN:=d } p' q' :=
 ⟨h.yK,h.lt,h.ll,h.tk,h.us,h.th,h.me,h.gt,h.tb,hd,h.wl,fun w=>by
  have h1:=h.oB w;have h2:=e w
  have h3:dZ {s with aN:=d } w=dZ s w:=rfl
  rw[h3];unfold gH at h1 ⊢;simp only;omega⟩
theorem Ok.aA(h:Ok k s p q){u:jW}(hu:0≤u.now∧u.now≤1099511627776){p' q':List Int}(e:∀ w,cL u w+p'.count w+q.count w=cL s.aA w+p.count w+q'.count w):Ok k {s with aA:=u } p' q' :=
 ⟨h.yK,h.lt,h.ll,h.tk,h.us,h.th,h.me,h.gt,h.tb,h.dk,hu,fun w=>by
  have h1:=h.oB w;have h2:=e w
  have h3:dZ {s with aA:=u } w=dZ s w:=rfl
  rw[h3];unfold gH at h1 ⊢;simp only;omega⟩
theorem Ok.aj(h:Ok k s p q){n:Nat}{t t':bF}(ht:s.thr[n]?=some (some t))(hh:II (s.table.getD n (false,0)) n t'){p' q':List Int}
  (e:∀ w,jn w (some t')+(if w=(n:Int) then bT t else 0)+p'.count w+q.count w=jn w (some t)+(if w=(n:Int) then bT t' else 0)+p.count w+q'.count w):Ok k (s.aj n t') p' q':=by
 have hn:n<s.thr.length:=(List.getElem?_eq_some_iff.1 ht).1
 refine⟨h.yK,?_,h.ll,h.tk,fun m hm=>?_,fun m u hu=>?_,h.me,h.gt,h.tb,h.dk,h.wl,fun w=>?_⟩
 ·show(s.thr.set n _).length=16;rw[List.length_set];exact h.lt
 ·refine(h.us m hm).trans ?_
  show(∃ t,s.thr[m]?=_)↔ ∃ t,(s.thr.set n (some t'))[m]?=_
  by_cases e:n=m
  ·subst e;rw[List.getElem?_set_self hn];exact⟨fun _=>⟨_,rfl⟩,fun _=>⟨_,ht⟩⟩
  ·rw[List.getElem?_set_ne e]
 ·have hu:(s.thr.set n (some t'))[m]?=some (some u):=hu
  by_cases e:n=m
  ·subst e;rw[List.getElem?_set_self hn] at hu;cases hu;exact hh
  ·rw[List.getElem?_set_ne e] at hu;exact h.th m u hu
 ·have h1:=h.oB w;have h2:=e w
  have h3:cJ (s.aj n t').thr w+jn w (some t)=cJ s.thr w+jn w (some t'):=gb (f:=jn w) (some t') ht
  have h4:dZ (s.aj n t') w+(if w=(n:Int) then bT t else 0)=dZ s w+(if w=(n:Int) then bT t' else 0):=by
   unfold dZ
   rw[show(s.aj n t').at w=_ from jN hn w]
   by_cases e:w=(n:Int)
   ·subst e;simp only[if_pos];rw[oA ht];simp only[bO];omega
   ·simp only[if_neg e]
  have h5:gH (s.aj n t') w=cG s.ag w+cT s.bx w+cD s.aN w+cL s.aA w+cJ (s.aj n t').thr w:=rfl
  rw[h5];unfold gH at h1;omega
end
end Go.SLYtefdijgllbkmfaaGreat
namespace Go.SLYtefdijgllbkmfaaGreat
open Go Go.RowKit
section
variable{k:Nat}{s:Spc}{p q:List Int}
theorem xH{l:List (Bool×Int)}{n:Nat}(hn:n<16)(hl:l.length=16)(h1:(l.getD n (false,0)).1=true)(_h0:0≤(l.getD n (false,0)).2):bj l (dn (l.getD n (false,0)).2 n)=some n:=by
 unfold bj
 have e:dn (l.getD n (false,0)).2 n % 65536=(n:Int)+1:=by unfold dn;omega
 rw[e,if_neg (by omega),show((n:Int)+1-1).toNat=n from by omega]
 have hx:=getD_some (d:=(false,(0:Int))) (show n<l.length by omega)
 rw[hx]
 simp only
 rw[if_pos (by simp only[and_true];exact h1)]
theorem Ok.Ed(h:Ok k s p q){n:Nat}{t:bF}(ht:s.thr[n]?=some (some t)):s.free n = {s with table:=s.table.set n (false,(s.table.getD n (false,0)).2),thr:=s.thr.set n none }:=by
 have hn:n<16:=h.lt ▸ (List.getElem?_eq_some_iff.1 ht).1
 have hx:=getD_some (d:=(false,(0:Int))) (show n<s.table.length by rw[h.ll];exact hn)
 have h0:=h.tk _ (List.mem_of_getElem? hx)
 unfold Spc.free
 rw[cV ht,(h.th n t ht).h,rS (xH hn h.ll ((h.us n hn).2 ⟨t,ht⟩) h0.1)]
 rfl
theorem Ok.free(h:Ok k s p q){n:Nat}{t:bF}(ht:s.thr[n]?=some (some t)){p' q':List Int}
  (e:∀ w,(if w=(n:Int) then bT t else 0)+p'.count w+q.count w=jn w (some t)+p.count w+q'.count w):Ok k (s.free n) p' q':=by
 have hn:n<s.thr.length:=(List.getElem?_eq_some_iff.1 ht).1
 have hn16:n<16:=h.lt ▸ hn
 have hlt:n<s.table.length:=by rw[h.ll];exact hn16
 have hx:=getD_some (d:=(false,(0:Int))) hlt
 rw[h.Ed ht]
 refine⟨h.yK,?_,?_,fun o ho=>?_,fun m hm=>?_,fun m u hu=>?_,h.me,h.gt,h.tb,h.dk,h.wl,fun w=>?_⟩
 ·show(s.thr.set n _).length=16;rw[List.length_set];exact h.lt
 ·show(s.table.set n _).length=16;rw[List.length_set];exact h.ll
 ·rcases List.mem_or_eq_of_mem_set ho with ho | rfl
  ·exact h.tk o ho
  ·show 0≤(s.table.getD n (false,0)).2∧_
   exact h.tk _ (List.mem_of_getElem? hx)
 ·show((s.table.set n _).getD m (false,0)).1=true↔ ∃ t,(s.thr.set n none)[m]?=_
  by_cases e:n=m
  ·subst e
   rw[List.getElem?_set_self hn,List.getD_eq_getElem?_getD,List.getElem?_set_self hlt]
   exact⟨fun h=>(by cases h),fun⟨t,h⟩=>(by cases h)⟩
  ·rw[List.getElem?_set_ne e,List.getD_eq_getElem?_getD,List.getElem?_set_ne e, ← List.getD_eq_getElem?_getD]
   exact h.us m hm
 ·have hu:(s.thr.set n none)[m]?=some (some u):=hu
  by_cases e:n=m
  ·subst e;rw[List.getElem?_set_self hn] at hu;cases hu
  ·rw[List.getElem?_set_ne e] at hu
   show II ((s.table.set n _).getD m (false,0)) m u
   rw[List.getD_eq_getElem?_getD,List.getElem?_set_ne e, ← List.getD_eq_getElem?_getD]
   exact h.th m u hu
 ·have h1:=h.oB w;have h2:=e w
  have h3:cJ (s.thr.set n none) w+jn w (some t)=cJ s.thr w+0:=gb (f:=jn w) none ht
  have h4:dZ {s with thr:=s.thr.set n none } w+(if w=(n:Int) then bT t else 0)=dZ s w:=by
   unfold dZ
   rw[jN hn w]
   by_cases e:w=(n:Int)
   ·subst e;simp only[if_pos];rw[oA ht];simp only[bO];omega
   ·simp only[if_neg e];omega
  have h5:dZ {s with table:=s.table.set n (false,(s.table.getD n (false,0)).2),thr:=s.thr.set n none } w=dZ {s with thr:=s.thr.set n none } w:=rfl
  rw[h5]
  unfold gH at h1 ⊢
  simp only
  omega
theorem Ok.begin(h:Ok k s p q)(hk:k≤1000000){f arg:Int}(ha:ff arg):Ok (k+1) (s.begin f arg).2.2 p q:=by
 cases hf:slotFree? s.table 0 with
 | none=>rw[iX hf];exact h.more (Nat.le_succ _)
 | some n =>
  have hfr:∀ (l:List (Bool×Int)) (i n:Nat),slotFree? l i=some n→i≤n∧ ∃ o,l[n-i]?=some o∧o.1=false:=by
   intro l
   induction l with
   | nil=>intro i n h;cases h
   | cons o l ih =>
    intro i n h
    unfold slotFree? at h
    split at h
    ·obtain⟨a,o',b,c⟩:=ih (i+1) n h
     exact⟨by omega,o',by rw[show n-i=(n-(i+1))+1 from by omega];simpa using b,c⟩
    ·cases h;rename_i hb
     exact⟨Nat.le_refl _,o,by simp,by simpa using hb⟩
  obtain⟨-,o,ho,ho1⟩:=hfr _ _ _ hf
  rw[Nat.sub_zero] at ho
  have hlt:n<s.table.length:=(List.getElem?_eq_some_iff.1 ho).1
  have hn16:n<16:=h.ll ▸ hlt
  have hn:n<s.thr.length:=by rw[h.lt];exact hn16
  have hgd:s.table.getD n (false,0)=o:=by rw[List.getD_eq_getElem?_getD,ho];rfl
  have hno:s.thr[n]?=some none:=by
   obtain⟨x,hx⟩:=aB hn
   cases x with
   | none=>exact hx
   | some t=>have:=(h.us n hn16).2 ⟨t,hx⟩;rw[hgd,ho1] at this;cases this
  have htk:=h.tk o (List.mem_of_getElem? ho)
  rw[dU hf,hgd]
  refine⟨h.yK,?_,?_,fun o' ho'=>?_,fun m hm=>?_,fun m u hu=>?_,h.me,h.gt,h.tb,h.dk,h.wl,fun w=>?_⟩
  ·show(s.thr.set n _).length=16;rw[List.length_set];exact h.lt
  ·show(s.table.set n _).length=16;rw[List.length_set];exact h.ll
  ·rcases List.mem_or_eq_of_mem_set ho' with ho' | rfl
   ·have:=h.tk o' ho';omega
   ·show 0≤o.2+1∧o.2+1≤((k+1:Nat):Int);omega
  ·show((s.table.set n _).getD m (false,0)).1=true↔ ∃ t,(s.thr.set n _)[m]?=_
   by_cases e:n=m
   ·subst e
    rw[List.getElem?_set_self hn,List.getD_eq_getElem?_getD,List.getElem?_set_self hlt]
    exact⟨fun _=>⟨_,rfl⟩,fun _=>rfl⟩
   ·rw[List.getElem?_set_ne e,List.getD_eq_getElem?_getD,List.getElem?_set_ne e, ← List.getD_eq_getElem?_getD]
    exact h.us m hm
  ·have hu:(s.thr.set n _)[m]?=some (some u):=hu
   by_cases e:n=m
   ·subst e;rw[List.getElem?_set_self hn] at hu;cases hu
    show II ((s.table.set n _).getD n (false,0)) n _
    rw[List.getD_eq_getElem?_getD,List.getElem?_set_self hlt]
    refine⟨rfl,⟨rfl,fun m=>?_,by show(-1:Int)≤ -1∧(-1:Int)<8;decide,by show(0:Int)≤0∧(0:Int)≤_;decide,?_⟩,by show(0:Int)≤0∧(0:Int)≤257;decide,fun h=>(by cases h),fun h=>rfl⟩
    ·have h0:(0:Int)≤0∧(0:Int)≤18446744073709551615:=by decide
     show 0≤([arg,0,0,0,0,0,0,0]:List Int).getD m 0∧_
     match m with
     | 0=>exact ha
     | 1=>exact h0
     | 2=>exact h0
     | 3=>exact h0
     | 4=>exact h0
     | 5=>exact h0
     | 6=>exact h0
     | 7=>exact h0
     | m+8=>exact h0
    ·show 0≤dn (o.2+1) n∧dn (o.2+1) n≤_;unfold dn;omega
   ·rw[List.getElem?_set_ne e] at hu
    show II ((s.table.set n _).getD m (false,0)) m u
    rw[List.getD_eq_getElem?_getD,List.getElem?_set_ne e, ← List.getD_eq_getElem?_getD]
    exact h.th m u hu
  ·have h1:=h.oB w
   have h3:cJ (s.thr.set n (some (mM f arg (dn (o.2+1) n)))) w+0=cJ s.thr w+jn w (some (mM f arg (dn (o.2+1) n))):=gb (f:=jn w) _ hno
   have hj:jn w (some (mM f arg (dn (o.2+1) n)))=0:=by unfold jn;exact if_neg (by rintro⟨a,b⟩;exact b a.symm)
   have h4:dZ {s with thr:=s.thr.set n (some (mM f arg (dn (o.2+1) n))) } w=dZ s w:=by
    unfold dZ
    rw[jN hn w]
    by_cases e:w=(n:Int)
    ·subst e;simp only[if_pos];rw[kX,hno];rfl
    ·simp only[if_neg e]
   have h5:dZ {s with table:=s.table.set n (true,o.2+1),thr:=s.thr.set n (some (mM f arg (dn (o.2+1) n))) } w=dZ {s with thr:=s.thr.set n (some (mM f arg (dn (o.2+1) n))) } w:=rfl
   rw[h5]
   unfold gH at h1 ⊢
   simp only
   omega
end
end Go.SLYtefdijgllbkmfaaGreat
namespace Go.SLYtefdijgllbkmfaaGreat
open Go Go.RowKit
def opn(V:List Rec)(h:Int):Option Int:=match (V.filter fun r=>decide (r.cy=h)).getLast? with | none=>none | some r=>if r.fin=true then none else some r.op
theorem Ee{V:List Rec}{r:Rec}{h:Int}(e:r.cy=h):opn (V++[r]) h=if r.fin=true then none else some r.op:=by
 unfold opn;rw[List.filter_append];simp[e]
theorem B1{V:List Rec}{r:Rec}{h:Int}(e:r.cy≠h):opn (V++[r]) h=opn V h:=by
 unfold opn;rw[List.filter_append];simp[e]
def so(V:List Rec):Prop:=∀ a r b,V=a++r::b→ ∀ op,opn a r.cy=some op→r.fin=true∧r.op=op∧r.x=0∧r.result=0
theorem so.nil:so []:=fun a r b e=>by cases a <;> cases e
theorem so.snoc{V:List Rec}{r:Rec}(h:so V)(hr:∀ op,opn V r.cy=some op→r.fin=true∧r.op=op∧r.x=0∧r.result=0):so (V++[r]):=fun a q b e=>by
 rcases List.eq_nil_or_concat b with rfl | ⟨b',z,rfl⟩
 ·have:=List.append_inj' e rfl
  obtain⟨rfl,h2⟩:=this
  cases h2
  exact hr
 ·rw[List.concat_eq_append, ← List.cons_append, ← List.append_assoc] at e
  have:=List.append_inj' e rfl
  exact h a q b' this.1
structure ej(s:Spc)(V:List Rec):Prop where
 pr:so V
 op:∀ (n:Nat) (t:bF),s.thr[n]?=some (some t)→opn V t.handle=if bT t=1 then some t.op else none
 hd:∀ r∈V, ∃ (n:Nat) (k:Int),n<16∧r.cy=dn k n∧k≤(s.table.getD n (false,0)).2
theorem ud{a b:Int}{n m:Nat}(hn:n<16)(hm:m<16)(h:dn a n=dn b m):n=m∧a=b:=by unfold dn at h;omega
section
variable{k:Nat}{s:Spc}{p q:List Int}{V:List Rec}{n:Nat}{t t':bF}
theorem ej.of(h:ej s V){s':Spc}(e1:s'.thr=s.thr)(e2:s'.table=s.table):ej s' V:=⟨h.pr,fun n t ht=>h.op n t (by rw[← e1];exact ht),fun r hr=>by rw[e2];exact h.hd r hr⟩
theorem B2(hO:Ok k s p q){m:Nat}{u:bF}(ht:s.thr[n]?=some (some t))(hu:s.thr[m]?=some (some u))(hne:n≠m):t.handle≠u.handle:=fun e=>by
 rw[(hO.th n t ht).h,(hO.th m u hu).h] at e
 exact hne (ud (hO.lt ▸ (List.getElem?_eq_some_iff.1 ht).1) (hO.lt ▸ (List.getElem?_eq_some_iff.1 hu).1) e).1
theorem ej.vX(h:ej s V)(hO:Ok k s p q)(ht:s.thr[n]?=some (some t)){r:Rec}(hr:r.cy=t.handle)(hh:t'.handle=t.handle)(hp:∀ op,opn V t.handle=some op→r.fin=true∧r.op=op∧r.x=0∧r.result=0)
  (he:(if r.fin=true then none else some r.op)=if bT t'=1 then some t'.op else none):ej (s.aj n t') (V++[r]):=by
 have hn:n<s.thr.length:=(List.getElem?_eq_some_iff.1 ht).1
 refine⟨h.pr.snoc (by rw[hr];exact hp),fun m u hu=>?_,fun x hx=>?_⟩
 ·have hu:(s.thr.set n (some t'))[m]?=some (some u):=hu
  by_cases e:n=m
  ·subst e;rw[List.getElem?_set_self hn] at hu;cases hu
   rw[hh,Ee hr];exact he
  ·rw[List.getElem?_set_ne e] at hu
   rw[B1 (by rw[hr];exact B2 hO ht hu e)]
   exact h.op m u hu
 ·rcases List.mem_append.1 hx with hx | hx
  ·exact h.hd x hx
  ·rw[List.mem_singleton] at hx
   rw[hx,hr,(hO.th n t ht).h]
   exact⟨n,_,hO.lt ▸ hn,rfl,Int.le_refl _⟩
theorem ej.aj(h:ej s V)(ht:s.thr[n]?=some (some t))(hh:t'.handle=t.handle)(hb:bT t'=bT t)(ho:bT t=1→t'.op=t.op):ej (s.aj n t') V:=by
 have hn:n<s.thr.length:=(List.getElem?_eq_some_iff.1 ht).1
 refine⟨h.pr,fun m u hu=>?_,h.hd⟩
 have hu:(s.thr.set n (some t'))[m]?=some (some u):=hu
 by_cases e:n=m
 ·subst e;rw[List.getElem?_set_self hn] at hu;cases hu
  rw[hh,h.op n t ht,hb]
  by_cases e:bT t=1
  ·rw[if_pos e,if_pos e,ho e]
  ·rw[if_neg e,if_neg e]
 ·rw[List.getElem?_set_ne e] at hu
  exact h.op m u hu
theorem ej.tell(h:ej s V)(hO:Ok k s p q)(ht:s.thr[n]?=some (some t))(hb:bT t=0){o x y e:Int}:ej s (V++[⟨t.handle,o,x,y,e,true⟩]):=by
 have h0:opn V t.handle=none:=by rw[h.op n t ht,hb];rfl
 have:=h.vX (t':=t) hO ht (r:=⟨t.handle,o,x,y,e,true⟩) rfl rfl (fun op e=>by rw[h0] at e;cases e) (by rw[hb];rfl)
 refine this.of ?_ rfl
 show s.thr=s.thr.set n (some t)
 rw[eH ht]
theorem ej.free(h:ej s V)(hO:Ok k s p q)(ht:s.thr[n]?=some (some t)):ej (s.free n) V:=by
 have hn:n<s.thr.length:=(List.getElem?_eq_some_iff.1 ht).1
 have hlt:n<s.table.length:=by rw[hO.ll, ← hO.lt];exact hn
 rw[hO.Ed ht]
 refine⟨h.pr,fun m u hu=>?_,fun r hr=>?_⟩
 ·have hu:(s.thr.set n none)[m]?=some (some u):=hu
  by_cases e:n=m
  ·subst e;rw[List.getElem?_set_self hn] at hu;cases hu
  ·rw[List.getElem?_set_ne e] at hu;exact h.op m u hu
 ·obtain⟨m,k,h1,h2,h3⟩:=h.hd r hr
  refine⟨m,k,h1,h2,?_⟩
  show k≤((s.table.set n (false,(s.table.getD n (false,0)).2)).getD m (false,0)).2
  by_cases e:n=m
  ·subst e;rw[List.getD_eq_getElem?_getD,List.getElem?_set_self hlt];exact h3
  ·rw[List.getD_eq_getElem?_getD,List.getElem?_set_ne e, ← List.getD_eq_getElem?_getD];exact h3
theorem Ef{V:List Rec}{h:Int}(e:∀ r∈V,r.cy≠h):opn V h=none:=by
 unfold opn
 rw[List.filter_eq_nil_iff.2 (fun r hr=>by simpa using e r hr)];rfl
theorem ej.begin(h:ej s V)(hO:Ok k s p q){f a:Int}:ej (s.begin f a).2.2 V:=by
 cases hf:slotFree? s.table 0 with
 | none=>rw[iX hf];exact h
 | some n =>
  have hn16:n<16:=by
   have hfr:∀ (l:List (Bool×Int)) (i n:Nat),slotFree? l i=some n→n<i+l.length:=by
    intro l
    induction l with
    | nil=>intro i n h;cases h
    | cons o l ih =>
     intro i n h
     unfold slotFree? at h
     split at h
     ·have:=ih (i+1) n h;simp only[List.length_cons];omega
     ·cases h;simp only[List.length_cons];omega
   have:=hfr _ _ _ hf
   have:=hO.ll
   omega
  have hn:n<s.thr.length:=by rw[hO.lt];exact hn16
  have hlt:n<s.table.length:=by rw[hO.ll];exact hn16
  rw[dU hf]
  refine⟨h.pr,fun m u hu=>?_,fun r hr=>?_⟩
  ·have hu:(s.thr.set n _)[m]?=some (some u):=hu
   by_cases e:n=m
   ·subst e;rw[List.getElem?_set_self hn] at hu;cases hu
    refine(Ef fun r hr e=>?_).trans rfl
    obtain⟨m,k,h1,h2,h3⟩:=h.hd r hr
    rw[h2] at e
    obtain⟨rfl,rfl⟩:=ud h1 hn16 e
    omega
   ·rw[List.getElem?_set_ne e] at hu;exact h.op m u hu
  ·obtain⟨m,k,h1,h2,h3⟩:=h.hd r hr
   refine⟨m,k,h1,h2,?_⟩
   show k≤((s.table.set n (true,(s.table.getD n (false,0)).2+1)).getD m (false,0)).2
   by_cases e:n=m
   ·subst e;rw[List.getD_eq_getElem?_getD,List.getElem?_set_self hlt];show k≤(s.table.getD n (false,0)).2+1;omega
   ·rw[List.getD_eq_getElem?_getD,List.getElem?_set_ne e, ← List.getD_eq_getElem?_getD];exact h3
theorem xI{u:bF}{y:Int}:(u.cS y).handle=u.handle:=by show(if u.into = -1 then u else u.put u.into y).handle=_;split <;> rfl
theorem ej.di(h:ej s V)(hO:Ok k s p q){w0:Int}{u:bF}(hu:s.at w0=some u)(hu0:u.why≠0)(hu9:u.why≠9){y:Int}:ej (s.di w0.toNat y) (V++[u.dH y]):=by
 obtain⟨h0,hat⟩:=fi hu
 unfold Spc.di
 rw[cV hat]
 have hb:bT u=1:=jO hu0 hu9
 refine h.vX hO hat rfl xI (fun op e=>?_) ?_
 ·rw[h.op _ u hat,hb,if_pos rfl] at e
  cases e
  exact⟨rfl,rfl,rfl,rfl⟩
 ·rw[show bT (u.cS y)=0 from nm rfl];rfl
end
end Go.SLYtefdijgllbkmfaaGreat
namespace Go.SLYtefdijgllbkmfaaGreat
open Go Go.RowKit
structure dL(k:Nat)(s0:Spc)(d:Dng)(p q:List Int):Prop where
 ok:Ok k d.s p q
 rd:∀ w,eQ d.s w+(if (d.out.bA=true∨d.out.ended=true)∧w=(d.n:Int) then 1 else 0)=eQ s0 w+d.out.aL.count w
 wk:∀ w∈d.out.aL,eQ s0 w=0
 rc:ej d.s (d.s.au++d.ends)
 px:s0.au <+: d.s.au
section
variable{k:Nat}{s0:Spc}{d:Dng}{p q:List Int}{t:bF}
theorem gk{w:Int}{t:bF}:jn w (some t)=if t.ar=w∧¬w = -1 then 1 else 0:=rfl
theorem ec{t:bF}:rO (some t)=if t.why=0 then 1 else 0:=rfl
theorem lW{s:Spc}{n:Nat}{t t':bF}(ht:s.thr[n]?=some (some t))(w:Int):eQ (s.aj n t') w=if w=(n:Int) then rO (some t') else eQ s w:=by
 unfold eQ
 rw[show(s.aj n t').at w=_ from jN (List.getElem?_eq_some_iff.1 ht).1 w]
 split <;> rfl
theorem np{s:Spc}{n:Nat}{t:bF}(ht:s.thr[n]?=some (some t)):eQ s (n:Int)=rO (some t):=by unfold eQ;rw[oA ht]
theorem dL.oB(h:dL k s0 d p q){p' q':List Int}(e:∀ w,p'.count w+q.count w=p.count w+q'.count w):dL k s0 d p' q':=⟨h.ok.IJ e,h.rd,h.wk,h.rc,h.px⟩
theorem dL.tell(h:dL k s0 d p q)(ht:d.s.thr[d.n]?=some (some t))(hw:t.why=0)(hn:d.ends=[]){x y e:Int}:dL k s0 (d.tell x y e true) p q:=⟨h.ok.au _,h.rd,h.wk,by
 have h1:=h.rc
 rw[hn,List.append_nil] at h1
 have h2:=h1.tell h.ok ht (nm hw) (o:=d.i.op) (x:=x) (y:=y) (e:=e)
 show ej (d.s.tell ⟨d.t.handle,d.i.op,x,y,e,true⟩) ((d.s.au++[⟨d.t.handle,d.i.op,x,y,e,true⟩])++d.ends)
 rw[hn,List.append_nil,bZ ht]
 exact h2.of rfl rfl,h.px.trans (List.prefix_append _ _)⟩
theorem dL.own(h:dL k s0 d p q)(ht:d.s.thr[d.n]?=some (some t)){t':bF}(hR:gL t')(hpc:0≤t'.pc∧t'.pc≤257)(e1:t'.handle=t.handle)(e2:t'.why=t.why)(e3:t'.ar=t.ar)(e4:t'.bn=t.bn)(e5:t'.op=t.op):dL k s0 (d.aj t') p q:=by
 have ho:=h.ok.th d.n t ht
 refine⟨h.ok.aj ht ⟨e1.trans ho.h,hR,hpc,fun a=>by rw[e3];exact ho.d (by rw[← e4];exact a),fun a=>by rw[e3];exact ho.f (by rw[← e2];exact a)⟩ (fun w=>?_),fun w=>?_,h.wk,h.rc.aj ht e1 (by unfold bT;rw[e2]) (fun _=>e5),h.px⟩
 ·have hjj:jn w (some t')=jn w (some t):=by rw[gk,gk,e3]
  have hbb:bT t'=bT t:=by unfold bT;rw[e2]
  rw[hjj,hbb]
 ·have:=h.rd w
  have hr:eQ (d.aj t').s w=eQ d.s w:=by
   show eQ (d.s.aj d.n t') w=_
   rw[lW ht]
   split
   ·rename_i e;rw[e,np ht,ec,ec,e2]
   ·rfl
  rw[hr];exact this
theorem dL.pass(h:dL k s0 d p q)(ht:d.s.thr[d.n]?=some (some t))(hw:t.why=0)(hn:d.ends=[]){x y e:Int}(he:0≤e∧e≤11):dL k s0 (d.pass x y e) p q:=by
 have ho:=h.ok.th d.n t ht
 unfold Dng.pass
 rw[bZ ht]
 exact dL.own (d:=d.tell x y e true) (h.tell ht hw hn) ht (ho.R.put (by omega)) ho.pc rfl rfl rfl rfl rfl
theorem dL.block(h:dL k s0 d p ((d.n:Int)::q))(ht:d.s.thr[d.n]?=some (some t))(hw:t.why=0)(hn:d.ends=[])(hs:d.out.bA=false)(hd:d.out.ended=false){a i x y:Int}(ha:a≠0∧a≠9)(hi : -1≤i∧i<8):dL k s0 (d.block a i x y) p q:=by
 have ho:=h.ok.th d.n t ht
 have hTo:Ok k (d.tell x y 0 false).s p ((d.n:Int)::q):=h.ok.au _
 have ht2:(d.tell x y 0 false).s.thr[d.n]?=some (some t):=ht
 unfold Dng.block
 rw[bZ ht]
 refine⟨hTo.aj ht2 (t':={t with why:=a,op:=d.i.op,into:=i }) ⟨ho.h,ho.R.with hi,ho.pc,ho.d,fun e=>absurd e ha.2⟩ (fun w=>?_),fun w=>?_,h.wk,?_,h.px.trans (List.prefix_append _ _)⟩
 ·have e1:bT t=0:=nm hw
  have e2:bT {t with why:=a,op:=d.i.op,into:=i }=1:=jO ha.1 ha.2
  have e3:jn w (some {t with why:=a,op:=d.i.op,into:=i })=jn w (some t):=rfl
  rw[e1,e2,e3,List.count_cons]
  simp only[beq_iff_eq]
  by_cases e:w=(d.n:Int)
  ·rw[if_pos e,if_pos e,if_pos e.symm];omega
  ·rw[if_neg e,if_neg e,if_neg (fun h=>e h.symm)];omega
 ·have h1:=h.rd w
  rw[if_neg (by rw[hs,hd];simp)] at h1
  show eQ ((d.tell x y 0 false).s.aj d.n {t with why:=a,op:=d.i.op,into:=i }) w+(if (true=true∨d.out.ended=true)∧w=(d.n:Int) then 1 else 0)=eQ s0 w+d.out.aL.count w
  rw[lW ht2]
  by_cases e:w=(d.n:Int)
  ·rw[if_pos e,if_pos ⟨.inl rfl,e⟩]
   rw[e,np ht] at h1
   have:rO (some t)=1:=by rw[ec,if_pos hw]
   have:rO (some {t with why:=a,op:=d.i.op,into:=i })=0:=by rw[ec];exact if_neg ha.1
   rw[e];omega
  ·rw[if_neg e,if_neg (fun h=>e h.2)]
   exact h1
 ·have h1:=h.rc
  rw[hn,List.append_nil] at h1
  have e2:bT {t with why:=a,op:=d.i.op,into:=i }=1:=jO ha.1 ha.2
  have h0:opn d.s.au t.handle=none:=by rw[h1.op d.n t ht,nm hw];rfl
  have h2:=h1.vX (t':={t with why:=a,op:=d.i.op,into:=i }) h.ok ht (r:=⟨t.handle,d.i.op,x,y,0,false⟩) rfl rfl (fun op e=>by rw[h0] at e;cases e) (by rw[e2];rfl)
  show ej ((d.tell x y 0 false).s.aj d.n {t with why:=a,op:=d.i.op,into:=i }) ((d.s.au++[⟨d.t.handle,d.i.op,x,y,0,false⟩])++d.ends)
  rw[hn,List.append_nil,bZ ht]
  exact h2.of rfl rfl
theorem oC{u:bF}{y:Int}:(u.cS y).ar=u.ar:=by show(if u.into = -1 then u else u.put u.into y).ar=_;split <;> rfl
theorem Ok.di{s:Spc}(h:Ok k s p q){w0:Int}{u:bF}(hu:s.at w0=some u)(hu0:u.why≠0)(hu9:u.why≠9){y:Int}(hy:ff y):Ok k (s.di w0.toNat y) p (w0::q):=by
 obtain⟨h0,hat⟩:=fi hu
 have ho:=h.th _ u hat
 have hc:((w0.toNat:Nat):Int)=w0:=by omega
 unfold Spc.di
 rw[cV hat]
 refine h.aj hat ⟨?_,ho.R.cS hy,?_,?_,?_⟩ (fun w=>?_)
 ·rw[← ho.h];show(if u.into = -1 then u else u.put u.into y).handle=_;split <;> rfl
 ·show 0≤(if u.into = -1 then u else u.put u.into y).pc∧(if u.into = -1 then u else u.put u.into y).pc≤257;split <;> exact ho.pc
 ·intro e
  rw[oC];refine ho.d ?_
  rw[← e];show _=(if u.into = -1 then u else u.put u.into y).bn;split <;> rfl
 ·intro e;exact absurd (show(0:Int)=9 from e) (by decide)
 ·have e1:bT u=1:=jO hu0 hu9
  have e2:bT (u.cS y)=0:=nm rfl
  have e3:jn w (some (u.cS y))=jn w (some u):=by rw[gk,gk,oC]
  rw[e1,e2,e3,List.count_cons,hc]
  simp only[beq_iff_eq]
  by_cases e:w=w0
  ·rw[if_pos e,if_pos e,if_pos e.symm];omega
  ·rw[if_neg e,if_neg e,if_neg (fun h=>e h.symm)];omega
theorem oD{s:Spc}{w0:Int}{u:bF}(hu:s.at w0=some u){y:Int}(w:Int):eQ (s.di w0.toNat y) w=if w=w0 then 1 else eQ s w:=by
 obtain⟨h0,hat⟩:=fi hu
 unfold Spc.di
 rw[cV hat,lW hat,show((w0.toNat:Nat):Int)=w0 from by omega]
 rfl
theorem dL.Kh(h:dL k s0 d p q){w0:Int}{u:bF}(hu:d.s.at w0=some u)(hu0:u.why≠0)(hu9:u.why≠9){y:Int}(hy:ff y)(hne:w0=(d.n:Int)→d.out.bA=false∧d.out.ended=false):dL k s0 (d.dW w0.toNat y) p (w0::q):=by
 have h0:=(fi hu).1
 have hr:eQ d.s w0=0:=by unfold eQ;rw[hu,ec];exact if_neg hu0
 refine⟨h.ok.di hu hu0 hu9 hy,fun w=>?_,fun w hw=>?_,?_,h.px⟩
 ·have h1:=h.rd w
  show eQ (d.s.di w0.toNat y) w+(if (d.out.bA=true∨d.out.ended=true)∧w=(d.n:Int) then 1 else 0)=eQ s0 w+(d.out.aL++[((w0.toNat:Nat):Int)]).count w
  rw[oD hu,List.count_append,List.count_singleton,show((w0.toNat:Nat):Int)=w0 from by omega]
  simp only[beq_iff_eq]
  generalize (if (d.out.bA=true∨d.out.ended=true)∧w=(d.n:Int) then 1 else 0)=B at h1 ⊢
  by_cases e:w=w0
  ·rw[if_pos e,if_pos e.symm]
   rw[e] at h1 ⊢
   omega
  ·rw[if_neg e,if_neg (fun h=>e h.symm)];omega
 ·have hw:w∈d.out.aL++[((w0.toNat:Nat):Int)]:=hw
  rcases List.mem_append.1 hw with hw | hw
  ·exact h.wk w hw
  ·rw[List.mem_singleton,show((w0.toNat:Nat):Int)=w0 from by omega] at hw
   subst hw
   have h1:=h.rd w
   by_cases e:w=(d.n:Int)
   ·obtain⟨e1,e2⟩:=hne e
    rw[if_neg (by rw[e1,e2];simp)] at h1;omega
   ·rw[if_neg (fun h=>e h.2)] at h1;omega
 ·have h2:=h.rc.di h.ok hu hu0 hu9 (y:=y)
  show ej (d.s.di w0.toNat y) (d.s.au++(d.ends++[(d.s.t w0.toNat).dH y]))
  rw[← List.append_assoc,cV (fi hu).2]
  exact h2
theorem dL.dW(h:dL k s0 d p q){w0:Int}(hpq:q.count w0<p.count w0){y:Int}(hy:ff y)(hne:w0=(d.n:Int)→d.out.bA=false∧d.out.ended=false):dL k s0 (d.dW w0.toNat y) p (w0::q):=by
 have hb:=h.ok.oB w0
 obtain⟨u,hu,hu0,hu9⟩:=gI (show 0<dZ d.s w0 by omega)
 exact h.Kh hu hu0 hu9 hy hne
theorem dL.aY(h:dL k s0 d p q){g:Gates}(hg:qX d.s.dG g){p' q':List Int}(e:∀ w,cG g w+p'.count w+q.count w=cG d.s.ag w+p.count w+q'.count w):dL k s0 (d.aY g) p' q':=⟨h.ok.ag hg e,h.rd,h.wk,h.rc.of rfl rfl,h.px⟩
theorem dL.dM(h:dL k s0 d p q){i:Nat}{u v:Tub}(hi:d.s.bx[i]?=some u)(hv:HU v){p' q':List Int}(e:∀ w,cU w v+p'.count w+q.count w=cU w u+p.count w+q'.count w):dL k s0 (d.dM i v) p' q':=by
 refine⟨h.ok.bx (by rw[List.length_set]) (fun x hx=>?_) (fun w=>?_),h.rd,h.wk,h.rc.of rfl rfl,h.px⟩
 ·rcases List.mem_or_eq_of_mem_set hx with hx | rfl
  ·exact h.ok.tb.2 x hx
  ·exact hv
 ·have h1:cT (d.s.bx.set i v) w+cU w u=cT d.s.bx w+cU w v:=gb (f:=cU w) v hi
  have:=e w;omega
theorem dL.dv(h:dL k s0 d p q){u:jB}(hu:zr u){p' q':List Int}(e:∀ w,cD u w+p'.count w+q.count w=cD d.s.aN w+p.count w+q'.count w):dL k s0 (d.dv u) p' q':=⟨h.ok.aN hu e,h.rd,h.wk,h.rc.of rfl rfl,h.px⟩
theorem dL.rQ(h:dL k s0 d p q){u:jW}(hu:0≤u.now∧u.now≤1099511627776){p' q':List Int}(e:∀ w,cL u w+p'.count w+q.count w=cL d.s.aA w+p.count w+q'.count w):dL k s0 (d.rQ u) p' q':=⟨h.ok.aA hu e,h.rd,h.wk,h.rc.of rfl rfl,h.px⟩
theorem sq(h:Ok k d.s p q){n:Nat}(ht:d.s.thr[n]?=some (some t))(w:Int):eQ (d.s.free n) w=if w=(n:Int) then 0 else eQ d.s w:=by
 rw[h.Ed ht]
 unfold eQ
 rw[show({d.s with table:=d.s.table.set n (false,(d.s.table.getD n (false,0)).2),thr:=d.s.thr.set n none }:Spc).at w=({d.s with thr:=d.s.thr.set n none }:Spc).at w from rfl,jN (List.getElem?_eq_some_iff.1 ht).1 w]
 split <;> rfl
theorem dL.free(h:dL k s0 d p q){m:Nat}(ht:d.s.thr[m]?=some (some t))(h9:t.why=9):dL k s0 (d.free m) p q:=by
 have ho:=h.ok.th m t ht
 refine⟨h.ok.free ht (fun w=>?_),fun w=>?_,h.wk,h.rc.free h.ok ht,h.px⟩
 ·have e1:bT t=0:=by unfold bT;rw[if_pos (.inr h9)]
  have e2:jn w (some t)=0:=by rw[gk,ho.f h9];exact if_neg (by rintro⟨a,b⟩;exact b a.symm)
  rw[e1,e2];split <;> omega
 ·have h1:=h.rd w
  show eQ (d.s.free m) w+_=_
  rw[sq h.ok ht]
  by_cases e:w=(m:Int)
  ·have h2:eQ d.s w=0:=by rw[e,np ht,ec];exact if_neg (by omega)
   rw[if_pos e];rw[h2] at h1;exact h1
  ·rw[if_neg e];exact h1
theorem dL.fin(h:dL k s0 d [] [])(ht:d.s.thr[d.n]?=some (some t))(hw:t.why=0)(hs:d.out.bA=false)(hd:d.out.ended=false){v:Int}(hv:ff v):dL k s0 (d.fin v) [] []:=by
 have ho:=h.ok.th d.n t ht
 have hr0:rO (some t)=1:=by rw[ec];exact if_pos hw
 have hbt:bT t=0:=nm hw
 have h1:=h.rd
 have hend:∀ w,(if (d.ended.out.bA=true∨d.ended.out.ended=true)∧w=(d.ended.n:Int) then 1 else 0)=if w=(d.n:Int) then 1 else 0:=fun w=>by
  by_cases e:w=(d.n:Int)
  ·rw[if_pos (show(d.ended.out.bA=true∨d.ended.out.ended=true)∧w=(d.ended.n:Int) from⟨.inr rfl,e⟩),if_pos e]
  ·rw[if_neg (show ¬((d.ended.out.bA=true∨d.ended.out.ended=true)∧w=(d.ended.n:Int)) from fun h=>e h.2),if_neg e]
 have hrd:∀ w,eQ d.s w=eQ s0 w+d.out.aL.count w:=fun w=>by
  have:=h1 w;rw[if_neg (by rw[hs,hd];simp)] at this;exact this
 cases hdt:t.bn with
 | true =>
  rw[vK ht hdt]
  refine⟨h.ok.free ht (fun w=>?_),fun w=>?_,h.wk,h.rc.free h.ok ht,h.px⟩
  ·have e2:jn w (some t)=0:=by rw[gk,ho.d hdt];exact if_neg (by rintro⟨a,b⟩;exact b a.symm)
   rw[hbt,e2];split <;> omega
  ·show eQ (d.s.free d.n) w+(if (d.ended.out.bA=true∨d.ended.out.ended=true)∧w=(d.ended.n:Int) then 1 else 0)=eQ s0 w+d.out.aL.count w
   rw[hend,sq h.ok ht, ← hrd]
   by_cases e:w=(d.n:Int)
   ·rw[if_pos e,if_pos e,e,np ht,hr0]
   ·rw[if_neg e,if_neg e];rfl
 | false =>
  by_cases hj:t.ar = -1
  ·rw[rZ ht hdt hj]
   refine⟨h.ok.aj (s:=d.s) (t':={t with why:=9,value:=v }) ht ⟨ho.h,⟨ho.R.l,ho.R.r,ho.R.i,hv,ho.R.h⟩,ho.pc,ho.d,fun _=>hj⟩ (fun w=>?_),fun w=>?_,h.wk,h.rc.aj (s:=d.s) (t':={t with why:=9,value:=v }) ht rfl (by rw[hbt];try rfl) (fun e=>absurd e (by rw[hbt];decide)),h.px⟩
   ·have e1:bT {t with why:=9,value:=v }=0:=by unfold bT;exact if_pos (.inr rfl)
    have e3:jn w (some {t with why:=9,value:=v })=jn w (some t):=rfl
    rw[hbt,e1,e3]
   ·show eQ (d.s.aj d.n {t with why:=9,value:=v }) w+(if (d.ended.out.bA=true∨d.ended.out.ended=true)∧w=(d.ended.n:Int) then 1 else 0)=eQ s0 w+d.out.aL.count w
    rw[hend,lW ht, ← hrd]
    by_cases e:w=(d.n:Int)
    ·rw[if_pos e,if_pos e,e,np ht,hr0,ec,if_neg (by show(9:Int)≠0;decide)]
    ·rw[if_neg e,if_neg e];rfl
  ·rw[r8 ht hdt hj]
   -- who joined dW on: it is counted by this thread's own word
   have hcj:1≤gH d.s t.ar:=by
    have:jn t.ar (some t)=1:=by rw[gk];exact if_pos ⟨rfl,hj⟩
    have h2:jn t.ar (some t)≤cJ d.s.thr t.ar:=dh (f:=jn t.ar) (List.mem_of_getElem? ht)
    unfold gH;omega
   have hb:=h.ok.oB t.ar
   obtain⟨u,hu,hu0,hu9⟩:=gI (s:=d.s) (w:=t.ar) (by simp at hb;omega)
   obtain⟨h0,hat⟩:=fi hu
   have hne:t.ar.toNat≠d.n:=fun e=>by rw[e,ht] at hat;cases hat;exact hu0 hw
   have hc:((t.ar.toNat:Nat):Int)=t.ar:=by omega
   have hk:=h.ok.di hu hu0 hu9 hv
   have ht2:(d.s.di t.ar.toNat v).thr[d.n]?=some (some t):=by
    unfold Spc.di;exact cn ht hne
   refine⟨hk.free (n:=d.n) ht2 (fun w=>?_),fun w=>?_,fun w hw=>?_,?_,h.px⟩
   ·rw[hbt,gk,List.count_cons]
    simp only[beq_iff_eq,List.count_nil]
    by_cases e:t.ar=w
    ·rw[if_pos (show t.ar=w∧¬w = -1 from⟨e,by rw[← e];exact hj⟩),if_pos e];split <;> omega
    ·rw[if_neg (show ¬(t.ar=w∧¬w = -1) from fun h=>e h.1),if_neg e];split <;> omega
   ·show eQ ((d.s.di t.ar.toNat v).free d.n) w+(if (d.ended.out.bA=true∨d.ended.out.ended=true)∧w=(d.ended.n:Int) then 1 else 0)=eQ s0 w+(d.out.aL++[((t.ar.toNat:Nat):Int)]).count w
    rw[hend,sq (d:={d with s:=d.s.di t.ar.toNat v }) hk ht2,hc,List.count_append,List.count_singleton]
    simp only[beq_iff_eq]
    rw[oD hu]
    have h2:=hrd w
    by_cases e:w=(d.n:Int)
    ·rw[if_pos e,if_pos e,if_neg (show ¬t.ar=w by rw[e];omega)]
     rw[e,np ht,hr0] at h2
     rw[e];omega
    ·rw[if_neg e,if_neg e]
     by_cases e2:w=t.ar
     ·rw[if_pos e2,if_pos e2.symm]
      have:eQ d.s w=0:=by rw[e2];unfold eQ;rw[hu,ec];exact if_neg hu0
      omega
     ·rw[if_neg e2,if_neg (fun h=>e2 h.symm)];omega
   ·have hw:w∈d.out.aL++[((t.ar.toNat:Nat):Int)]:=hw
    rcases List.mem_append.1 hw with hw | hw
    ·exact h.wk w hw
    ·rw[List.mem_singleton,hc] at hw
     have h2:=hrd w
     have:eQ d.s w=0:=by rw[hw];unfold eQ;rw[hu,ec];exact if_neg hu0
     omega
   ·have h2:=h.rc.di h.ok hu hu0 hu9 (y:=v)
    have h3:=h2.free hk (n:=d.n) ht2
    show ej ((d.s.di t.ar.toNat v).free d.n) (d.s.au++(d.ends++[(d.s.t t.ar.toNat).dH v]))
    rw[← List.append_assoc,cV hat]
    exact h3
end
end Go.SLYtefdijgllbkmfaaGreat
namespace Go.SLYtefdijgllbkmfaaGreat
open Go Go.RowKit
theorem AL{n:Int}:ff (gO n):=by unfold gO ff;omega
theorem vY:ff mS:=by unfold mS ff;decide
theorem qY{n:Int}(h:ff n):ff (fw n):=by unfold fw;split;exact vY;exact h
theorem AM{o:Option Nat}(h:∀ r,o=some r→r<18446744073709551616):ff (BJ o):=by
 cases o with
 | none=>exact vY
 | some r=>have:=h r rfl;exact qY ⟨by omega,by omega⟩
theorem gw{c:Prop}[Decidable c]{a b:Int}(h1:ff a)(h2:ff b):ff (if c then a else b):=by split;exact h1;exact h2
theorem HV{b:Bool}:ff (rP b):=by unfold rP;exact gw ⟨by decide,by decide⟩ ⟨by decide,by decide⟩
theorem Eg{neg:Bool}{win:Ordering}{x y:Nat}(hx:x<18446744073709551616)(hy:y<18446744073709551616):ff ((eF neg win x y:Nat):Int):=by
 have h1:Go.FloatKind.f64.encode (.infinity neg)<18446744073709551616:=by cases neg <;> decide +kernel
 unfold eF
 simp only
 unfold ff
 repeat' split
 all_goals omega
theorem AN{op a b:Int}(ha:ff a)(hb:ff b):ff (aE op a b):=by
 have hx:a.toNat<18446744073709551616:=by have:=ha.1;have:=ha.2;omega
 have hy:b.toNat<18446744073709551616:=by have:=hb.1;have:=hb.2;omega
 have h0:ff 0:=⟨by decide,by decide⟩
 have hmin:ff (nW a b):=by unfold nW;exact gw vY (qY (Eg hx hy))
 have hmax:ff (nX a b):=by unfold nX;exact gw vY (qY (Eg hx hy))
 have hti:ff (eY a):=by unfold eY;exact gw h0 (gw ⟨by decide,by decide⟩ (gw ⟨by decide,by decide⟩ AL))
 have htf:ff (fc a):=by
  unfold fc
  refine qY ⟨by omega,?_⟩
  have:Go.FloatKind.f64.nearest (Go.IntKind.i64.wrap a)<18446744073709551616:=(Ieee.Format.write_lt Ieee.double (.number (decide (Go.IntKind.i64.wrap a<0)) (Go.IntKind.i64.wrap a).natAbs 0):_)
  omega
 unfold aE
 refine gw ha (gw AL (gw AL (gw AL (gw HV (gw (AM fun r h=>Ieee.Format.add_lt _ h) (gw (AM fun r h=>Ieee.Format.sub_lt _ h) (gw (AM fun r h=>Ieee.Format.mul_lt _ h) (gw (AM fun r h=>Ieee.Format.div_lt _ h) (gw hmin (gw hmax (gw HV (gw hti (gw htf h0)))))))))))))
end Go.SLYtefdijgllbkmfaaGreat
namespace Go.SLYtefdijgllbkmfaaGreat
open Go Go.RowKit
def b2(p:Prop)[Decidable p]:Nat:=if p then 1 else 0
theorem lX{w:Int}{l:List dc}{a b:Int}:dj w (l++[⟨a,b⟩])=dj w l+b2 (a=w):=by
 unfold dj b2 Ec;rw[List.countP_append];simp[List.countP_cons]
theorem pQ{w:Int}{l:List dc}{c:Int}:dj w (aH l c).2.2+b2 ((aH l c).2.1=true∧(aH l c).1.who=w)=dj w l:=by
 by_cases h0:l.length=0
 ·rw[vE h0];unfold b2;rw[if_neg (by rintro⟨a,b⟩;cases a)];rfl
 ·rw[qU h0]
  have hp:=eX (t:=c) (n:=l.length) (by omega)
  have hx:l[pick c l.length]?=some (l.getD (pick c l.length) ⟨0,0⟩):=getD_some hp
  have:=kW (P:=Ec w) hx
  unfold dj b2
  rw[← this]
  simp only[true_and,Ec,decide_eq_true_eq]
theorem pR{w:Int}{l:List dc}(h:dj w l=0):lx l w=false:=by
 unfold lx
 rw[List.any_eq_false]
 intro x hx e
 have:0<dj w l:=List.countP_pos_iff.2 ⟨x,hx,e⟩
 omega
theorem zu{g:Gates}{w:Int}(h:cG g w=0):g.waits w=false:=by
 unfold cG at h
 unfold Gates.waits
 rw[Bool.or_eq_false_iff,Bool.or_eq_false_iff,List.any_eq_false,List.any_eq_false,List.any_eq_false]
 refine⟨⟨fun x hx=>?_,fun x hx=>?_⟩,fun x hx=>?_⟩
 ·have:=dh (f:=fun m:dt=>dj w m.wait) hx
  rw[pR (by omega)];simp
 ·have:=dh (f:=dj w) hx
  rw[pR (by omega)];simp
 ·have:=dh (f:=fun m:jr=>dj w m.wait) hx
  rw[pR (by omega)];simp
theorem d1:(1:Int)≠0:=by decide
theorem d4:(4:Int)≠0:=by decide
theorem d5:(5:Int)≠0:=by decide
section
variable{g:Gates}{p:eB}
theorem vZ{i:Nat}{x y:dt}(h:g.aD[i]?=some x)(w:Int):cG {g with aD:=g.aD.set i y } w+dj w x.wait=cG g w+dj w y.wait:=by
 have:=gb (f:=fun m:dt=>dj w m.wait) y h
 unfold cG;simp only at this ⊢;omega
theorem Eh{i:Nat}{x y:List dc}(h:g.bm[i]?=some x)(w:Int):cG {g with bm:=g.bm.set i y } w+dj w x=cG g w+dj w y:=by
 have:=gb (f:=dj w) y h
 unfold cG;simp only at this ⊢;omega
theorem v8{i:Nat}{x y:jr}(h:g.bX[i]?=some x)(w:Int):cG {g with bX:=g.bX.set i y } w+dj w x.wait=cG g w+dj w y.wait:=by
 have:=gb (f:=fun m:jr=>dj w m.wait) y h
 unfold cG;simp only at this ⊢;omega
theorem qX.aD(h:qX p g){i:Nat}{y:dt}:qX p {g with aD:=g.aD.set i y }:=⟨by simp only[List.length_set];exact h.m,h.c,h.s,h.sc,fun r hr w hw=>by simp only[List.length_set];exact h.cm r hr w hw⟩
theorem qX.bm(h:qX p g){i:Nat}{y:List dc}(hy:∀ w∈y,0≤w.mutex∧w.mutex<(g.aD.length:Int)):qX p {g with bm:=g.bm.set i y }:=⟨h.m,by simp only[List.length_set];exact h.c,h.s,h.sc,fun r hr w hw=>by
 rcases List.mem_or_eq_of_mem_set hr with hr | rfl
 ·exact h.cm r hr w hw
 ·exact hy w hw⟩
theorem qX.bX(h:qX p g){i:Nat}{y:jr}(hy:0≤y.count∧y.count≤1048576):qX p {g with bX:=g.bX.set i y }:=⟨h.m,h.c,by simp only[List.length_set];exact h.s,fun x hx=>by
 rcases List.mem_or_eq_of_mem_set hx with hx | rfl
 ·exact h.sc x hx
 ·exact hy,h.cm⟩
theorem eR{q:Prop}[Decidable q](h:¬q):b2 q=0:=if_neg h
theorem je{q:Prop}[Decidable q](h:q):b2 q=1:=if_pos h
theorem IK(h:qX p g){n m:Int}:qX p (g.lock n m).2.2∧ ∀ w,cG (g.lock n m).2.2 w=cG g w+b2 (((g.lock n m).2.1=0∧(g.lock n m).1=false)∧n=w):=by
 have nope:∀ (b:Bool) (e:Int),(e≠0∨b=true)→ ∀ w,cG g w=cG g w+b2 ((e=0∧b=false)∧n=w):=fun b e he w=>by
  rw[eR (by rintro⟨⟨a,c⟩, -⟩;rcases he with he | he;exact he a;rw[he] at c;cases c)];rfl
 by_cases hm:0≤m∧m<(g.aD.length:Int)
 ·obtain⟨x,hx,hgx⟩:=ck hm
  cases hb:(g.waits n || x.is n) with
  | true=>rw[qt hgx hb];exact⟨h,nope _ _ (.inl d4)⟩
  | false =>
   rw[tU hgx hb]
   cases hh:x.held with
   | true =>
    rw[vF hh]
    refine⟨h.aD,fun w=>?_⟩
    have:=vZ (y:={x with wait:=x.wait++[⟨n,0⟩] }) hx w
    rw[lX] at this
    have e:b2 (((0:Int)=0∧false=false)∧n=w)=b2 (n=w):=by unfold b2;simp
    rw[e];simp only at this ⊢;omega
   | false =>
    rw[vG hh]
    refine⟨h.aD,fun w=>?_⟩
    have:=vZ (y:={x with held:=true,owner:=n }) hx w
    rw[eR (by rintro⟨⟨a,c⟩, -⟩;cases c)]
    simp only at this ⊢;omega
 ·rw[tT hm];exact⟨h,nope _ _ (.inl d1)⟩
theorem qA{x:dt}{c w:Int}:dj w (x.unlock c).2.2.wait+b2 ((x.unlock c).2.1=true∧(x.unlock c).1=w)=dj w x.wait:=pQ
theorem xJ(h:qX p g){n m c:Int}:qX p (g.unlock n m c).2.2.2∧ ∀ w,cG (g.unlock n m c).2.2.2 w+b2 ((g.unlock n m c).2.1=true∧(g.unlock n m c).1=w)=cG g w:=by
 have nope:∀ w,cG g w+b2 (false=true∧(0:Int)=w)=cG g w:=fun w=>by rw[eR (by rintro⟨a, -⟩;cases a)];rfl
 by_cases hm:0≤m∧m<(g.aD.length:Int)
 ·obtain⟨x,hx,hgx⟩:=ck hm
  cases hb:x.is n with
  | false=>rw[od hgx hb];exact⟨h,nope⟩
  | true =>
   rw[qv hgx hb]
   refine⟨h.aD,fun w=>?_⟩
   have:=vZ (y:=(x.unlock c).2.2) hx w
   have:=qA (x:=x) (c:=c) (w:=w)
   simp only at *;omega
 ·rw[qu hm];exact⟨h,nope⟩
theorem IL(h:qX p g){n c m ch:Int}(hw0:g.waits n=false):qX p (g.wait n c m ch).2.2.2∧ ∀ w,cG (g.wait n c m ch).2.2.2 w+b2 ((g.wait n c m ch).2.1=true∧(g.wait n c m ch).1=w)=cG g w+b2 ((g.wait n c m ch).2.2.1=0∧n=w):=by
 have nope:∀ e:Int,e≠0→ ∀ w,cG g w+b2 (false=true∧(0:Int)=w)=cG g w+b2 (e=0∧n=w):=fun e he w=>by rw[eR (by rintro⟨a, -⟩;cases a),eR (fun h=>he h.1)]
 by_cases hm:0≤m∧m<(g.aD.length:Int)
 ·by_cases hc:0≤c∧c<(g.bm.length:Int)
  ·obtain⟨x,hx,hgx⟩:=ck hm
   obtain⟨r,hr,hgr⟩:=ck hc
   cases hb:x.is n with
   | false=>rw[ng hgx hgr hw0 hb];exact⟨h,nope _ d5⟩
   | true =>
    rw[pG hgx hgr hw0 hb]
    have h1:=h.aD (i:=m.toNat) (y:=(x.unlock ch).2.2)
    refine⟨h1.bm (i:=c.toNat) (y:=r++[⟨n,m⟩]) (fun w hw=>?_),fun w=>?_⟩
    ·simp only[List.length_set]
     rcases List.mem_append.1 hw with hw | hw
     ·exact h.cm r (List.mem_of_getElem? hr) w hw
     ·rw[List.mem_singleton] at hw;rw[hw];exact hm
    ·have a1:=vZ (y:=(x.unlock ch).2.2) hx w
     have a2:=qA (x:=x) (c:=ch) (w:=w)
     have a3:=Eh (g:={g with aD:=g.aD.set m.toNat (x.unlock ch).2.2 }) (y:=r++[⟨n,m⟩]) hr w
     rw[lX] at a3
     have e:b2 ((0:Int)=0∧n=w)=b2 (n=w):=by unfold b2;simp
     simp only at *
     omega
  ·rw[nf hc];exact⟨h,nope _ d1⟩
 ·rw[m9 hm];exact⟨h,nope _ d1⟩
theorem IM(h:qX p g){n s:Int}(hw0:g.waits n=false):qX p (g.down n s).2.2∧ ∀ w,cG (g.down n s).2.2 w=cG g w+b2 (((g.down n s).2.1=0∧(g.down n s).1=false)∧n=w):=by
 by_cases hs:0≤s∧s<(g.bX.length:Int)
 ·obtain⟨x,hx,hgx⟩:=ck hs
  have hxc:=h.sc x (List.mem_of_getElem? hx)
  by_cases hc:0<x.count
  ·rw[tW hgx hw0 hc]
   refine⟨h.bX (by simp only;omega),fun w=>?_⟩
   have:=v8 (y:={x with count:=x.count-1 }) hx w
   rw[eR (by rintro⟨⟨a,c⟩, -⟩;cases c)]
   simp only at this ⊢;omega
  ·rw[qy hgx hw0 hc]
   refine⟨h.bX hxc,fun w=>?_⟩
   have:=v8 (y:={x with wait:=x.wait++[⟨n,0⟩] }) hx w
   rw[lX] at this
   have e:b2 (((0:Int)=0∧false=false)∧n=w)=b2 (n=w):=by unfold b2;simp
   rw[e];simp only at this ⊢;omega
 ·rw[tV hs]
  exact⟨h,fun w=>by rw[eR (by rintro⟨⟨a,c⟩, -⟩;exact d1 a)];rfl⟩
theorem Ki(h:qX p g){s c:Int}:qX p (g.up s c).2.2.2∧ ∀ w,cG (g.up s c).2.2.2 w+b2 ((g.up s c).2.1=true∧(g.up s c).1=w)=cG g w:=by
 have no:∀ w,b2 (false=true∧(0:Int)=w)=0:=fun w=>eR (by rintro⟨a, -⟩;cases a)
 by_cases hs:0≤s∧s<(g.bX.length:Int)
 ·obtain⟨x,hx,hgx⟩:=ck hs
  have hxc:=h.sc x (List.mem_of_getElem? hx)
  cases ht:(aH x.wait c).2.1 with
  | true =>
   rw[tX hgx ht]
   refine⟨h.bX hxc,fun w=>?_⟩
   have a1:=v8 (y:={x with wait:=(aH x.wait c).2.2 }) hx w
   have a2:=pQ (w:=w) (l:=x.wait) (c:=c)
   rw[ht] at a2
   simp only at *;omega
  | false =>
   by_cases hc:1048576≤x.count
   ·rw[tY hgx ht hc];exact⟨h,fun w=>by rw[no];rfl⟩
   ·rw[Az hgx ht hc]
    refine⟨h.bX (by simp only;omega),fun w=>?_⟩
    have:=v8 (y:={x with count:=x.count+1 }) hx w
    rw[no];simp only at this ⊢;omega
 ·rw[Ay hs];exact⟨h,fun w=>by rw[no];rfl⟩
theorem HW:∀ (n:Nat) (c:Int) (r:List dc) (ms:List dt) (out:List Int) (w:Int),n≤r.length→(∀ y∈r,0≤y.mutex∧y.mutex<(ms.length:Int))→
  dj w (sigLoop n c r ms out).1+kV (fun m:dt=>dj w m.wait) (sigLoop n c r ms out).2.1+(sigLoop n c r ms out).2.2.count w=dj w r+kV (fun m:dt=>dj w m.wait) ms+out.count w∧ ∀ y∈(sigLoop n c r ms out).1,y∈r
 | 0,_,_,_,_,_,_,_=>⟨rfl,fun _ h=>h⟩
 | n+1,c,r,ms,out,w,hn,hr=>by
  obtain⟨h1,h2,h3⟩:=j8 (l:=r) (c:=c) (by omega)
  have hm:=hr _ h1
  obtain⟨x,hx⟩:=aB (show(aH r c).1.mutex.toNat<ms.length by omega)
  have ht:(aH r c).2.1=true:=by rw[qU (by omega)]
  have hgx:ms.getD (aH r c).1.mutex.toNat ⟨[],false,0⟩=x:=by rw[List.getD_eq_getElem?_getD,hx];rfl
  unfold sigLoop
  simp only
  rw[hgx]
  obtain⟨a1,a2⟩:=HW n c (aH r c).2.2 (ms.set (aH r c).1.mutex.toNat (x.lock (aH r c).1.who).2) (if (x.lock (aH r c).1.who).1=true then out++[(aH r c).1.who] else out) w (by omega) (fun y hy=>by rw[List.length_set];exact hr y (h3 y hy))
  refine⟨a1.trans ?_,fun y hy=>h3 y (a2 y hy)⟩
  have b1:=pQ (w:=w) (l:=r) (c:=c)
  have b3:=gb (f:=fun m:dt=>dj w m.wait) (x.lock (aH r c).1.who).2 hx
  have e:b2 ((aH r c).2.1=true∧(aH r c).1.who=w)=b2 ((aH r c).1.who=w):=by unfold b2;simp[ht]
  rw[e] at b1
  cases hh:x.held with
  | true =>
   rw[vF hh] at b3 ⊢
   simp only[Bool.false_eq_true,if_false] at b3 ⊢
   rw[lX] at b3
   omega
  | false =>
   rw[vG hh] at b3 ⊢
   simp only[if_true] at b3 ⊢
   rw[List.count_append,List.count_singleton]
   have e2:(if ((aH r c).1.who == w)=true then 1 else 0)=b2 ((aH r c).1.who=w):=by unfold b2;simp
   rw[e2];omega
theorem xK(h:qX p g){c ch:Int}{all:Bool}:qX p (g.signal c ch all).2.2∧ ∀ w,cG (g.signal c ch all).2.2 w+(g.signal c ch all).1.count w=cG g w:=by
 by_cases hc:0≤c∧c<(g.bm.length:Int)
 ·obtain⟨r,hr,hgr⟩:=ck hc
  have hrm:=h.cm r (List.mem_of_getElem? hr)
  rw[qx hgr rfl]
  have hs:=fun w=>HW (if all=true then r.length else min r.length 1) (if all=true then 0 else ch) r g.aD [] w (by split <;> omega) hrm
  refine⟨⟨?_,?_,h.s,h.sc,fun y hy w hw=>?_⟩,fun w=>?_⟩
  ·rw[ox];exact h.m
  ·simp only[List.length_set];exact h.c
  ·rw[ox]
   rcases List.mem_or_eq_of_mem_set hy with hy | rfl
   ·exact h.cm y hy w hw
   ·exact hrm w ((hs 0).2 w hw)
  ·have a1:=(hs w).1
   have a2:=gb (f:=dj w) (sigLoop (if all=true then r.length else min r.length 1) (if all=true then 0 else ch) r g.aD []).1 hr
   unfold cG
   simp only[List.count_nil] at *
   omega
 ·rw[qw hc];exact⟨h,fun w=>rfl⟩
end
end Go.SLYtefdijgllbkmfaaGreat
namespace Go.SLYtefdijgllbkmfaaGreat
open Go Go.RowKit
theorem oE{n w:Int}:[n].count w=b2 (n=w):=by rw[List.count_singleton];unfold b2;simp
theorem xL{ok:Bool}{n w:Int}:(if ok=true then [n] else []).count w=b2 (ok=true∧n=w):=by
 cases ok
 ·simp[b2]
 ·simp only[if_true,oE,true_and]
structure St(k:Nat)(s0:Spc)(d:Dng)(t:bF):Prop where
 h:dL k s0 d [] []
 ht:d.s.thr[d.n]?=some (some t)
 hw:t.why=0
 hs:d.out.bA=false
 he:d.out.ended=false
 I:ja d.i
 hn:d.ends=[]
section
variable{k:Nat}{s0:Spc}{d:Dng}{p q:List Int}{t:bF}
theorem St.o(S:St k s0 d t):II (d.s.table.getD d.n (false,0)) d.n t:=S.h.ok.th d.n t S.ht
theorem St.zero(S:St k s0 d t):gH d.s d.n=0:=by
 have:=S.h.ok.oB d.n
 have e:dZ d.s d.n=0:=by unfold dZ;rw[oA S.ht];exact nm S.hw
 simp at this;omega
theorem St.a(S:St k s0 d t):ff d.a:=by unfold Dng.a;rw[bZ S.ht];exact S.o.R.r _
theorem St.b(S:St k s0 d t):ff d.b:=by unfold Dng.b;rw[bZ S.ht];exact S.o.R.r _
theorem St.pass(S:St k s0 d t){x y e:Int}(he:0≤e∧e≤11):dL k s0 (d.pass x y e) [] []:=S.h.pass S.ht S.hw S.hn he
theorem dL.given{ok:Bool}{n:Int}(h:dL k s0 d (if ok=true then [n] else []) [])(hne:ok=true→n=(d.n:Int)→d.out.bA=false∧d.out.ended=false):dL k s0 (d.given n ok) [] []:=by
 unfold Dng.given
 cases ok with
 | false=>exact h
 | true =>
  have:=dL.dW (y:=0) h (w0:=n) (by simp) ⟨by decide,by decide⟩ (hne rfl)
  exact this.oB (fun w=>by simp)
theorem Ei{g:Gates}{n c m ch:Int}(h:(g.wait n c m ch).2.2.1≠0):(g.wait n c m ch).2.1=false:=by
 unfold Gates.wait at h ⊢
 repeat' split
 all_goals first | rfl | skip
 rename_i h1 h2 h3 h4
 rw[h1,h2] at h
 simp only at h
 rw[if_neg h3,if_pos h4] at h
 exact absurd rfl h
theorem St.waits(S:St k s0 d t):d.s.ag.waits d.n=false:=zu (by have:=S.zero;unfold gH at this;omega)
theorem Ej{g:Gates}{n c m ch:Int}(hw0:g.waits n=false)(h:(g.wait n c m ch).2.2.1=0):1≤cG (g.wait n c m ch).2.2.2 n:=by
 by_cases hm:0≤m∧m<(g.aD.length:Int)
 ·by_cases hc:0≤c∧c<(g.bm.length:Int)
  ·obtain⟨x,hx,hgx⟩:=ck hm
   obtain⟨r,hr,hgr⟩:=ck hc
   cases hb:x.is n with
   | false=>rw[ng hgx hgr hw0 hb] at h;exact absurd h d5
   | true =>
    rw[pG hgx hgr hw0 hb]
    have a3:=Eh (g:={g with aD:=g.aD.set m.toNat (x.unlock ch).2.2 }) (y:=r++[⟨n,m⟩]) hr n
    have a4:dj n r≤cG {g with aD:=g.aD.set m.toNat (x.unlock ch).2.2 } n:=by
     have:=dh (f:=dj n) (List.mem_of_getElem? hr)
     unfold cG;simp only;omega
    rw[lX,je rfl] at a3
    simp only at a3 ⊢
    omega
  ·rw[nf hc] at h;exact absurd h d1
 ·rw[m9 hm] at h;exact absurd h d1
theorem St.mutex(S:St k s0 d t):dL k s0 d.mutex [] []:=by
 unfold Dng.mutex
 simp only
 split
 ·obtain⟨hg,hc⟩:=IK (n:=d.n) (m:=d.i.n) S.h.ok.gt
  split
  ·rename_i hb
   have h1:=S.h.aY hg (p':=[]) (q':=[(d.n:Int)]) (fun w=>by
    rw[hc w,oE]
    have:b2 (((d.s.ag.lock d.n d.i.n).2.1=0∧(d.s.ag.lock d.n d.i.n).1=false)∧(d.n:Int)=w)=b2 ((d.n:Int)=w):=by unfold b2;simp[hb]
    rw[this];simp)
   exact h1.block S.ht S.hw S.hn S.hs S.he ⟨by decide,by decide⟩ (by decide)
  ·rename_i hb
   have h1:=S.h.aY hg (p':=[]) (q':=[]) (fun w=>by rw[hc w,eR (fun h=>hb h.1)];rfl)
   exact h1.pass S.ht S.hw S.hn AD
 ·split
  ·obtain⟨hg,hc⟩:=xJ (n:=d.n) (m:=d.i.n) (c:=d.choice) S.h.ok.gt
   have h1:=S.h.aY hg (p':=if (d.s.ag.unlock d.n d.i.n d.choice).2.1=true then [(d.s.ag.unlock d.n d.i.n d.choice).1] else []) (q':=[]) (fun w=>by rw[xL];have:=hc w;simp;omega)
   exact(h1.pass S.ht S.hw S.hn pJ).given (fun _ _=>⟨S.hs,S.he⟩)
  ·obtain⟨hg,hc⟩:=IL (n:=d.n) (c:=d.i.n) (m:=d.i.c) (ch:=d.choice) S.h.ok.gt S.waits
   have hc2:=fun w=>hc w
   split
   ·rename_i he
    have h1:=S.h.aY hg (p':=[]) (q':=[]) (fun w=>by
     have:=hc w
     rw[eR (fun h=>by rw[Ei he] at h;exact absurd h.1 (by simp)),eR (fun h=>he h.1)] at this
     simp;omega)
    exact h1.pass S.ht S.hw S.hn AE
   ·rename_i he
    have he:(d.s.ag.wait d.n d.i.n d.i.c d.choice).2.2.1=0:=Decidable.not_not.mp he
    have hno:(d.s.ag.wait d.n d.i.n d.i.c d.choice).2.1=true→¬(d.s.ag.wait d.n d.i.n d.i.c d.choice).1=(d.n:Int):=fun ho hn=>by
     have h1:=hc d.n
     have h2:cG d.s.ag d.n=0:=by have:=S.zero;unfold gH at this;omega
     have h3:=Ej (g:=d.s.ag) (n:=d.n) (c:=d.i.n) (m:=d.i.c) (ch:=d.choice) S.waits he
     rw[je ⟨ho,hn⟩,je ⟨he,rfl⟩] at h1
     omega
    have h1:=S.h.aY hg (p':=if (d.s.ag.wait d.n d.i.n d.i.c d.choice).2.1=true then [(d.s.ag.wait d.n d.i.n d.i.c d.choice).1] else []) (q':=[(d.n:Int)]) (fun w=>by
     rw[xL,oE]
     have:=hc w
     have e:b2 ((d.s.ag.wait d.n d.i.n d.i.c d.choice).2.2.1=0∧(d.n:Int)=w)=b2 ((d.n:Int)=w):=by unfold b2;simp[he]
     rw[e] at this
     simp;omega)
    exact(h1.block S.ht S.hw S.hn S.hs S.he ⟨by decide,by decide⟩ (by decide)).given (fun ho hn=>absurd hn (hno ho))
theorem St.bX(S:St k s0 d t):dL k s0 d.bX [] []:=by
 unfold Dng.bX
 simp only
 split
 ·obtain⟨hg,hc⟩:=Ki (s:=d.i.n) (c:=d.choice) S.h.ok.gt
  have h1:=S.h.aY hg (p':=if (d.s.ag.up d.i.n d.choice).2.1=true then [(d.s.ag.up d.i.n d.choice).1] else []) (q':=[]) (fun w=>by rw[xL];have:=hc w;simp;omega)
  exact(h1.pass S.ht S.hw S.hn D1).given (fun _ _=>⟨S.hs,S.he⟩)
 ·obtain⟨hg,hc⟩:=IM (n:=d.n) (s:=d.i.n) S.h.ok.gt S.waits
  split
  ·rename_i hb
   have h1:=S.h.aY hg (p':=[]) (q':=[(d.n:Int)]) (fun w=>by
    rw[hc w,oE]
    have:b2 (((d.s.ag.down d.n d.i.n).2.1=0∧(d.s.ag.down d.n d.i.n).1=false)∧(d.n:Int)=w)=b2 ((d.n:Int)=w):=by unfold b2;simp[hb]
    rw[this];simp)
   exact h1.block S.ht S.hw S.hn S.hs S.he ⟨by decide,by decide⟩ (by decide)
  ·rename_i hb
   have h1:=S.h.aY hg (p':=[]) (q':=[]) (fun w=>by rw[hc w,eR (fun h=>hb h.1)];rfl)
   exact h1.pass S.ht S.hw S.hn AF
/-! those who go on by a signal -/
theorem Ok.Le{s:Spc}(h:Ok k s p q){w0:Int}{u:bF}(hu:s.at w0=some u)(hu0:u.why≠0)(hu9:u.why≠9):Ok k (s.aj w0.toNat {u with why:=1 }) p q:=by
 obtain⟨h0,hat⟩:=fi hu
 have ho:=h.th _ u hat
 refine h.aj (t':={u with why:=1 }) hat ⟨ho.h,⟨ho.R.l,ho.R.r,ho.R.i,ho.R.v,ho.R.h⟩,ho.pc,ho.d,fun e=>absurd (show(1:Int)=9 from e) (by decide)⟩ (fun w=>?_)
 have e1:bT u=1:=jO hu0 hu9
 have e2:bT {u with why:=1 }=1:=jO (t:={u with why:=1 }) (by show(1:Int)≠0;decide) (by show(1:Int)≠9;decide)
 have e3:jn w (some {u with why:=1 })=jn w (some u):=rfl
 rw[e1,e2,e3]
theorem Ek{s:Spc}{w0:Int}{u:bF}(hu:s.at w0=some u)(hu0:u.why≠0)(hu9:u.why≠9)(w:Int):dZ (s.aj w0.toNat {u with why:=1 }) w=dZ s w∧eQ (s.aj w0.toNat {u with why:=1 }) w=eQ s w:=by
 obtain⟨h0,hat⟩:=fi hu
 have hc:((w0.toNat:Nat):Int)=w0:=by omega
 have e:(s.aj w0.toNat {u with why:=1 }).at w=if w=w0 then some {u with why:=1 } else s.at w:=by
  have:=jN (s:=s) (n:=w0.toNat) (o:=some {u with why:=1 }) (List.getElem?_eq_some_iff.1 hat).1 w
  rw[hc] at this;exact this
 unfold dZ eQ
 rw[e]
 by_cases hw:w=w0
 ·rw[if_pos hw,hw,hu]
  refine⟨?_,?_⟩
  ·show bT {u with why:=1 }=bT u
   exact(jO (t:={u with why:=1 }) (by show(1:Int)≠0;decide) (by show(1:Int)≠9;decide)).trans (jO hu0 hu9).symm
  ·rw[ec,ec,if_neg (by show ¬(1:Int)=0;decide),if_neg hu0]
 ·rw[if_neg hw];exact⟨rfl,rfl⟩
theorem dL.bV:∀ (l:List Int) (d:Dng),dL k s0 d p q→(∀ w∈l,0<dZ d.s w)→dL k s0 {d with s:=bV d.s l } p q
 | [],_,h,_=>h
 | w::l,d,h,hl=>by
  obtain⟨u,hu,hu0,hu9⟩:=gI (hl w List.mem_cons_self)
  have hat:=(fi hu).2
  have hk:=Ek hu hu0 hu9
  have h2:dL k s0 {d with s:=d.s.aj w.toNat {u with why:=1 } } p q:=⟨h.ok.Le hu hu0 hu9,fun w'=>by
   have:=h.rd w'
   show eQ (d.s.aj w.toNat {u with why:=1 }) w'+_=_
   rw[(hk w').2];exact this,h.wk,h.rc.aj hat rfl (by rw[jO hu0 hu9];exact jO (t:={u with why:=1 }) (by show(1:Int)≠0;decide) (by show(1:Int)≠9;decide)) (fun _=>rfl),h.px⟩
  have h3:=dL.bV l _ h2 (fun w' hw'=>by
   show 0<dZ (d.s.aj w.toNat {u with why:=1 }) w'
   rw[(hk w').1];exact hl w' (List.mem_cons_of_mem _ hw'))
  show dL k s0 {d with s:=Go.SLYtefdijgllbkmfaaGreat.bV (d.s.aj w.toNat {d.s.t w.toNat with why:=1 }) l } p q
  rw[show d.s.t w.toNat=u from cV hat]
  exact h3
theorem dL.dy:∀ (l:List Int) (d:Dng),dL k s0 d l []→d.out.bA=false∧d.out.ended=false→dL k s0 (d.dy l) [] []
 | [],_,h,_=>h
 | w::l,d,h,hs=>by
  have h1:=h.dW (w0:=w) (y:=0) (by simp) ⟨by decide,by decide⟩ (fun _=>hs)
  refine dL.dy l _ ?_ hs
  exact(h1.oB (fun w'=>by simp[List.count_cons]))
theorem dL.jY{l:List Int}(h:dL k s0 d l [])(hs:d.out.bA=false∧d.out.ended=false):dL k s0 (d.jY l) [] []:=by
 unfold Dng.jY
 refine dL.dy l _ (dL.bV d.waits d h (fun w hw=>?_)) hs
 have:=h.ok.oB w
 have h1:0<cG d.s.ag w:=by
  obtain⟨x,hx,hw⟩:=List.mem_flatMap.1 hw
  obtain⟨y,hy,rfl⟩:=List.mem_map.1 hw
  have h2:=dh (f:=fun m:dt=>dj y.who m.wait) (List.mem_of_mem_take hx)
  have h3:0<dj y.who x.wait:=List.countP_pos_iff.2 ⟨y,hy,by simp[Ec]⟩
  unfold cG;omega
 unfold gH at this
 simp at this;omega
theorem St.signal(S:St k s0 d t){all:Bool}:dL k s0 (((d.aY (d.s.ag.signal d.i.n d.choice all).2.2).pass d.i.n 0 (d.s.ag.signal d.i.n d.choice all).2.1).jY (d.s.ag.signal d.i.n d.choice all).1) [] []:=by
 obtain⟨hg,hc⟩:=xK (c:=d.i.n) (ch:=d.choice) (all:=all) S.h.ok.gt
 have h1:=S.h.aY hg (p':=(d.s.ag.signal d.i.n d.choice all).1) (q':=[]) (fun w=>by have:=hc w;simp;omega)
 exact(h1.pass S.ht S.hw S.hn gS).jY ⟨S.hs,S.he⟩
end
end Go.SLYtefdijgllbkmfaaGreat
namespace Go.SLYtefdijgllbkmfaaGreat
open Go Go.RowKit
section
variable{k:Nat}{s0:Spc}{d:Dng}{p q:List Int}{t:bF}
theorem zv{l:List Int}(h:∀ n,ff (l.getD n 0)){i n:Nat}{x:Int}(hx:ff x):ff ((l.set i x).getD n 0):=ov hx h
theorem wa{l:List Int}(h:∀ x∈l,ff x){i:Nat}(hi:i<l.length):ff (l.getD i 0):=h _ (List.mem_of_getElem? (getD_some hi))
theorem IP{f:iD}{m:List Int}{i:Ins}{z:iD×List Int}(h:gX f m i=some z)(hI:ja i)(hl:f.av.length=8)(hr:∀ n,ff (f.av.getD n 0))(hp:0≤f.pc∧f.pc≤256)(hm:∀ x∈m,ff x) :
  z.1.av.length=8∧(∀ n,ff (z.1.av.getD n 0))∧(0≤z.1.pc∧z.1.pc≤257)∧z.2.length=m.length∧ ∀ x∈z.2,ff x:=by
 have hn:=hI.n
 have hj:=hI.j
 unfold gX at h
 split at h
 ·cases h;exact⟨hl,hr,⟨hn.1,by have:=hj (.inl ‹_›);show i.n≤257;omega⟩,rfl,hm⟩
 split at h
 ·cases h
  refine⟨hl,hr,?_,rfl,hm⟩
  show 0≤(if f.eW i.a=0 then i.n else f.pc+1)∧(if f.eW i.a=0 then i.n else f.pc+1)≤257
  have:=hj (.inr ‹_›)
  split <;> omega
 split at h
 ·cases h
  exact⟨by show(f.av.set _ _).length=8;rw[List.length_set];exact hl,fun n=>zv hr ⟨hn.1,hn.2⟩,by show 0≤f.pc+1∧f.pc+1≤257;omega,rfl,hm⟩
 split at h
 ·split at h
  ·cases h
   refine⟨by show(f.av.set _ _).length=8;rw[List.length_set];exact hl,fun n=>zv hr (wa hm ?_),by show 0≤f.pc+1∧f.pc+1≤257;omega,rfl,hm⟩
   have:=(hr i.b.toNat).1
   unfold iD.eW at *;omega
  ·cases h
 split at h
 ·split at h
  ·cases h
   refine⟨hl,hr,by show 0≤f.pc+1∧f.pc+1≤257;omega,by show(m.set _ _).length=_;rw[List.length_set],fun x hx=>?_⟩
   rcases List.mem_or_eq_of_mem_set hx with hx | rfl
   ·exact hm x hx
   ·exact hr _
  ·cases h
 ·cases h
  refine⟨by show(f.av.set _ _).length=8;rw[List.length_set];exact hl,fun n=>zv hr (AN (hr _) ?_),by show 0≤f.pc+1∧f.pc+1≤257;omega,rfl,hm⟩
  split
  ·exact⟨by decide,by decide⟩
  ·exact hr _
theorem St.told(S:St k s0 d t):dL k s0 d.told [] []∧d.told.s.thr=d.s.thr∧d.told.s.mem=d.s.mem∧d.told.n=d.n∧d.told.out=d.out:=by
 unfold Dng.told
 split
 ·exact⟨S.h.tell S.ht S.hw S.hn,rfl,rfl,rfl,rfl⟩
 ·split
  ·exact⟨S.h.tell S.ht S.hw S.hn,rfl,rfl,rfl,rfl⟩
  ·exact⟨S.h,rfl,rfl,rfl,rfl⟩
theorem St.plain(S:St k s0 d t)(hpc:t.pc≤256):dL k s0 d.plain [] []:=by
 have ho:=S.o
 cases hd:gX t.gY d.s.mem d.i with
 | none =>
  rw[lS S.ht hd]
  have hm:ff 18446744073709551615:=⟨by decide,by decide⟩
  split
  ·exact dL.fin (d:=d.tell d.b 0 6 true) (S.h.tell S.ht S.hw S.hn) S.ht S.hw S.hs S.he hm
  ·exact dL.fin (d:=d.tell d.a d.b 6 true) (S.h.tell S.ht S.hw S.hn) S.ht S.hw S.hs S.he hm
 | some z =>
  rw[jF S.ht hd]
  obtain⟨h1,e1,e2,e3,e4⟩:=S.told
  obtain⟨a1,a2,a3,a4,a5⟩:=IP hd S.I ho.R.l ho.R.r ⟨ho.pc.1,hpc⟩ S.h.ok.me.2
  have h2:dL k s0 (d.told.aj (t.lM z.1)) [] []:=h1.own (t:=t) (by rw[e1,e3];exact S.ht) ⟨a1,a2,ho.R.i,ho.R.v,ho.R.h⟩ a3 rfl rfl rfl rfl rfl
  have h3:dL k s0 {d.told.aj (t.lM z.1) with s:={(d.told.aj (t.lM z.1)).s with mem:=z.2 } } [] []:=⟨h2.ok.mem (by show z.2.length=d.told.s.mem.length;rw[e2];exact a4) a5,h2.rd,h2.wk,h2.rc.of rfl rfl,h2.px⟩
  have e5:({d.told with s:={d.told.s.aj d.n (t.lM z.1) with mem:=z.2 } }:Dng) = {d.told.aj (t.lM z.1) with s:={(d.told.aj (t.lM z.1)).s with mem:=z.2 } }:=by
   rw[← e3];rfl
  rw[e5];exact h3
theorem St.spawn(S:St k s0 d t)(hk:k≤1000000):dL (k+1) s0 d.spawn [] []:=by
 have hb:=S.b
 have hok:=S.h.ok.begin hk (f:=d.i.n) hb
 have hrd:=S.h.rd
 unfold Dng.spawn
 simp only
 cases hf:slotFree? d.s.table 0 with
 | none =>
  have e:d.s.begin d.i.n d.b=(0,2,d.s):=iX hf
  rw[e] at hok ⊢
  simp only[show ¬((2:Int)=0) from by decide,if_false]
  rw[bZ (d:={d with s:=d.s,out:=d.out }) S.ht]
  have h1:dL (k+1) s0 d [] []:=⟨hok,hrd,S.h.wk,S.h.rc,S.h.px⟩
  have ho:=S.o
  have h2:=h1.own S.ht (t':=t.put d.i.a 0) (ho.R.put (by decide)) ho.pc rfl rfl rfl rfl rfl
  exact h2.pass (t:=t.put d.i.a 0) (bS S.ht) S.hw S.hn (by decide)
 | some n =>
  obtain⟨t1,ht1,ht1e⟩:=pL (f:=d.i.n) (arg:=d.b) hf (by
   have:=S.h.ok.lt
   have hfr:∀ (l:List (Bool×Int)) (i n:Nat),slotFree? l i=some n→n<i+l.length:=by
    intro l
    induction l with
    | nil=>intro i n h;cases h
    | cons o l ih =>
     intro i n h
     unfold slotFree? at h
     split at h
     ·have:=ih (i+1) n h;simp only[List.length_cons];omega
     ·cases h;simp only[List.length_cons];omega
   have:=hfr _ _ _ hf
   have:=S.h.ok.ll
   omega)
  have e1:(d.s.begin d.i.n d.b).1=(n:Int):=by rw[dU hf]
  have e2:(d.s.begin d.i.n d.b).2.1=0:=by rw[dU hf]
  have e3:(d.s.begin d.i.n d.b).2.2.thr=d.s.thr.set n (some t1):=by rw[ht1e,dU hf]
  have hn:n<d.s.thr.length:=by
   have:=(List.getElem?_eq_some_iff.1 ht1).1
   rw[e3,List.length_set] at this;exact this
  have hno:d.s.thr[n]?=some none:=by
   obtain⟨x,hx⟩:=aB hn
   cases x with
   | none=>exact hx
   | some u =>
    have hfr:∀ (l:List (Bool×Int)) (i n:Nat),slotFree? l i=some n→i≤n∧ ∃ o,l[n-i]?=some o∧o.1=false:=by
     intro l
     induction l with
     | nil=>intro i n h;cases h
     | cons o l ih =>
      intro i n h
      unfold slotFree? at h
      split at h
      ·obtain⟨a,o',b,c⟩:=ih (i+1) n h
       exact⟨by omega,o',by rw[show n-i=(n-(i+1))+1 from by omega];simpa using b,c⟩
      ·cases h;rename_i hb
       exact⟨Nat.le_refl _,o,by simp,by simpa using hb⟩
    obtain⟨-,o,ho,ho1⟩:=hfr _ _ _ hf
    rw[Nat.sub_zero] at ho
    have:=(S.h.ok.us n (S.h.ok.lt ▸ hn)).2 ⟨u,hx⟩
    rw[List.getD_eq_getElem?_getD,ho] at this
    rw[show(Option.getD (some o) (false,(0:Int)))=o from rfl,ho1] at this
    cases this
  have hne:n≠d.n:=fun e=>by rw[e,S.ht] at hno;cases hno
  have ht2:(d.s.begin d.i.n d.b).2.2.thr[d.n]?=some (some t):=by rw[e3,List.getElem?_set_ne hne];exact S.ht
  rw[e2,e1]
  simp only[if_true,Int.toNat_natCast]
  rw[cV ht1]
  have h1:dL (k+1) s0 {d with s:=(d.s.begin d.i.n d.b).2.2,out:={d.out with aL:=d.out.aL++[(n:Int)] } } [] []:=⟨hok,fun w=>by
   have h2:=hrd w
   rw[if_neg (by rw[S.hs,S.he];simp)] at h2
   show eQ (d.s.begin d.i.n d.b).2.2 w+(if (d.out.bA=true∨d.out.ended=true)∧w=(d.n:Int) then 1 else 0)=eQ s0 w+(d.out.aL++[(n:Int)]).count w
   rw[if_neg (by rw[S.hs,S.he];simp),List.count_append,oE]
   have h3:eQ (d.s.begin d.i.n d.b).2.2 w=if w=(n:Int) then 1 else eQ d.s w:=by
    unfold eQ
    have:=jN (s:=d.s) (n:=n) (o:=some t1) hn w
    rw[show(d.s.begin d.i.n d.b).2.2.at w=({d.s with thr:=d.s.thr.set n (some t1) }:Spc).at w from by unfold Spc.at;rw[e3],this]
    split
    ·rw[ec,ht1e];exact if_pos rfl
    ·rfl
   rw[h3]
   have h4:eQ d.s (n:Int)=0:=by unfold eQ;rw[kX,hno];rfl
   by_cases e:w=(n:Int)
   ·rw[if_pos e,je e.symm];rw[e] at h2 ⊢;omega
   ·rw[if_neg e,eR (fun h=>e h.symm)];omega,fun w hw=>by
   have hw:w∈d.out.aL++[(n:Int)]:=hw
   rcases List.mem_append.1 hw with hw | hw
   ·exact S.h.wk w hw
   ·rw[List.mem_singleton] at hw
    subst hw
    have h2:=hrd (n:Int)
    rw[if_neg (by rw[S.hs,S.he];simp)] at h2
    have h4:eQ d.s (n:Int)=0:=by unfold eQ;rw[kX,hno];rfl
    omega,S.h.rc.begin S.h.ok |>.of rfl rfl |> fun h=>(by
   show ej (d.s.begin d.i.n d.b).2.2 ((d.s.begin d.i.n d.b).2.2.au++d.ends)
   rw[jd];exact h),by show s0.au <+: (d.s.begin d.i.n d.b).2.2.au;rw[jd];exact S.h.px⟩
  rw[bZ (d:={d with s:=(d.s.begin d.i.n d.b).2.2,out:={d.out with aL:=d.out.aL++[(n:Int)] } }) ht2]
  have ho:=h1.ok.th d.n t ht2
  have hh1:=h1.ok.th n t1 ht1
  have h2:=h1.own ht2 (t':=t.put d.i.a t1.handle) (ho.R.put hh1.R.h) ho.pc rfl rfl rfl rfl rfl
  exact h2.pass (t:=t.put d.i.a t1.handle) (bS ht2) S.hw S.hn (by decide)
theorem dL.other(h:dL k s0 d p q){m:Nat}{u u':bF}(hu:d.s.thr[m]?=some (some u))(hh:II (d.s.table.getD m (false,0)) m u')(hhd:u'.handle=u.handle)(hop:u'.op=u.op)(hw:u'.why=u.why){q':List Int}(e:∀ w,jn w (some u')+q.count w=jn w (some u)+q'.count w):dL k s0 {d with s:=d.s.aj m u' } p q':=by
 refine⟨h.ok.aj hu hh (fun w=>?_),fun w=>?_,h.wk,h.rc.aj hu hhd (by unfold bT;rw[hw]) (fun _=>hop),h.px⟩
 ·have e1:bT u'=bT u:=by unfold bT;rw[hw]
  have:=e w
  rw[e1];omega
 ·have h1:=h.rd w
  show eQ (d.s.aj m u') w+_=_
  have:eQ (d.s.aj m u') w=eQ d.s w:=by
   rw[lW hu]
   split
   ·rename_i e;rw[e,np hu,ec,ec,hw]
   ·rfl
  rw[this];exact h1
theorem pS(h:Ok k d.s p q)(x:Int)(m:Nat)(e:bj d.s.table x=some m):∃ u,d.s.thr[m]?=some (some u):=by
 obtain⟨h1,h2,h3,h4⟩:=vA e
 exact(h.us m (h.ll ▸ h1)).1 h3
theorem jH(h:Ok k d.s p q){x:Int}(e:(d.other x).2=0):∃ m u,(d.other x).1=m∧m≠d.n∧d.s.thr[m]?=some (some u)∧u.bn=false∧u.ar = -1:=by
 cases hf:bj d.s.table x with
 | none=>rw[ot hf] at e;cases e
 | some m =>
  obtain⟨u,hu⟩:=pS h x m hf
  by_cases h1:m=d.n∨u.bn=true
  ·rw[jc hf hu h1] at e;cases e
  ·by_cases h2:u.ar = -1
   ·exact⟨m,u,by rw[ou hf hu h1 h2],fun h=>h1 (.inl h),hu,by cases hd:u.bn with | false=>rfl | true=>exact absurd (.inr hd) h1,h2⟩
   ·rw[kS hf hu h1 h2] at e;cases e
theorem oF{s:Spc}{n m:Nat}{u:bF}(h:s.thr[m]?=some (some u))(hne:n≠m):(s.free n).thr[m]?=some (some u):=by
 unfold Spc.free;simp only;rw[List.getElem?_set_ne hne];exact h
theorem St.cO(S:St k s0 d t):dL k s0 d.cO [] []:=by
 unfold Dng.cO
 simp only
 split
 ·exact S.pass j9
 ·rename_i e
  obtain⟨m,u,e1,hne,hu,hd,hj⟩:=jH S.h.ok (Decidable.not_not.mp e)
  have hOu:=S.h.ok.th m u hu
  rw[e1,cV hu]
  split
  ·rename_i h9
   exact(S.h.free hu h9).pass (t:=t) (oF S.ht hne) S.hw S.hn (by decide)
  ·exact(S.h.other hu (u':={u with bn:=true }) ⟨hOu.h,⟨hOu.R.l,hOu.R.r,hOu.R.i,hOu.R.v,hOu.R.h⟩,hOu.pc,fun _=>hj,hOu.f⟩ rfl rfl rfl (fun w=>rfl)).pass (t:=t) (cn S.ht hne) S.hw S.hn (by decide)
theorem St.join(S:St k s0 d t):dL k s0 d.join [] []:=by
 have ho:=S.o
 unfold Dng.join
 simp only
 split
 ·exact S.pass j9
 ·rename_i e
  obtain⟨m,u,e1,hne,hu,hd,hj⟩:=jH S.h.ok (Decidable.not_not.mp e)
  have hOu:=S.h.ok.th m u hu
  rw[e1,cV hu]
  split
  ·rename_i h9
   rw[bZ S.ht]
   have h1:=S.h.own S.ht (t':=t.put d.i.a u.value) (ho.R.put hOu.R.v) ho.pc rfl rfl rfl rfl rfl
   have hu2:(d.aj (t.put d.i.a u.value)).s.thr[m]?=some (some u):=cn hu (Ne.symm hne)
   exact(h1.free hu2 h9).pass (t:=t.put d.i.a u.value) (oF (bS S.ht) hne) S.hw S.hn (by decide)
  ·rename_i h9
   have h1:dL k s0 {d with s:=d.s.aj m {u with ar:=d.n } } [] [(d.n:Int)]:=S.h.other hu (u':={u with ar:=d.n }) ⟨hOu.h,⟨hOu.R.l,hOu.R.r,hOu.R.i,hOu.R.v,hOu.R.h⟩,hOu.pc,fun e=>absurd (show u.bn=true from e) (by rw[hd];simp),fun e=>absurd (show u.why=9 from e) h9⟩ rfl rfl rfl (fun w=>by
    rw[gk,gk,hj,if_neg (show ¬((-1:Int)=w∧¬w = -1) from fun h=>h.2 h.1.symm),oE]
    unfold b2
    by_cases e:(d.n:Int)=w
    ·rw[if_pos (show(d.n:Int)=w∧¬w = -1 from⟨e,by omega⟩),if_pos e];simp
    ·rw[if_neg (show ¬((d.n:Int)=w∧¬w = -1) from fun h=>e h.1),if_neg e];simp)
   exact h1.block (cn S.ht hne) S.hw S.hn S.hs S.he ⟨by decide,by decide⟩ (by have:=S.I.a;omega)
end
end Go.SLYtefdijgllbkmfaaGreat
namespace Go.SLYtefdijgllbkmfaaGreat
open Go Go.RowKit
theorem FR:ff 0:=⟨by decide,by decide⟩
theorem tB{l:List Int}{w:Int}(h:l.count w=0):l.contains w=false:=by
 cases e:l.contains w with
 | false=>rfl
 | true =>
  have:w∈l:=by simpa using e
  have:=List.count_pos_iff.2 this
  omega
theorem sr{u:Tub}{n:Int}(h:cU n u=0):u.waits n=false:=by
 unfold cU at h
 unfold Tub.waits
 rw[tB (by omega),Bool.false_or,List.any_eq_false]
 intro x hx e
 have:0<u.bN.countP fun x=>decide (x.who=n):=List.countP_pos_iff.2 ⟨x,hx,e⟩
 omega
theorem eJ{l:List Int}{x w:Int}:(x::l).count w=l.count w+b2 (x=w):=by rw[List.count_cons];unfold b2;simp
theorem El{l:List Ptr}{a b w:Int}:(l++[(⟨a,b⟩:Ptr)]).countP (fun x:Ptr=>decide (x.who=w))=l.countP (fun x=>decide (x.who=w))+b2 (a=w):=by
 rw[List.countP_append];unfold b2;simp[List.countP_cons]
theorem ue{l:List Ptr}{x:Ptr}{w:Int}:(x::l).countP (fun x=>decide (x.who=w))=l.countP (fun x=>decide (x.who=w))+b2 (x.who=w):=by
 rw[List.countP_cons];unfold b2;simp
theorem Kj{u:Tub}(h:HU u){n x:Int}(hx:ff x)(hw:u.waits n=false):HU (u.put n x).2.2.2∧ ∀ w,cU w (u.put n x).2.2.2+b2 ((u.put n x).2.2.1=true∧(u.put n x).2.1=w)=cU w u+b2 ((u.put n x).1=false∧n=w):=by
 cases hg:u.bz with
 | cons a r =>
  rw[og hw hg]
  refine⟨⟨h.r,h.l,h.w,h.p⟩,fun w=>?_⟩
  have e1:b2 (true=true∧a=w)=b2 (a=w):=by unfold b2;simp
  rw[eR (q:=true=false∧n=w) (by rintro⟨a, -⟩;cases a),e1]
  unfold cU
  rw[hg,eJ];simp only;omega
 | nil =>
  by_cases hr:(u.words.length:Int)<u.room
  ·rw[lQ hw hg hr]
   refine⟨⟨h.r,?_,?_,h.p⟩,fun w=>?_⟩
   ·have:=h.r;rw[List.length_append];simp only[List.length_cons,List.length_nil];omega
   ·intro y hy
    rcases List.mem_append.1 hy with hy | hy
    ·exact h.w y hy
    ·rw[List.mem_singleton] at hy;rw[hy];exact hx
   ·rw[eR (q:=true=false∧n=w) (by rintro⟨a, -⟩;cases a),eR (q:=false=true∧(0:Int)=w) (by rintro⟨a, -⟩;cases a)];rfl
  ·rw[lR hw hg hr]
   refine⟨⟨h.r,h.l,h.w,fun y hy=>?_⟩,fun w=>?_⟩
   ·rcases List.mem_append.1 hy with hy | hy
    ·exact h.p y hy
    ·rw[List.mem_singleton] at hy;rw[hy];exact hx
   ·have e1:b2 (false=false∧n=w)=b2 (n=w):=by unfold b2;simp
    rw[eR (q:=false=true∧(0:Int)=w) (by rintro⟨a, -⟩;cases a),e1]
    unfold cU
    rw[El];simp only;omega
theorem Kk{u:Tub}(h:HU u){n:Int}(hw:u.waits n=false):HU (u.get n).2.2.2.2∧ff (u.get n).1∧ ∀ w,cU w (u.get n).2.2.2.2+b2 ((u.get n).2.2.2.1=true∧(u.get n).2.2.1=w)=cU w u+b2 ((u.get n).2.1=false∧n=w):=by
 have n1:∀ w,b2 (true=false∧n=w)=0:=fun w=>eR (by rintro⟨a, -⟩;cases a)
 have n2:∀ w,b2 (false=true∧(0:Int)=w)=0:=fun w=>eR (by rintro⟨a, -⟩;cases a)
 cases hg:u.words with
 | nil =>
  rw[get_none hw hg]
  refine⟨⟨h.r,h.l,h.w,h.p⟩,FR,fun w=>?_⟩
  have e1:b2 (false=false∧n=w)=b2 (n=w):=by unfold b2;simp
  rw[n2,e1]
  unfold cU
  rw[List.count_append,oE];simp only;omega
 | cons x r =>
  have hwx:=h.w x (by rw[hg];exact List.mem_cons_self)
  have hwr:∀ y∈r,ff y:=fun y hy=>h.w y (by rw[hg];exact List.mem_cons_of_mem _ hy)
  have hl:=h.l
  rw[hg,List.length_cons] at hl
  cases hp:u.bN with
  | nil =>
   rw[mq hw hg hp]
   refine⟨⟨h.r,by show r.length≤8;omega,hwr,h.p⟩,hwx,fun w=>?_⟩
   rw[n1,n2];rfl
  | cons y q =>
   rw[mr hw hg hp]
   refine⟨⟨h.r,?_,?_,fun z hz=>h.p z (by rw[hp];exact List.mem_cons_of_mem _ hz)⟩,hwx,fun w=>?_⟩
   ·show(r++[y.x]).length≤8
    rw[List.length_append];simp only[List.length_cons,List.length_nil];omega
   ·intro z hz
    rcases List.mem_append.1 hz with hz | hz
    ·exact hwr z hz
    ·rw[List.mem_singleton] at hz;rw[hz];exact h.p y (by rw[hp];exact List.mem_cons_self)
   ·have e1:b2 (true=true∧y.who=w)=b2 (y.who=w):=by unfold b2;simp
    rw[n1,e1]
    unfold cU
    rw[hp,ue];simp only;omega
theorem IQ{d:jB}{r:pz}{w:Int}:cD {d with wait:=d.wait++[r] } w=cD d w+b2 (r.who=w):=by
 unfold cD;rw[List.countP_append];unfold b2;simp[List.countP_cons]
theorem Kl{d:jB}(h:zr d){r:pz}(hx:ff r.x)(hw:cD d r.who=0):zr (d.ask r).2∧ ∀ w,cD (d.ask r).2 w=cD d w+b2 ((d.ask r).1=0∧r.who=w):=by
 cases hb:(decide (r.block<0) || decide ((d.blocks.length:Int)≤r.block)) with
 | true =>
  rw[AA hb]
  exact⟨h,fun w=>by rw[eR (fun h=>d1 h.1)];rfl⟩
 | false =>
  have hn:d.wait.any (fun x=>decide (x.who=r.who))=false:=by
   rw[List.any_eq_false]
   intro x hx e
   have:0<cD d r.who:=List.countP_pos_iff.2 ⟨x,hx,e⟩
   omega
  rw[DT hb hn]
  refine⟨⟨h.l,h.b,fun y hy=>?_⟩,fun w=>?_⟩
  ·rcases List.mem_append.1 hy with hy | hy
   ·exact h.w y hy
   ·rw[List.mem_singleton] at hy
    subst hy
    simp only[Bool.or_eq_false_iff,decide_eq_false_iff_not] at hb
    exact⟨by omega,by show _<(d.blocks.length:Int);omega,hx⟩
  ·rw[IQ]
   have e1:b2 ((0:Int)=0∧r.who=w)=b2 (r.who=w):=by unfold b2;simp
   rw[e1]
theorem IU{l:List (Int×Int)}{n v w:Int}(h:l.countP (fun x=>decide (x.1=n))=0):(mapSet l n v).countP (fun x=>decide (x.1=w))=l.countP (fun x=>decide (x.1=w))+b2 (n=w):=by
 induction l with
 | nil=>unfold mapSet b2;simp[List.countP_cons]
 | cons a l ih =>
  rw[List.countP_cons] at h
  have ha:¬a.1=n:=fun e=>by rw[if_pos (by simpa using e)] at h;omega
  unfold mapSet
  rw[if_neg ha,List.countP_cons,List.countP_cons,ih (by omega)]
  omega
theorem lY{l:List (Int×Int)}{n:Int}(h:l.countP (fun x=>decide (x.1=n))=0):cC l n=none:=by
 unfold cC
 rw[List.find?_eq_none.2]
 ·rfl
 ·intro x hx e
  have:0<l.countP (fun x=>decide (x.1=n)):=List.countP_pos_iff.2 ⟨x,hx,e⟩
  omega
theorem Gp{u:jW}(h:0≤u.now∧u.now≤1099511627776){n x:Int}(hx:1≤x∧x≤1099511627776)(hz:cL u n=0):(0≤(u.sleep n x).2.now∧(u.sleep n x).2.now≤1099511627776)∧ ∀ w,cL (u.sleep n x).2 w=cL u w+b2 (n=w):=by
 unfold jW.sleep
 rw[if_neg (by omega),lY hz,if_neg (by simp)]
 exact⟨h,fun w=>IU hz⟩
section
variable{k:Nat}{s0:Spc}{d:Dng}{p q:List Int}{t:bF}
theorem St.bc(S:St k s0 d t)(ht:d.i.n<(d.s.bx.length:Int)):d.s.bx[d.i.n.toNat]?=some d.bc∧HU d.bc∧d.bc.waits d.n=false:=by
 have hn:=S.I.n
 have h1:d.s.bx[d.i.n.toNat]?=some d.bc:=getD_some (by omega)
 have hm:=List.mem_of_getElem? h1
 refine⟨h1,S.h.ok.tb.2 _ hm,sr ?_⟩
 have h2:cU d.n d.bc≤cT d.s.bx d.n:=dh (f:=cU d.n) hm
 have:=S.zero
 unfold gH at this;omega
theorem St.put(S:St k s0 d t)(ht:d.i.n<(d.s.bx.length:Int)):dL k s0 d.put [] []:=by
 obtain⟨h1,h2,h3⟩:=S.bc ht
 obtain⟨h4,h5⟩:=Kj h2 S.a h3
 unfold Dng.put
 simp only
 split
 ·rename_i hb
  have hg:(d.bc.put d.n d.a).2.2.1=false:=by
   cases hg:d.bc.bz with
   | cons a r=>rw[og h3 hg] at hb;cases hb
   | nil =>
    by_cases hr:(d.bc.words.length:Int)<d.bc.room
    ·rw[lQ h3 hg hr] at hb;cases hb
    ·rw[lR h3 hg hr]
  have h6:=S.h.dM h1 h4 (p':=[]) (q':=[(d.n:Int)]) (fun w=>by
   have:=h5 w
   rw[eR (fun h=>by rw[hg] at h;exact absurd h.1 (by simp))] at this
   have e:b2 ((d.bc.put d.n d.a).1=false∧(d.n:Int)=w)=b2 ((d.n:Int)=w):=by unfold b2;simp[hb]
   rw[e] at this;rw[oE];simp;omega)
  exact h6.block S.ht S.hw S.hn S.hs S.he ⟨by decide,by decide⟩ (by decide)
 ·rename_i hb
  have hb:(d.bc.put d.n d.a).1=true:=by simpa using hb
  have h6:=S.h.dM h1 h4 (p':=if (d.bc.put d.n d.a).2.2.1=true then [(d.bc.put d.n d.a).2.1] else []) (q':=[]) (fun w=>by
   have:=h5 w
   rw[eR (q:=(d.bc.put d.n d.a).1=false∧_) (fun h=>by rw[hb] at h;exact absurd h.1 (by simp))] at this
   rw[xL];simp;omega)
  have h7:=h6.pass S.ht S.hw S.hn (x:=d.i.n) (y:=d.a) (e:=0) (by decide)
  split
  ·rename_i hg
   rw[if_pos hg] at h7
   exact(h7.dW (by simp) S.a (fun _=>⟨S.hs,S.he⟩)).oB (fun w=>by simp)
  ·rename_i hg
   rw[if_neg hg] at h7
   exact h7
theorem St.get(S:St k s0 d t)(ht:d.i.n<(d.s.bx.length:Int)):dL k s0 d.get [] []:=by
 have ho:=S.o
 obtain⟨h1,h2,h3⟩:=S.bc ht
 obtain⟨h4,hW,h5⟩:=Kk h2 h3
 unfold Dng.get
 simp only
 split
 ·rename_i hb
  have hg:(d.bc.get d.n).2.2.2.1=false:=by
   cases hg:d.bc.words with
   | nil=>rw[get_none h3 hg]
   | cons x r =>
    cases hp:d.bc.bN with
    | nil=>rw[mq h3 hg hp]
    | cons y q=>rw[mr h3 hg hp] at hb;cases hb
  have h6:=S.h.dM h1 h4 (p':=[]) (q':=[(d.n:Int)]) (fun w=>by
   have:=h5 w
   rw[eR (fun h=>by rw[hg] at h;exact absurd h.1 (by simp))] at this
   have e:b2 ((d.bc.get d.n).2.1=false∧(d.n:Int)=w)=b2 ((d.n:Int)=w):=by unfold b2;simp[hb]
   rw[e] at this;rw[oE];simp;omega)
  exact h6.block S.ht S.hw S.hn S.hs S.he ⟨by decide,by decide⟩ (by have:=S.I.a;omega)
 ·rename_i hb
  have hb:(d.bc.get d.n).2.1=true:=by simpa using hb
  have h6:=S.h.dM h1 h4 (p':=if (d.bc.get d.n).2.2.2.1=true then [(d.bc.get d.n).2.2.1] else []) (q':=[]) (fun w=>by
   have:=h5 w
   rw[eR (q:=(d.bc.get d.n).2.1=false∧_) (fun h=>by rw[hb] at h;exact absurd h.1 (by simp))] at this
   rw[xL];simp;omega)
  rw[show(d.dM d.i.n.toNat (d.bc.get d.n).2.2.2.2).t=t from bZ S.ht]
  have h8:=h6.own S.ht (t':=t.put d.i.a (d.bc.get d.n).1) (ho.R.put hW) ho.pc rfl rfl rfl rfl rfl
  have h7:=h8.pass (t:=t.put d.i.a (d.bc.get d.n).1) (bS S.ht) S.hw S.hn (x:=d.i.n) (y:=(d.bc.get d.n).1) (e:=0) (by decide)
  split
  ·rename_i hg
   rw[if_pos hg] at h7
   exact(h7.dW (by simp) ⟨by decide,by decide⟩ (fun _=>⟨S.hs,S.he⟩)).oB (fun w=>by simp)
  ·rename_i hg
   rw[if_neg hg] at h7
   exact h7
theorem St.ask(S:St k s0 d t){b y i:Int}(hy:ff y)(hi : -1≤i∧i<8):dL k s0 (d.ask b y i) [] []:=by
 unfold Dng.ask
 simp only
 split
 ·have hz:cD d.s.aN d.n=0:=by have:=S.zero;unfold gH at this;omega
  obtain⟨h1,h2⟩:=Kl S.h.ok.dk (r:=⟨d.n,b,decide (d.i.op=34),y⟩) hy hz
  split
  ·rename_i he
   have h6:=S.h.dv h1 (p':=[]) (q':=[]) (fun w=>by rw[h2 w,eR (fun h=>he h.1)];rfl)
   exact h6.pass S.ht S.hw S.hn D0
  ·rename_i he
   have he:=Decidable.not_not.mp he
   have h6:=S.h.dv h1 (p':=[]) (q':=[(d.n:Int)]) (fun w=>by
    rw[h2 w,oE]
    have e:b2 ((d.s.aN.ask ⟨d.n,b,decide (d.i.op=34),y⟩).1=0∧(d.n:Int)=w)=b2 ((d.n:Int)=w):=by unfold b2;simp[he]
    simp only[e];simp)
   exact h6.block S.ht S.hw S.hn S.hs S.he ⟨by decide,by decide⟩ hi
 ·exact S.pass (by decide)
theorem St.sleep(S:St k s0 d t):dL k s0 d.sleep [] []:=by
 have ha:=S.a
 unfold Dng.sleep
 simp only
 split
 ·exact S.pass (by decide)
 ·split
  ·exact S.pass (by decide)
  ·rename_i h0 h1
   have hz:cL d.s.aA d.n=0:=by have:=S.zero;unfold gH at this;omega
   obtain⟨h2,h3⟩:=Gp S.h.ok.wl (n:=d.n) (x:=d.a) ⟨by have:=ha.1;omega,by omega⟩ hz
   have h6:=S.h.rQ h2 (p':=[]) (q':=[(d.n:Int)]) (fun w=>by rw[h3 w,oE];simp)
   exact h6.block S.ht S.hw S.hn S.hs S.he ⟨by decide,by decide⟩ (by decide)
theorem St.kernel(S:St k s0 d t)(ht:d.i.op=35∨d.i.op=36→d.i.n<(d.s.bx.length:Int)):dL k s0 d.kernel [] []:=by
 have hi:=S.I.a
 unfold Dng.kernel
 split
 ·exact S.ask ⟨by decide,by decide⟩ (by omega)
 split
 ·exact S.ask S.b (by decide)
 split
 ·exact S.put (ht (.inl ‹_›))
 split
 ·exact S.get (ht (.inr ‹_›))
 split
 ·exact S.sleep
 ·exact S.pass (by decide)
theorem dL.more(h:dL k s0 d p q){k':Nat}(hk:k≤k'):dL k' s0 d p q:=⟨h.ok.more hk,h.rd,h.wk,h.rc,h.px⟩
theorem St.call(S:St k s0 d t)(hk:k≤1000000)(ht:d.i.op=35∨d.i.op=36→d.i.n<(d.s.bx.length:Int)):dL (k+1) s0 d.call [] []:=by
 have ho:=S.o
 have up:∀ {e:Dng},dL k s0 e [] []→dL (k+1) s0 e [] []:=fun h=>h.more (Nat.le_succ _)
 unfold Dng.call
 simp only
 split
 ·exact S.spawn hk
 split
 ·rw[bZ S.ht]
  have h1:=S.h.own S.ht (t':=t.put d.i.a t.handle) (ho.R.put ho.R.h) ho.pc rfl rfl rfl rfl rfl
  exact up (h1.pass (t:=t.put d.i.a t.handle) (bS S.ht) S.hw S.hn (by decide))
 split
 ·have h1:=S.pass (x:=0) (y:=0) (e:=0) (by decide)
  exact up ⟨h1.ok,h1.rd,h1.wk,h1.rc,h1.px⟩
 split
 ·exact up S.join
 split
 ·exact up S.cO
 split
 ·exact up (dL.fin (d:=d.tell d.a 0 0 true) (S.h.tell S.ht S.hw S.hn) S.ht S.hw S.hs S.he S.a)
 split
 ·exact up S.mutex
 split
 ·exact up S.signal
 split
 ·exact up S.bX
 ·exact up (S.kernel ht)
end
end Go.SLYtefdijgllbkmfaaGreat
namespace Go.SLYtefdijgllbkmfaaGreat
open Go Go.RowKit
theorem LL:∀ (n:Nat) (l:List Int),(∀ x∈l,0≤x∧x<(n:Int))→(∀ w,l.count w≤1)→l.length≤n
 | 0,l,h,_=>by
  cases l with
  | nil=>exact Nat.le_refl _
  | cons a l=>have:=h a List.mem_cons_self;omega
 | n+1,l,h,hc=>by
  have h1:=LL n (l.filter fun x => !decide (x=(n:Int))) (fun x hx=>by
   obtain⟨a,b⟩:=List.mem_filter.1 hx
   have:=h x a
   have:¬x=(n:Int):=by simpa using b
   omega) (fun w=>Nat.le_trans (List.Sublist.count_le w List.filter_sublist) (hc w))
  have h2:=List.length_eq_countP_add_countP (fun x=>decide (x=(n:Int))) (l:=l)
  have h3:l.countP (fun x=>decide (x=(n:Int)))=l.count (n:Int):=by unfold List.count;congr 1
  rw[← List.countP_eq_length_filter] at h1
  have h4:=hc (n:Int)
  have h5:l.countP (fun x => !decide (x=(n:Int)))=l.countP (fun a=>decide ¬(decide (a=(n:Int)))=true):=by congr 1;funext x;simp
  omega
section
variable{k:Nat}{s:Spc}
theorem oG{α:Type}{f:α→Int}{l:List α}(hl:s.thr.length=16)(h:∀ w,l.countP (fun x=>decide (f x=w))≤dZ s w):l.length≤16:=by
 have e:∀ w,(l.map f).count w=l.countP (fun x=>decide (f x=w)):=fun w=>by
  unfold List.count;rw[List.countP_map];congr 1
 have:=LL 16 (l.map f) (fun x hx=>by
  obtain⟨y,hy,rfl⟩:=List.mem_map.1 hx
  have h1:0<l.countP (fun x=>decide (f x=f y)):=List.countP_pos_iff.2 ⟨y,hy,by simp⟩
  obtain⟨t,ht, -, -⟩:=gI (Nat.lt_of_lt_of_le h1 (h (f y)))
  obtain⟨h0,hat⟩:=fi ht
  have:=(List.getElem?_eq_some_iff.1 hat).1
  exact⟨h0,by omega⟩) (fun w=>by rw[e];exact Nat.le_trans (h w) pP)
 rw[List.length_map] at this;exact this
theorem ke{w:Int}(h:0<dZ s w):0≤w∧ ∃ u,s.thr[w.toNat]?=some (some u):=by
 obtain⟨t,ht, -, -⟩:=gI h
 exact⟨(fi ht).1,t,(fi ht).2⟩
theorem IV{p:eB}(hc:((((((((((0<p.funcs.length∧p.funcs.length≤8)∧0≤p.words∧p.words≤64)∧0≤p.ay∧p.ay≤4)∧0≤p.conds∧p.conds≤4)∧0≤p.blocks∧p.blocks≤64)∧0≤p.prio∧p.prio≤7)∧p.aT.length≤4)∧p.aC.length≤4)∧(p.funcs.all fun f=>decide (f.length≤256))=true)∧(p.aT.all fun n=>decide (0≤n) && decide (n≤1048576))=true)∧(p.aC.all fun n=>decide (0<n) && (decide (0≤n) && decide (n≤8)))=true){op:Int}(h:¬op=1):(aQ p op).any=false∧(aQ p op).n≤1000:=by
 unfold aQ
 rw[if_neg h]
 repeat' split
 all_goals exact⟨rfl,by simp only;omega⟩
theorem Em{p:eB}(hc:ei p=true){i:Ins}(h:ey p i=true)(hn:ff i.n):ja i∧(cls i.op≠1→i.n≤1099511627776)∧(i.op=35∨i.op=36→i.n<(p.aC.length:Int)):=by
 unfold ei at hc
 simp only[Bool.and_eq_true,decide_eq_true_eq,within] at hc
 unfold ey at h
 split at h
 ·cases h
 ·rename_i hcl
  simp only[Bool.and_eq_true] at h
  obtain⟨⟨⟨h1,h2⟩,h3⟩,h4⟩:=h
  have hr:∀ {n:Int} {b:Bool},lI n b=true→0≤n∧n<8:=fun h=>by
   simp[lI] at h;omega
  refine⟨⟨hr h1,hr h2,?_,hn,fun hj=>?_⟩,fun hc1=>?_,fun ho=>?_⟩
  ·split at h3
   ·simp at h3;omega
   ·exact hr h3
  ·unfold Form.below at h4
   rcases hj with hj | hj
   ·rw[show aQ p i.op=⟨0,false,257,false⟩ from by unfold aQ;repeat (first | rw[if_pos (by omega)] | rw[if_neg (by omega)])] at h4
    simp at h4;omega
   ·rw[show aQ p i.op=⟨1,false,257,false⟩ from by unfold aQ;repeat (first | rw[if_pos (by omega)] | rw[if_neg (by omega)])] at h4
    simp at h4;omega
  ·have hn1:¬i.op=1:=fun e=>hc1 (by unfold cls;rw[if_pos (by omega)])
   obtain⟨g1,g2⟩:=IV hc hn1
   unfold Form.below at h4
   rw[g1] at h4
   simp at h4
   split at h4
   ·omega
   ·have:=(by simpa using h4:_∧_).2
    omega
  ·unfold Form.below at h4
   rw[show aQ p i.op=⟨1,false,p.aC.length,false⟩ from by unfold aQ;repeat (first | rw[if_pos (by omega)] | rw[if_neg (by omega)])] at h4
   simp at h4
   exact h4.2
theorem Ok.Ao(h:Ok k s [] [])(hk:k≤1000000)(hr:s.au.length≤800000000):ig s:=by
 have hcap:ei s.dG=true:=by
  have:=h.yK.1;unfold cK at this
  split at this
  ·assumption
  ·cases this
 have hall:∀ f∈s.dG.funcs, ∀ i∈f,ey s.dG i=true:=by
  have:=h.yK.1;unfold cK at this
  rw[if_pos hcap] at this
  split at this
  ·rename_i ha
   intro f hf i hi
   have:=List.all_eq_true.1 (List.all_eq_true.1 ha f hf) i hi
   exact this
  ·cases this
 have hc:=hcap
 unfold ei at hc
 simp only[Bool.and_eq_true,decide_eq_true_eq,within,List.all_eq_true] at hc
 obtain⟨⟨⟨⟨⟨⟨⟨⟨⟨⟨⟨c1,c2⟩,c3⟩,c4⟩,c5⟩,c6⟩,c7⟩,c8⟩,c9⟩,c10⟩,c11⟩,c12⟩:=hc
 have hbal:∀ w,gH s w=dZ s w:=fun w=>by have:=h.oB w;simpa using this
 have bG:∀ w,cG s.ag w≤dZ s w:=fun w=>by have:=hbal w;unfold gH at this;omega
 have bU:∀ w,cT s.bx w≤dZ s w:=fun w=>by have:=hbal w;unfold gH at this;omega
 have bD:∀ w,cD s.aN w≤dZ s w:=fun w=>by have:=hbal w;unfold gH at this;omega
 have bL:∀ w,cL s.aA w≤dZ s w:=fun w=>by have:=hbal w;unfold gH at this;omega
 have hm:∀ x∈s.ag.aD,x.wait.length≤16:=fun x hx=>oG (f:=fun y:dc=>y.who) h.lt fun w=>by
  have:=dh (f:=fun m:dt=>dj w m.wait) hx
  have:=bG w
  have e:x.wait.countP (fun y=>decide (y.who=w))=dj w x.wait:=rfl
  unfold cG at this;omega
 have hcn:∀ x∈s.ag.bm,x.length≤16:=fun x hx=>oG (f:=fun y:dc=>y.who) h.lt fun w=>by
  have:=dh (f:=dj w) hx
  have:=bG w
  have e:x.countP (fun y=>decide (y.who=w))=dj w x:=rfl
  unfold cG at this;omega
 have hsm:∀ x∈s.ag.bX,x.wait.length≤16:=fun x hx=>oG (f:=fun y:dc=>y.who) h.lt fun w=>by
  have:=dh (f:=fun m:jr=>dj w m.wait) hx
  have:=bG w
  have e:x.wait.countP (fun y=>decide (y.who=w))=dj w x.wait:=rfl
  unfold cG at this;omega
 have hug:∀ u∈s.bx, ∀ w,u.bz.count w≤dZ s w∧u.bN.countP (fun x=>decide (x.who=w))≤dZ s w:=fun u hu w=>by
  have h1:cU w u≤cT s.bx w:=dh (f:=cU w) hu
  have h2:=bU w
  unfold cU at h1;exact⟨by omega,by omega⟩
 have hd16:s.aN.wait.length≤16:=oG (f:=fun r:pz=>r.who) h.lt bD
 have hw16:s.aA.dV.length≤16:=oG (f:=fun r:Int×Int=>r.1) h.lt bL
 refine⟨h.lt,⟨by rw[h.ll];decide,fun o ho=>?_⟩,fun n t e=>⟨(h.th n t e).R,(h.th n t e).pc⟩,fun x m e=>pS (d:=⟨s,0,⟨0,0,0,0,0⟩,0,iY.z,[]⟩) h x m e,fun n e=>?_,fun n t ht hw hj=>?_,hr,by rw[h.me.1];omega,⟨by rw[h.gt.m];omega,by rw[h.gt.c];omega,by rw[h.gt.s];omega,fun x hx=>Nat.le_trans (hm x hx) (by decide),fun x hx=>Nat.le_trans (hcn x hx) (by decide),fun x hx=>Nat.le_trans (hsm x hx) (by decide)⟩,h.gt.sc,h.gt.cm,fun w hw=>ke ?_,by rw[h.gt.m];omega,⟨fun x hx=>Nat.le_trans (hm x hx) (by decide),fun x hx=>Nat.le_trans (hcn x hx) (by decide)⟩,fun f hf i hi=>?_,⟨by omega,fun f hf=>c10 f hf⟩,fun u hu=>?_,fun u hu=>⟨fun w hw=>ke ?_,fun x hx=>ke ?_⟩,fun u hu=>(h.tb.2 u hu).w,by omega,fun r hr=>?_,fun r hr=>ke ?_,h.wl,by omega,fun x hx=>ke ?_⟩
 ·have:=h.tk o ho;omega
 ·obtain⟨o,ho,hb⟩:∃ o,s.table[n]?=some o∧o.1=false:=by
   have hfr:∀ (l:List (Bool×Int)) (i n:Nat),slotFree? l i=some n→i≤n∧ ∃ o,l[n-i]?=some o∧o.1=false:=by
    intro l
    induction l with
    | nil=>intro i n h;cases h
    | cons o l ih =>
     intro i n h
     unfold slotFree? at h
     split at h
     ·obtain⟨a,o',b,c⟩:=ih (i+1) n h
      exact⟨by omega,o',by rw[show n-i=(n-(i+1))+1 from by omega];simpa using b,c⟩
     ·cases h;rename_i hb
      exact⟨Nat.le_refl _,o,by simp,by simpa using hb⟩
   obtain⟨-,o,ho,hb⟩:=hfr _ _ _ e
   exact⟨o,by simpa using ho,hb⟩
  have hn:n<16:=h.ll ▸ (List.getElem?_eq_some_iff.1 ho).1
  obtain⟨x,hx⟩:=aB (show n<s.thr.length by rw[h.lt];exact hn)
  cases x with
  | none=>exact hx
  | some t =>
   have:=(h.us n hn).2 ⟨t,hx⟩
   rw[List.getD_eq_getElem?_getD,ho,show(Option.getD (some o) (false,(0:Int)))=o from rfl,hb] at this
   cases this
 ·have h1:1≤cJ s.thr t.ar:=by
   have:jn t.ar (some t)=1:=by rw[gk];exact if_pos ⟨rfl,hj⟩
   have h2:jn t.ar (some t)≤cJ s.thr t.ar:=dh (f:=jn t.ar) (List.mem_of_getElem? ht)
   omega
  have h2:=hbal t.ar
  obtain⟨u,hu,hu0,hu9⟩:=gI (s:=s) (w:=t.ar) (by unfold gH at h2;omega)
  obtain⟨h0,hat⟩:=fi hu
  exact⟨h0,fun e=>by rw[e,ht] at hat;cases hat;exact hu0 hw,u,hat⟩
 ·refine Nat.lt_of_lt_of_le ?_ (bG w)
  unfold cG
  rcases hw with ⟨x,hx,y,hy,rfl⟩ | ⟨x,hx,y,hy,rfl⟩ | ⟨x,hx,y,hy,rfl⟩
  ·have h1:=dh (f:=fun m:dt=>dj y.who m.wait) hx
   have h2:0<dj y.who x.wait:=List.countP_pos_iff.2 ⟨y,hy,by simp[Ec]⟩
   omega
  ·have h1:=dh (f:=dj y.who) hx
   have h2:0<dj y.who x:=List.countP_pos_iff.2 ⟨y,hy,by simp[Ec]⟩
   omega
  ·have h1:=dh (f:=fun m:jr=>dj y.who m.wait) hx
   have h2:0<dj y.who x.wait:=List.countP_pos_iff.2 ⟨y,hy,by simp[Ec]⟩
   omega
 ·have:=Em hcap (hall f hf i hi) (h.yK.2 f hf i hi)
  rw[h.tb.1];exact this
 ·have h1:=h.tb.2 u hu
  exact⟨Nat.le_trans h1.l (by decide),Nat.le_trans (oG (f:=fun x:Ptr=>x.who) h.lt fun w=>(hug u hu w).2) (by decide),Nat.le_trans (oG (f:=fun x:Int=>x) h.lt fun w=>by
   have:=(hug u hu w).1
   have e:u.bz.countP (fun x=>decide (x=w))=u.bz.count w:=by unfold List.count;congr 1
   omega) (by decide)⟩
 ·exact Nat.lt_of_lt_of_le (List.count_pos_iff.2 hw) (hug u hu w).1
 ·exact Nat.lt_of_lt_of_le (List.countP_pos_iff.2 ⟨x,hx,by simp⟩) (hug u hu x.who).2
 ·have:=h.dk.w r hr;exact⟨this.1,this.2.1⟩
 ·exact Nat.lt_of_lt_of_le (List.countP_pos_iff.2 ⟨r,hr,by simp⟩) (bD r.who)
 ·exact Nat.lt_of_lt_of_le (List.countP_pos_iff.2 ⟨x,hx,by simp⟩) (bL x.1)
end
end Go.SLYtefdijgllbkmfaaGreat
