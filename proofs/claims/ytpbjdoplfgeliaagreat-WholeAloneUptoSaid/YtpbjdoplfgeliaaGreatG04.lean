/- Walks of functions, and what they compute. Conditions: none, this text proves no statement. -/
import Derived.Test.YtpbjdoplfgeliaaGreatG03
import Derived.Laws.FloatBits
namespace Go.SLYtpbjdoplfgeliaaGreat
open Go Go.RowKit
def ed(b p:Nat)(d:Dng)(vw ve:Value):List Value:=[ptr b,.int .i64 (d.n:Int),ptr p,.int .i64 d.i.op,.int .i64 d.i.a,.int .i64 d.i.b,.int .i64 d.i.c,.int .u64 d.i.n,.int .i64 d.choice,vw,.bool d.out.aQ,.bool d.out.ended,.bool d.out.yielded,ve]
def bo(bd b p:Nat)(ps:List (Option Nat))(d:Dng):aa:=nK (fun _ _=>True) fun vw ve=>[arr bd 0 (ed b p d vw ve),sl av 1 vw d.out.ar,sl cW 6 ve d.ends,cE b ps d.s]
def OJ(bd b p:Nat)(d:Dng):aa:=iS (fun _=>True) fun ps=>[bo bd b p ps d]
def nU(v:Value)(e:kP):List Value:=[v,.bool e.aQ,.bool e.ended,.bool e.yielded]
theorem bM{ps:List (Option Nat)}{ts:List (Option bE)}{n p:Nat}{t:bE}(hp:ps[n]?=some (some p))(ht:ts[n]?=some (some t)):∀ h,ay ps ts h→seps [arr p 0 (bc t),ay (ps.set n none) (ts.set n none)] h:=fun h a=>by
 obtain⟨q,hq,a'⟩:=l7 ht h a
 rw[hp] at hq;cases hq
 exact jC.2 a'
theorem bI{ps:List (Option Nat)}{ts:List (Option bE)}{n p:Nat}{t:bE}(hp:ps[n]?=some (some p))(ht:ts[n]?=some (some t)):∀ h,seps [arr p 0 (bc t),ay (ps.set n none) (ts.set n none)] h→ay ps ts h:=fun h a=>by
 have:=cA (List.getElem?_eq_some_iff.1 ht).1 hp h a
 rwa [fy ht] at this
theorem m4{t:bE}:∀ {n:Nat} (_:n<8),(bc t)[2+n * 1]?=some (.int .u64 (t.aE.getD n 0))
 | 0,_=>rfl
 | 1,_=>rfl
 | 2,_=>rfl
 | 3,_=>rfl
 | 4,_=>rfl
 | 5,_=>rfl
 | 6,_=>rfl
 | 7,_=>rfl
 | n+8,h=>absurd h (by omega)
theorem GO{fn pc handle cQ value ax op bZ:Int}{det:Bool}{a0 a1 a2 a3 a4 a5 a6 a7:Int}(x:Int):∀ {n:Nat} (_:n<8),(bc ⟨fn,pc,[a0,a1,a2,a3,a4,a5,a6,a7],handle,cQ,value,det,ax,op,bZ⟩).set (2+n * 1) (.int .u64 x)=bc ⟨fn,pc,[a0,a1,a2,a3,a4,a5,a6,a7].set n x,handle,cQ,value,det,ax,op,bZ⟩
 | 0,_=>rfl
 | 1,_=>rfl
 | 2,_=>rfl
 | 3,_=>rfl
 | 4,_=>rfl
 | 5,_=>rfl
 | 6,_=>rfl
 | 7,_=>rfl
 | n+8,h=>absurd h (by omega)
theorem rW{t:bE}(x:Int){n:Nat}(hn:n<8)(hl:t.aE.length=8):(bc t).set (2+n * 1) (.int .u64 x)=bc (t.put (n:Int) x):=by
 obtain⟨fn,pc,aE,handle,cQ,value,det,ax,op,bZ⟩:=t
 match aE,hl with
 | [a0,a1,a2,a3,a4,a5,a6,a7],_=>exact GO x hn
theorem jw{t:bE}(x:Int){i:Int}(h0:0≤i)(hn:i<8)(hl:t.aE.length=8):(bc t).set (2+i.toNat * 1) (.int .u64 x)=bc (t.put i x):=by
 rw[rW x (by omega) hl,show((i.toNat:Nat):Int)=i from by omega]
theorem o0(t:bE)(x:Int):(bc t).set 11 (.int .i64 x)=bc {t with cQ:=x }:=rfl
theorem Eg(t:bE)(x:Int):(bc t).set 12 (.int .u64 x)=bc {t with value:=x }:=rfl
theorem Jx(t:bE)(x:Bool):(bc t).set 13 (.bool x)=bc {t with bK:=x }:=rfl
theorem Bu(t:bE)(x:Int):(bc t).set 14 (.int .i64 x)=bc {t with ax:=x }:=rfl
theorem Ly(t:bE)(x:Int):(bc t).set 15 (.int .i64 x)=bc {t with op:=x }:=rfl
theorem tz(t:bE)(x:Int):(bc t).set 16 (.int .i64 x)=bc {t with bZ:=x }:=rfl
theorem jL{t:bE}{i x:Int}:(t.put i x).aE.length=t.aE.length:=by unfold bE.put;simp
section
variable{fv sv pv:Value}{p:fc}{bt:Nat}{ps:List (Option Nat)}{vm:Value}{bg:Nat}{vt:Value}{bk bw:Nat}{vr u:Value}
theorem pd:(fo fv sv pv p bt ps vm bg vt bk bw vr).set 30 u=fo fv sv pv p bt ps vm bg vt bk bw u:=rfl
theorem xY:(fo fv sv pv p bt ps vm bg vt bk bw vr).set 25 u=fo fv sv pv p bt ps u bg vt bk bw vr:=rfl
end
structure gV(t:bE):Prop where
 l:t.aE.length=8
 r:∀ n,0≤t.aE.getD n 0∧t.aE.getD n 0≤18446744073709551615
 i : -1≤t.bZ∧t.bZ<8
 v:0≤t.value∧t.value≤18446744073709551615
 h:0≤t.handle∧t.handle≤18446744073709551615
theorem dQ{s:Spc}{n:Nat}{t:bE}(h:s.aG[n]?=some (some t)):s.t n=t:=by unfold Spc.t;rw[List.getD_eq_getElem?_getD,h];rfl
theorem dj{d:Dng}{t:bE}(h:d.s.aG[d.n]?=some (some t)):d.t=t:=dQ h
def xZ(ps:List (Option Nat))(n:Int):Option Nat:=if 0≤n∧n<16 then ps.getD n.toNat none else none
theorem CR{t:bE}{y:Int}(t1:bE)(h:t1=if t.bZ = -1 then t else t.put t.bZ y):t.fu y = {t1.put 7 0 with cQ:=0,bZ := -1 }:=by unfold bE.fu;rw[h]
section
variable{P:Program}{W:World}{N:Nat}{T:TypeId}{L:List (Nat×Option Value)}{H:List aa}{α:Type}
theorem af.Jy{E:TypeId}{x y:Operand}{pos:String}{after:Array Edge}{guard:Option (Nat×Bool)}{b o:Nat}{v:Value}{vs cs:List Value}{H':List aa}{enc:α→List Value}{k:Nat}{xs:List α}(hz:∀ w,(sizeOf E).run P w = .ok (vs.length+1) w)(hx:ev L x=some (.pointer (some ⟨b,o,none⟩)))(hy:ev L y=some (.agg (v::vs).toArray))[hv:aA W H v enc k xs](hvs:vs.all (·.oneCell')=true)
  [_h0:bY H b o cs] [hr:cI H b o cs (v::vs) H'] (hi:cs.length=vs.length+1) :
  af P W N ⟨none,.store E x y,T,pos,after,guard⟩ L H (fun L1 H1=>L1=L∧H1=H'):=fun a w ha hs Kp hK=>af.storeAll hx hy hz (fun c hc=>by
   rcases List.mem_cons.1 hc with rfl | hc
   ·exact hv.rd.one w hs
   ·exact List.all_eq_true.1 hvs c hc) hr.oI hi a w ha hs Kp hK
end
end Go.SLYtpbjdoplfgeliaaGreat
namespace Go.SLYtpbjdoplfgeliaaGreat
open Go Go.RowKit
def bN(ps:List (Option Nat))(s:Spc)(n:Nat):Prop:=n<16∧ ∃ q t,ps[n]?=some (some q)∧s.aG[n]?=some (some t)∧gV t
theorem Eh{b p:Nat}{d:Dng}{vw ve:Value}:(ed b p d vw ve).set 11 (.bool true)=ed b p d.ended vw ve:=rfl
theorem Jz{b p:Nat}{d:Dng}{vw ve:Value}:(ed b p d vw ve).set 12 (.bool true)=ed b p {d with out:={d.out with yielded:=true } } vw ve:=rfl
theorem fA{s:Spc}{n m:Nat}{t t':bE}(h:s.aG[m]?=some (some t))(hne:n≠m):(s.aV n t').aG[m]?=some (some t):=by
 unfold Spc.aV;simp only;rw[List.getElem?_set_ne hne];exact h
theorem dp{s:Spc}{n:Nat}{t t':bE}(h:s.aG[n]?=some (some t)):(s.aV n t').aG[n]?=some (some t'):=by
 unfold Spc.aV;simp only;exact List.getElem?_set_self (List.getElem?_eq_some_iff.1 h).1
theorem GP{d:Dng}{n:Nat}{y:Int}{m:Nat}{t:bE}(h:d.s.aG[m]?=some (some t))(hne:n≠m):(d.ck n y).s.aG[m]?=some (some t):=fA h hne
theorem CS{d:Dng}{t:bE}{v:Int}(ht:d.s.aG[d.n]?=some (some t))(h:t.bK=true):d.fin v=d.ended.free d.n:=by
 unfold Dng.fin;rw[dj ht,if_pos h]
theorem zH{d:Dng}{t:bE}{v:Int}(ht:d.s.aG[d.n]?=some (some t))(h:t.bK=false)(hj:t.ax = -1):d.fin v=d.ended.aV {t with cQ:=9,value:=v }:=by
 unfold Dng.fin;rw[dj ht,if_neg (by rw[h];simp),if_pos hj]
theorem zI{d:Dng}{t:bE}{v:Int}(ht:d.s.aG[d.n]?=some (some t))(h:t.bK=false)(hj:¬t.ax = -1):d.fin v=(d.ended.ck t.ax.toNat v).free d.n:=by
 unfold Dng.fin;rw[dj ht,if_neg (by rw[h];simp),if_neg hj]
theorem tA{t:bE}{f:iP}:setFrom (bc t) 0 (iM f)=bc (t.nO f):=rfl
theorem kS{f:iP}{m:List Int}{i:Ins}{z:iP×List Int}(h:lV f m i=some z):fU f m i=(z.1,z.2,0):=by unfold fU;rw[h]
theorem tB{f:iP}{m:List Int}{i:Ins}(h:lV f m i=none):fU f m i=(iP.z,[],6):=by unfold fU;rw[h]
theorem nV{f:iP}{m:List Int}{i:Ins}(h:(fU f m i).2.2=0):∃ z,lV f m i=some z:=by
 unfold fU at h
 cases e:lV f m i with
 | none=>rw[e] at h;cases h
 | some z=>exact⟨z,rfl⟩
theorem qo{f:iP}{m:List Int}{i:Ins}(h:¬(fU f m i).2.2=0):lV f m i=none:=by
 cases e:lV f m i with
 | none=>rfl
 | some z=>rw[kS e] at h;exact absurd rfl h
theorem GQ{f:iP}{m:List Int}{i:Ins}(h:lV f m i=none):i.op=18∨i.op=19:=by
 unfold lV at h
 repeat' split at h
 all_goals first | (cases h;done) | omega
theorem GR{f:iP}{m:List Int}{i:Ins}{z:iP×List Int}(h:lV f m i=some z)(ho:i.op=18):f.tm i.b<m.length:=by
 unfold lV at h
 rw[if_neg (by omega),if_neg (by omega),if_neg (by omega),if_pos ho] at h
 split at h
 ·assumption
 ·cases h
def Dng.told(d:Dng):Dng:=if d.i.op=18 then d.tell d.b (d.s.mem.getD d.b.toNat 0) 0 true else if d.i.op=19 then d.tell d.a d.b 0 true else d
theorem jM{d:Dng}{t:bE}{z:iP×List Int}(ht:d.s.aG[d.n]?=some (some t))(h:lV t.m3 d.s.mem d.i=some z):d.plain = {d.told with s:={d.told.s.aV d.n (t.nO z.1) with mem:=z.2 } }:=by
 unfold Dng.plain;rw[dj ht,h];rfl
theorem mj{d:Dng}{t:bE}(ht:d.s.aG[d.n]?=some (some t))(h:lV t.m3 d.s.mem d.i=none):d.plain=(if d.i.op=18 then d.tell d.b 0 6 true else d.tell d.a d.b 6 true).fin 18446744073709551615:=by
 unfold Dng.plain;rw[dj ht,h]
theorem tC{d:Dng}{h:Int}(e:bz d.s.table h=none):d.other h=(0,3):=by unfold Dng.other;rw[e]
theorem kT{d:Dng}{h:Int}{n:Nat}{t:bE}(e:bz d.s.table h=some n)(ht:d.s.aG[n]?=some (some t))(hn:n=d.n∨t.bK=true):d.other h=(0,3):=by unfold Dng.other;rw[e];simp only;rw[dQ ht,if_pos hn]
theorem tD{d:Dng}{h:Int}{n:Nat}{t:bE}(e:bz d.s.table h=some n)(ht:d.s.aG[n]?=some (some t))(hn:¬(n=d.n∨t.bK=true))(hj:t.ax = -1):d.other h=(n,0):=by unfold Dng.other;rw[e];simp only;rw[dQ ht,if_neg hn,if_pos hj]
theorem nW{d:Dng}{h:Int}{n:Nat}{t:bE}(e:bz d.s.table h=some n)(ht:d.s.aG[n]?=some (some t))(hn:¬(n=d.n∨t.bK=true))(hj:¬t.ax = -1):d.other h=(0,4):=by unfold Dng.other;rw[e];simp only;rw[dQ ht,if_neg hn,if_neg hj]
section
variable{P:Program}{W:World}{N:Nat}{Q:Exit→Act→World→Prop}{O:Array Oper}{L:List (Nat×Option Value)}{H K:List aa}
theorem bB.Lz{ks rest:List Nat}{i:Nat}{E T:TypeId}{x y:Operand}{pos:String}{after:Array Edge}{b o:Nat}{vs cs:List Value}{H':List aa}(ho:O[i]?=some ⟨none,.store E x y,T,pos,after,none⟩)(hk:ks.getD i 1=2)
  (hz:∀ w,(sizeOf E).run P w = .ok vs.length w) (hx:ev L x=some (.pointer (some ⟨b,o,none⟩))) (hy:ev L y=some (.agg vs.toArray)) (hv:vs.all (·.oneCell')=true) [_h0:bY H b o cs] [hr:cI H b o cs vs H'] (hi:cs.length=vs.length)
  (hK:∀ w,Sat W w (seps H)→Sat W w (seps K)) (hK':∀ w,Sat W w (seps H')→Sat W w (seps K)) (h:bB P W N K O Q ks rest L H'):bB P W N K O Q ks (i::rest) L H :=
 bB.d (X:=Unit) (Lx:=fun _=>L) (Hx:=fun _=>H') ho rfl (.inl hk) (fun _=>hK) (fun E=>(by
  intro a w ha hs Kp hK
  exact af.storeAll hx hy hz (List.all_eq_true.1 hv) (gp.app E hr.oI) hi a w ha hs Kp (fun L1 H1 ⟨e1,e2⟩=>hK L1 H1 ⟨(),e1,e2⟩))) (fun _ _=>hK') (fun _=>h)
end
end Go.SLYtpbjdoplfgeliaaGreat
namespace Go.SLYtpbjdoplfgeliaaGreat
open Go Go.RowKit
theorem tE{α:Type}{f:α→aa}{xs:List α}{i:Nat}{x:α}(h:xs[i]?=some x):∀ g,aF f xs g→seps [f x,aF f (xs.eraseIdx i)] g:=fun g a=>by rw[jk f h] at a;exact jC.2 a
theorem ya{v:Value}{l:List Tub}{xs:List (Nat×Tub)}{i:Nat}{x:Nat×Tub}(hx:xs[i]?=some x)(hxs:xs.map (·.2)=l)(u:Tub):∀ h,seps [sl bP 1 v xs,iz x.1 u,aF (fun x:Nat×Tub=>iz x.1 x.2) (xs.eraseIdx i)] h→oJ v (l.set i u) h:=fun h a=>by
 refine⟨xs.set i (x.1,u),by show(xs.set i (x.1,u)).map (·.2)=_;rw[List.map_set,hxs],?_⟩
 have hi:=(List.getElem?_eq_some_iff.1 hx).1
 rw[jC,gK _ _ hi]
 exact ba (fun g b=>oQ (x':=(x.1,u)) hi rfl g (xO hx g b)) (fun g b=>jC.1 b) h a
theorem bN.aV{ps:List (Option Nat)}{s:Spc}{n m:Nat}{t:bE}(h:bN ps s m)(ht:gV t):bN ps (s.aV n t) m:=by
 obtain⟨hm,q,u,hq,hu,hR⟩:=h
 rcases Decidable.em (n=m) with rfl | hne
 ·exact⟨hm,q,t,hq,dp hu,ht⟩
 ·exact⟨hm,q,u,hq,fA hu hne,hR⟩
theorem bN.of{ps:List (Option Nat)}{s s':Spc}{m:Nat}(h:bN ps s m)(e:s'.aG=s.aG):bN ps s' m:=by
 obtain⟨hm,q,u,hq,hu,hR⟩:=h
 exact⟨hm,q,u,hq,by rw[e];exact hu,hR⟩
theorem pe{l:List Int}{i n:Nat}{x:Int}(hx:0≤x∧x≤18446744073709551615)(h:∀ n,0≤l.getD n 0∧l.getD n 0≤18446744073709551615):0≤(l.set i x).getD n 0∧(l.set i x).getD n 0≤18446744073709551615:=by
 have hn:=h n
 rw[List.getD_eq_getElem?_getD] at hn ⊢
 rw[List.getElem?_set]
 split
 ·split
  ·exact hx
  ·exact⟨Int.le_refl _,by decide⟩
 ·exact hn
theorem gV.put{t:bE}(h:gV t){i x:Int}(hx:0≤x∧x≤18446744073709551615):gV (t.put i x):=⟨by rw[jL];exact h.l,fun n=>pe hx h.r,h.i,h.v,h.h⟩
theorem gV.with{t:bE}(h:gV t){a b c:Int}(hc : -1≤c∧c<8):gV {t with cQ:=a,op:=b,bZ:=c }:=⟨h.l,h.r,hc,h.v,h.h⟩
def Gates.has(g:Gates)(w:Int):Prop:=(∃ x∈g.dn, ∃ y∈x.wait,y.who=w)∨(∃ r∈g.hD, ∃ y∈r,y.who=w)∨(∃ x∈g.et, ∃ y∈x.wait,y.who=w)
structure iN(ps:List (Option Nat))(d:Dng)(t:bE):Prop where
 nb:d.n<16
 R:gV t
 lt:d.s.aG.length=16
 lp:ps.length=16
 T:jm d.s.table
 slot:∀ h m,bz d.s.table h=some m→bN ps d.s m
 free:∀ n,slotFree? d.s.table 0=some n→d.s.aG[n]?=some none
 join:¬t.ax = -1→0≤t.ax∧t.ax.toNat≠d.n∧bN ps d.s t.ax.toNat
 I:nz d.i
 nn:d.i.n≤1099511627776
 au:d.s.au.length≤900000000
 ends:d.ends.length≤500000
 AY:d.out.ar.length≤500000
 mem:d.s.mem.length≤1000000
 gl:gP d.s.al
 JE:∀ x∈d.s.al.et,0≤x.count∧x.count≤1048576
 JF:∀ r∈d.s.al.hD, ∀ w∈r,0≤w.mutex∧w.mutex<(d.s.al.dn.length:Int)
 iR:∀ w,d.s.al.has w→0≤w∧bN ps d.s w.toNat
 JG:d.s.eW.bu≤(d.s.al.dn.length:Int)
 BG:(∀ x∈d.s.al.dn,x.wait.length≤400000)∧ ∀ r∈d.s.al.hD,r.length≤400000
 Ny:(d.i.op=35∨d.i.op=36)→d.i.n<(d.s.cf.length:Int)
 tl:∀ u∈d.s.cf,tv u
 zU:∀ u∈d.s.cf,(∀ w∈u.gM,0≤w∧bN ps d.s w.toNat)∧(∀ x∈u.hM,0≤x.who∧bN ps d.s x.who.toNat)
 tw:∀ u∈d.s.cf, ∀ w∈u.words,0≤w∧w≤18446744073709551615
 dw:d.s.ca.wait.length≤1000000
 wn:0≤d.s.aS.now∧d.s.aS.now≤1099511627776
theorem tF{ps:List (Option Nat)}{d:Dng}{h:Int}(hs:∀ n,bz d.s.table h=some n→bN ps d.s n)(e:(d.other h).2=0) :
  ∃ m q u,bz d.s.table h=some m∧(d.other h).1=m∧m≠d.n∧m<16∧ps[m]?=some (some q)∧d.s.aG[m]?=some (some u)∧gV u∧u.bK=false∧u.ax = -1:=by
 cases hf:bz d.s.table h with
 | none=>rw[tC hf] at e;cases e
 | some m =>
  obtain⟨hm,q,u,hq,hu,hR⟩:=hs m hf
  by_cases h1:m=d.n∨u.bK=true
  ·rw[kT hf hu h1] at e;cases e
  ·by_cases h2:u.ax = -1
   ·exact⟨m,q,u,rfl,by rw[tD hf hu h1 h2],fun h=>h1 (.inl h),hm,hq,hu,hR,by cases hd:u.bK with | false=>rfl | true=>exact absurd (.inr hd) h1,h2⟩
   ·rw[nW hf hu h1 h2] at e;cases e
theorem pf{d:Dng}{h:Int}:0≤(d.other h).2∧(d.other h).2≤11:=by
 unfold Dng.other
 repeat' split
 all_goals (dsimp only;omega)
theorem GS{d:kG}{r:vQ}:0≤(d.ask r).1∧(d.ask r).1≤11:=by
 unfold kG.ask
 repeat' split
 all_goals (dsimp only;omega)
theorem CT{g:Gates}{w m:Int}:0≤(g.lock w m).2.1∧(g.lock w m).2.1≤11:=by
 unfold Gates.lock
 repeat' split
 all_goals (dsimp only;omega)
theorem qp{g:Gates}{w m c:Int}:0≤(g.unlock w m c).2.2.1∧(g.unlock w m c).2.2.1≤11:=by
 unfold Gates.unlock
 repeat' split
 all_goals (dsimp only;omega)
theorem CU{g:Gates}{w c m ch:Int}:0≤(g.wait w c m ch).2.2.1∧(g.wait w c m ch).2.2.1≤11:=by
 unfold Gates.wait
 repeat' split
 all_goals (dsimp only;omega)
theorem GU{g:Gates}{s c:Int}:0≤(g.up s c).2.2.1∧(g.up s c).2.2.1≤11:=by
 unfold Gates.up
 repeat' split
 all_goals (dsimp only;omega)
theorem CV{g:Gates}{w s:Int}:0≤(g.down w s).2.1∧(g.down w s).2.1≤11:=by
 unfold Gates.down
 repeat' split
 all_goals (dsimp only;omega)
theorem ic{g:Gates}{c ch:Int}{a:Bool}:0≤(g.signal c ch a).2.1∧(g.signal c ch a).2.1≤11:=by
 unfold Gates.signal
 repeat' split
 all_goals (dsimp only;omega)
theorem qq{l:List eV}{c:Int}(h:(aN l c).2.1=true):(aN l c).1∈l:=by
 by_cases h0:l.length=0
 ·rw[xR h0] at h;cases h
 ·exact(kc h0).1
theorem tG{g:Gates}{w m c:Int}(h:(g.unlock w m c).2.1=true):g.has (g.unlock w m c).1:=by
 unfold Gates.unlock at h ⊢
 split
 ·rename_i e;rw[e] at h;cases h
 ·rename_i x e
  rw[e] at h;simp only at h ⊢
  split
  ·rename_i hi;rw[if_pos hi] at h
   exact .inl ⟨x,List.mem_of_getElem? (bQ e).2.2,_,qq h,rfl⟩
  ·rename_i hi;rw[if_neg hi] at h;cases h
theorem zJ{g:Gates}{w c m ch:Int}(h:(g.wait w c m ch).2.1=true):g.has (g.wait w c m ch).1:=by
 unfold Gates.wait at h ⊢
 split
 ·rename_i x r e1 e2
  rw[e1,e2] at h;simp only at h ⊢
  repeat' split at h
  all_goals first | (cases h;done) | skip
  rename_i h1 h2
  rw[if_neg h1,if_pos h2]
  exact .inl ⟨x,List.mem_of_getElem? (bQ e1).2.2,_,qq h,rfl⟩
 ·rename_i hn
  split at h
  ·rename_i x r e1 e2;exact absurd e2 (hn x r e1)
  ·cases h
theorem GV{g:Gates}{s c:Int}(h:(g.up s c).2.1=true):g.has (g.up s c).1:=by
 unfold Gates.up at h ⊢
 split
 ·rename_i e;rw[e] at h;cases h
 ·rename_i x e
  rw[e] at h;simp only at h ⊢
  split
  ·rename_i hi
   exact .inr (.inr ⟨x,List.mem_of_getElem? (bQ e).2.2,_,qq hi,rfl⟩)
  ·rename_i hi;rw[if_neg hi] at h
   split at h <;> cases h
end Go.SLYtpbjdoplfgeliaaGreat
namespace Go.SLYtpbjdoplfgeliaaGreat
open Go Go.RowKit
theorem bN.pass{ps:List (Option Nat)}{d:Dng}{t:bE}{m:Nat}{x y e:Int}(h:bN ps d.s m)(ht:d.s.aG[d.n]?=some (some t))(hR:gV t)(he:0≤e∧e≤11):bN ps (d.pass x y e).s m:=by
 have:bN ps (d.tell x y e true).s m:=h.of rfl
 have h2:=this.aV (n:=d.n) (hR.put (i:=7) (x:=e) (by omega))
 unfold Dng.pass;rw[dj ht];exact h2
theorem bN.block{ps:List (Option Nat)}{d:Dng}{t:bE}{m:Nat}{w i x y:Int}(h:bN ps d.s m)(ht:d.s.aG[d.n]?=some (some t))(hR:gV t)(hi : -1≤i∧i<8):bN ps (d.block w i x y).s m:=by
 have:bN ps (d.tell x y 0 false).s m:=h.of rfl
 have h2:=this.aV (n:=d.n) (hR.with (a:=w) (b:=d.i.op) hi)
 unfold Dng.block;rw[dj ht];exact h2
theorem LA{c:Int}(h:0≤c∧c<8):Bb c=c:=by unfold Bb;omega
theorem GW{u:Tub}{who x:Int}(h:(u.put who x).2.2.1=true):(u.put who x).2.1∈u.gM:=by
 cases hw:u.waits who with
 | true=>rw[wj hw] at h;cases h
 | false =>
  cases hg:u.gM with
  | cons w r=>rw[rV hw hg];exact List.mem_cons_self
  | nil =>
   by_cases hr:(u.words.length:Int)<u.room
   ·rw[oW hw hg hr] at h;cases h
   ·rw[oX hw hg hr] at h;cases h
theorem GX{u:Tub}{who:Int}(h:(u.get who).2.2.2.1=true):∃ x∈u.hM,x.who=(u.get who).2.2.1:=by
 cases hw:u.waits who with
 | true=>rw[ql hw] at h;cases h
 | false =>
  cases hg:u.words with
  | nil=>rw[get_none hw hg] at h;cases h
  | cons w r =>
   cases hp:u.hM with
   | nil=>rw[oY hw hg hp] at h;cases h
   | cons q r2=>rw[oZ hw hg hp];exact⟨q,List.mem_cons_self,rfl⟩
theorem GY{u:Tub}{who:Int}(h:∀ w∈u.words,0≤w∧w≤18446744073709551615):0≤(u.get who).1∧(u.get who).1≤18446744073709551615:=by
 have h0:(0:Int)≤0∧(0:Int)≤18446744073709551615:=by decide
 cases hw:u.waits who with
 | true=>rw[ql hw];exact h0
 | false =>
  cases hg:u.words with
  | nil=>rw[get_none hw hg];exact h0
  | cons w r =>
   have:=h w (by rw[hg];exact List.mem_cons_self)
   cases hp:u.hM with
   | nil=>rw[oY hw hg hp];exact this
   | cons q r2=>rw[oZ hw hg hp];exact this
theorem CW{d:Dng}{xs:List (Nat×Tub)}(hxs:xs.map (·.2)=d.s.cf)(h0:0≤d.i.n)(h:d.i.n<(d.s.cf.length:Int)):∃ q,xs[d.i.n.toNat]?=some (q,d.bW)∧d.bW∈d.s.cf:=by
 have hl:xs.length=d.s.cf.length:=by rw[← hxs,List.length_map]
 obtain⟨⟨q,u⟩,hx⟩:=ak (show d.i.n.toNat<xs.length by omega)
 have hu:=eT hxs hx
 have:d.bW=u:=by unfold Dng.bW;rw[List.getD_eq_getElem?_getD,hu];rfl
 exact⟨q,by rw[this];exact hx,by rw[this];exact List.mem_of_getElem? hu⟩
theorem wm{s:Spc}{f arg:Int}{n:Nat}(h:slotFree? s.table 0=some n)(hl:n<s.aG.length):∃ t,(s.begin f arg).2.2.aG[n]?=some (some t)∧t=rF f arg (ei ((s.table.getD n (false,0)).2+1) n):=by
 rw[eX h]
 exact⟨_,List.getElem?_set_self hl,rfl⟩
end Go.SLYtpbjdoplfgeliaaGreat
namespace Go.SLYtpbjdoplfgeliaaGreat
open Go Go.RowKit
theorem Bv(s:Spc)(a b:List Int):cO s (a++b)=cO (cO s a) b:=by
 induction a generalizing s with
 | nil=>rfl
 | cons x l ih=>exact ih _
theorem yb(s:Spc)(a:List Int):(cO s a).al=s.al:=by
 induction a generalizing s with
 | nil=>rfl
 | cons x l ih=>exact(ih _).trans rfl
theorem tH{ps:List (Option Nat)}{s:Spc}(m:Nat)(a:List Int)(h:bN ps s m):bN ps (cO s a) m:=by
 induction a generalizing s with
 | nil=>exact h
 | cons x l ih =>
  refine ih ?_
  by_cases hx:∃ t,s.aG[x.toNat]?=some (some t)
  ·obtain⟨t,ht⟩:=hx
   rw[show s.t x.toNat=t from dQ ht]
   obtain⟨hm,q,u,hq,hu,hR⟩:=h
   rcases Decidable.em (x.toNat=m) with e | hne
   ·subst e
    rw[ht] at hu;cases hu
    exact⟨hm,q,_,hq,dp ht,⟨hR.l,hR.r,hR.i,hR.v,hR.h⟩⟩
   ·exact⟨hm,q,u,hq,fA hu hne,hR⟩
  ·obtain⟨hm,q,u,hq,hu,hR⟩:=h
   exact⟨hm,q,u,hq,fA hu (fun e=>hx ⟨u,by rw[e];exact hu⟩),hR⟩
theorem gV.fu{t:bE}(h:gV t){y:Int}(hy:0≤y∧y≤18446744073709551615):gV (t.fu y):=by
 have h1:gV (if t.bZ = -1 then t else t.put t.bZ y):=by split;exact h;exact h.put hy
 have h2:=h1.put (i:=7) (x:=0) (by decide)
 exact⟨h2.l,h2.r,by show(-1:Int)≤ -1∧(-1:Int)<8;decide,h2.v,h2.h⟩
theorem yc(d:Dng)(a:List Int)(n:Int):d.dB (a++[n])=(d.dB a).ck n.toNat 0:=by
 induction a generalizing d with
 | nil=>rfl
 | cons x l ih=>exact ih _
theorem rb(d:Dng)(a:List Int):(d.dB a).ends.length=d.ends.length+a.length∧(d.dB a).out.ar.length=d.out.ar.length+a.length:=by
 induction a generalizing d with
 | nil=>exact⟨rfl,rfl⟩
 | cons x l ih =>
  have:=ih (d.ck x.toNat 0)
  simp only[Dng.ck,List.length_append,List.length_cons,List.length_nil] at this
  show(Dng.dB (d.ck x.toNat 0) l).ends.length=_∧(Dng.dB (d.ck x.toNat 0) l).out.ar.length=_
  rw[List.length_cons]
  exact⟨by have:=this.1;simp only[Dng.ck] at this ⊢;omega,by have:=this.2;simp only[Dng.ck] at this ⊢;omega⟩
theorem wq{ps:List (Option Nat)}{d:Dng}{m n:Nat}(h:bN ps d.s m)(hn:bN ps d.s n):bN ps (d.ck n 0).s m:=by
 obtain⟨hn16,q,u,hq,hu,hR⟩:=hn
 have:=h.aV (n:=n) (hR.fu (y:=0) (by decide))
 unfold Dng.ck Spc.dJ
 simp only
 rw[dQ hu];exact this
theorem yd{ps:List (Option Nat)}(m:Nat)(a:List Int):∀ (d:Dng),bN ps d.s m→(∀ w∈a,bN ps d.s w.toNat)→bN ps (d.dB a).s m:=by
 induction a with
 | nil=>intro d h _;exact h
 | cons x l ih =>
  intro d h ha
  have hx:=ha x List.mem_cons_self
  exact ih _ (wq h hx) (fun w hw=>wq (ha w (List.mem_cons_of_mem _ hw)) hx)
def eC(d:Dng)(k:Nat):List Int:=(d.s.al.dn.take k).flatMap fun m=>m.wait.map (·.who)
theorem ye{d:Dng}{k:Nat}{x:eI}(h:d.s.al.dn[k]?=some x):eC d (k+1)=eC d k++x.wait.map (·.who):=by
 unfold eC
 rw[aU h,List.flatMap_append];simp
theorem CX:∀ (n:Nat) (c:Int) (r:List eV) (ms:List eI) (out:List Int),n≤r.length→ ∀ w∈(sigLoop n c r ms out).2.2,w∈out∨ ∃ y∈r,y.who=w
 | 0,_,_,_,_,_,_,h=>.inl h
 | n+1,c,r,ms,out,hn,w,h=>by
  unfold sigLoop at h
  simp only at h
  obtain⟨h1,h2,h3⟩:=kc (l:=r) (c:=c) (by omega)
  rcases CX n c _ _ _ (by omega) w h with h | ⟨y,hy,e⟩
  ·split at h
   ·rcases List.mem_append.1 h with h | h
    ·exact .inl h
    ·rw[List.mem_singleton] at h;exact .inr ⟨_,h1,h.symm⟩
   ·exact .inl h
  ·exact .inr ⟨y,h3 y hy,e⟩
theorem CY:∀ (n:Nat) (c:Int) (r:List eV) (ms:List eI) (out:List Int),(sigLoop n c r ms out).2.2.length≤out.length+n
 | 0,_,_,_,_=>by simp[sigLoop]
 | n+1,c,r,ms,out=>by
  unfold sigLoop
  simp only
  refine Nat.le_trans (CY n c _ _ _) ?_
  split
  ·rw[List.length_append];simp;omega
  ·omega
theorem kU{g:Gates}{c ch:Int}{all:Bool}:∀ w∈(g.signal c ch all).1,g.has w:=fun w h=>by
 unfold Gates.signal at h
 split at h
 ·cases h
 ·rename_i r e
  rcases CX _ _ _ _ _ (by split <;> omega) w h with h | ⟨y,hy,e2⟩
  ·cases h
  ·exact .inr (.inl ⟨r,List.mem_of_getElem? (bQ e).2.2,y,hy,e2⟩)
theorem nX{g:Gates}{c ch:Int}{all:Bool}(hg:∀ r∈g.hD,r.length≤400000):(g.signal c ch all).1.length≤400000:=by
 unfold Gates.signal
 split
 ·simp
 ·rename_i r e
  have:=hg r (List.mem_of_getElem? (bQ e).2.2)
  refine Nat.le_trans (CY _ _ _ _ _) ?_
  simp only[List.length_nil]
  split <;> omega
theorem pg:∀ (n:Nat) (c:Int) (r:List eV) (ms:List eI) (out:List Int),(sigLoop n c r ms out).2.1.length=ms.length
 | 0,_,_,_,_=>rfl
 | n+1,c,r,ms,out=>by unfold sigLoop;simp only;rw[pg n,List.length_set]
theorem jN{g:Gates}{c ch:Int}{all:Bool}:(g.signal c ch all).2.2.dn.length=g.dn.length:=by
 unfold Gates.signal
 split
 ·rfl
 ·exact pg _ _ _ _ _
theorem wu:∀ (n:Nat) (c:Int) (r:List eV) (ms:List eI) (out:List Int) (N:Nat),n≤r.length→(∀ x∈ms,x.wait.length≤N)→ ∀ x∈(sigLoop n c r ms out).2.1,x.wait.length≤N+n∧ ∀ y∈x.wait,(∃ x'∈ms,y∈x'.wait)∨ ∃ z∈r,z.who=y.who
 | 0,_,_,_,_,_,_,hN,x,h=>⟨hN x h,fun y hy=>.inl ⟨x,h,hy⟩⟩
 | n+1,c,r,ms,out,N,hn,hN,x,h=>by
  unfold sigLoop at h
  simp only at h
  obtain⟨h1,h2,h3⟩:=kc (l:=r) (c:=c) (by omega)
  have hl:∀ x∈ms.set (aN r c).1.mutex.toNat ((ms.getD (aN r c).1.mutex.toNat ⟨[],false,0⟩).lock (aN r c).1.who).2,x.wait.length≤N+1∧ ∀ y∈x.wait,(∃ x'∈ms,y∈x'.wait)∨y.who=(aN r c).1.who:=by
   intro x hx
   rcases List.mem_or_eq_of_mem_set hx with hx | rfl
   ·exact⟨by have:=hN x hx;omega,fun y hy=>.inl ⟨x,hx,hy⟩⟩
   ·have hg:∀ (z:eI),(z∈ms∨z=⟨[],false,0⟩)→(z.lock (aN r c).1.who).2.wait.length≤N+1∧ ∀ y∈(z.lock (aN r c).1.who).2.wait,(∃ x'∈ms,y∈x'.wait)∨y.who=(aN r c).1.who:=by
     intro z hz
     have hzl:z.wait.length≤N:=by
      rcases hz with hz | rfl
      ·exact hN z hz
      ·exact Nat.zero_le _
     unfold eI.lock
     split
     ·refine⟨by rw[List.length_append];simp;omega,fun y hy=>?_⟩
      rcases List.mem_append.1 hy with hy | hy
      ·rcases hz with hz | rfl
       ·exact .inl ⟨z,hz,hy⟩
       ·cases hy
      ·rw[List.mem_singleton] at hy;exact .inr (by rw[hy])
     ·refine⟨by show z.wait.length≤_;omega,fun y hy=>?_⟩
      rcases hz with hz | rfl
      ·exact .inl ⟨z,hz,hy⟩
      ·cases hy
    refine hg _ ?_
    rw[List.getD_eq_getElem?_getD]
    cases e:ms[(aN r c).1.mutex.toNat]? with
    | none=>exact .inr rfl
    | some z=>exact .inl (List.mem_of_getElem? e)
  obtain⟨g1,g2⟩:=wu n c _ _ _ (N+1) (by omega) (fun x hx=>(hl x hx).1) x h
  refine⟨by omega,fun y hy=>?_⟩
  rcases g2 y hy with ⟨x',hx',hy'⟩ | ⟨z,hz,e⟩
  ·rcases(hl x' hx').2 y hy' with hh | hh
   ·exact .inl hh
   ·exact .inr ⟨_,h1,hh.symm⟩
  ·exact .inr ⟨z,h3 z hz,e⟩
theorem kV{g:Gates}{c ch:Int}{all:Bool}(h1:∀ x∈g.dn,x.wait.length≤400000)(h2:∀ r∈g.hD,r.length≤400000):∀ x∈(g.signal c ch all).2.2.dn,x.wait.length≤1000000∧ ∀ y∈x.wait,g.has y.who:=by
 intro x hx
 unfold Gates.signal at hx
 split at hx
 ·exact⟨Nat.le_trans (h1 x hx) (by decide),fun y hy=>.inl ⟨x,hx,y,hy,rfl⟩⟩
 ·rename_i r e
  have hr:=List.mem_of_getElem? (bQ e).2.2
  have hrl:=h2 r hr
  obtain⟨a,b⟩:=wu _ _ _ _ _ 400000 (by split <;> omega) h1 x hx
  have hif:(if all=true then r.length else min r.length 1)≤r.length:=by split <;> omega
  refine⟨by omega,fun y hy=>?_⟩
  rcases b y hy with ⟨x',hx',hy'⟩ | ⟨z,hz,e2⟩
  ·exact .inl ⟨x',hx',y,hy',rfl⟩
  ·exact .inr (.inl ⟨r,hr,z,hz,e2⟩)
end Go.SLYtpbjdoplfgeliaaGreat
namespace Go.SLYtpbjdoplfgeliaaGreat
open Go Go.RowKit
structure gb(s:Spc):Prop where
 lt:s.aG.length=16
 T:jm s.table
 R:∀ (n:Nat) (t:bE),s.aG[n]?=some (some t)→gV t∧0≤t.pc∧t.pc≤257
 slot:∀ (h:Int) (m:Nat),bz s.table h=some m→ ∃ t,s.aG[m]?=some (some t)
 free:∀ n:Nat,slotFree? s.table 0=some n→s.aG[n]?=some none
 join:∀ (n:Nat) (t:bE),s.aG[n]?=some (some t)→t.cQ=0→¬t.ax = -1→0≤t.ax∧t.ax.toNat≠n∧ ∃ u,s.aG[t.ax.toNat]?=some (some u)
 au:s.au.length≤800000000
 mem:s.mem.length≤1000000
 gl:gP s.al
 JE:∀ x∈s.al.et,0≤x.count∧x.count≤1048576
 JF:∀ r∈s.al.hD, ∀ w∈r,0≤w.mutex∧w.mutex<(s.al.dn.length:Int)
 iR:∀ w,s.al.has w→0≤w∧ ∃ u,s.aG[w.toNat]?=some (some u)
 JG:s.eW.bu≤(s.al.dn.length:Int)
 BG:(∀ x∈s.al.dn,x.wait.length≤400000)∧ ∀ r∈s.al.hD,r.length≤400000
 code:∀ f∈s.eW.funcs, ∀ i∈f,nz i∧(cls i.op≠1→i.n≤1099511627776)∧(i.op=35∨i.op=36→i.n<(s.cf.length:Int))
 zV:s.eW.funcs.length≤1000000∧ ∀ f∈s.eW.funcs,f.length≤256
 tl:∀ u∈s.cf,tv u
 zU:∀ u∈s.cf,(∀ w∈u.gM,0≤w∧ ∃ v,s.aG[w.toNat]?=some (some v))∧(∀ x∈u.hM,0≤x.who∧ ∃ v,s.aG[x.who.toNat]?=some (some v))
 tw:∀ u∈s.cf, ∀ w∈u.words,0≤w∧w≤18446744073709551615
 dw:s.ca.wait.length≤1000000
 db:∀ r∈s.ca.wait,0≤r.block∧r.block<(s.ca.blocks.length:Int)
 M0:∀ r∈s.ca.wait,0≤r.who∧ ∃ v,s.aG[r.who.toNat]?=some (some v)
 wn:0≤s.aS.now∧s.aS.now≤1099511627776
 wl:s.aS.hU.length≤1000000
 M1:∀ x∈s.aS.hU,0≤x.1∧ ∃ v,s.aG[x.1.toNat]?=some (some v)
theorem gb.live{s:Spc}(h:gb s){ps:List (Option Nat)}(hs:xG ps s.aG){m:Nat}{t:bE}(e:s.aG[m]?=some (some t)):bN ps s m:=by
 obtain⟨q,hq⟩:=hs.2.1 m t e
 exact⟨h.lt ▸ (List.getElem?_eq_some_iff.1 e).1,q,t,hq,e,(h.R m t e).1⟩
theorem gV.m3{t:bE}(h:gV t)(hp:0≤t.pc∧t.pc≤257):CL t.m3:=⟨h.l,by show 0≤t.pc∧t.pc≤_;omega,h.r⟩
theorem gb.call{s:Spc}(h:gb s){ps:List (Option Nat)}(hs:xG ps s.aG){k:Nat}{t:bE}{i:Ins}{choice:Int}(ht:s.aG[k]?=some (some t))(hw:t.cQ=0)(hI:nz i)(hn:i.n≤1099511627776)(htub:i.op=35∨i.op=36→i.n<(s.cf.length:Int)) :
  iN ps ((s.dP k i choice).aV {t with pc:=t.pc+1 }) {t with pc:=t.pc+1 }:=by
 have hk16:k<16:=h.lt ▸ (List.getElem?_eq_some_iff.1 ht).1
 have hR:=(h.R k t ht).1
 have hR2:gV {t with pc:=t.pc+1 }:=⟨hR.l,hR.r,hR.i,hR.v,hR.h⟩
 have lv:∀ {m:Nat} {u:bE},s.aG[m]?=some (some u)→bN ps (s.aV k {t with pc:=t.pc+1 }) m:=fun e=>(h.live hs e).aV hR2
 refine⟨hk16,hR2,?_,hs.1.trans h.lt,h.T,fun x m e=>?_,fun n e=>?_,fun hj=>?_,hI,hn,Nat.le_trans h.au (by decide),Nat.zero_le _,Nat.zero_le _,h.mem,h.gl,h.JE,h.JF,fun w hw=>?_,h.JG,h.BG,htub,h.tl,fun u hu=>⟨fun w hw=>?_,fun x hx=>?_⟩,h.tw,h.dw,h.wn⟩
 ·show(s.aG.set k _).length=16
  rw[List.length_set];exact h.lt
 ·obtain⟨u,hu⟩:=h.slot x m e;exact lv hu
 ·have:=h.free n e
  show(s.aG.set k _)[n]?=_
  rw[List.getElem?_set_ne (fun e=>by rw[e,this] at ht;cases ht)];exact this
 ·obtain⟨a,b,u,hu⟩:=h.join k t ht hw hj
  exact⟨a,b,lv hu⟩
 ·obtain⟨a,u,hu⟩:=h.iR w hw;exact⟨a,lv hu⟩
 ·obtain⟨a,u,hu⟩:=(h.zU u hu).1 w hw;exact⟨a,lv hu⟩
 ·obtain⟨a,u,hu⟩:=(h.zU u hu).2 x hx;exact⟨a,lv hu⟩
theorem gb.KJ{s:Spc}(h:gb s){ps:List (Option Nat)}(hs:xG ps s.aG){k:Nat}{t:bE}(ht:s.aG[k]?=some (some t))(hw:t.cQ=0):¬t.ax = -1→0≤t.ax∧t.ax.toNat≠k∧bN ps s t.ax.toNat:=fun hj=>by
 obtain⟨a,b,u,hu⟩:=h.join k t ht hw hj
 exact⟨a,b,h.live hs hu⟩
theorem wv{s:Spc}(h:gb s){f:iP}{i:Ins}(e:dV s.eW f=some i):nz i∧(cls i.op≠1→i.n≤1099511627776)∧(i.op=35∨i.op=36→i.n<(s.cf.length:Int)):=by
 unfold dV at e
 split at e
 ·cases e
 ·have hi:=List.mem_of_getElem? e
  cases hf:s.eW.funcs[f.fn.toNat]? with
  | none=>rw[List.getD_eq_getElem?_getD,hf] at hi;cases hi
  | some g=>rw[List.getD_eq_getElem?_getD,hf] at hi;exact h.code g (List.mem_of_getElem? hf) i hi
theorem GZ{s:Spc}{ps:List (Option Nat)}(hs:xG ps s.aG){n:Int}(h:xZ ps n=none)(hl:s.aG.length=16):s.at n=none:=by
 unfold xZ at h
 unfold Spc.at aB
 split
 ·rfl
 ·rename_i h0
  by_cases hn:n<16
  ·rw[if_pos ⟨by omega,hn⟩] at h
   obtain⟨x,hx⟩:=ak (show n.toNat<s.aG.length by omega)
   rw[hx]
   cases x with
   | none=>rfl
   | some t=>obtain⟨q,hq⟩:=hs.2.1 _ t hx;rw[bA hq] at h;cases h
  ·rw[List.getElem?_eq_none (by omega)];rfl
theorem Bw{s:Spc}{ps:List (Option Nat)}(hs:xG ps s.aG){n:Int}{p:Nat}(h:xZ ps n=some p)(hl:s.aG.length=16):∃ k:Nat, ∃ t,n=(k:Int)∧k<16∧ps[k]?=some (some p)∧s.aG[k]?=some (some t)∧s.at n=some t:=by
 unfold xZ at h
 split at h
 ·rename_i h0
  have hp:ps[n.toNat]?=some (some p):=by
   rw[List.getD_eq_getElem?_getD] at h
   cases e:ps[n.toNat]? with
   | none=>rw[e] at h;cases h
   | some x=>rw[e] at h;simp only[Option.getD_some] at h;rw[h]
  obtain⟨x,hx⟩:=ak (show n.toNat<s.aG.length by omega)
  cases x with
  | none=>have:=hs.2.2 _ hx;rw[hp] at this;cases this
  | some t=>exact⟨n.toNat,t,by omega,by omega,hp,hx,by unfold Spc.at aB;rw[if_neg (by omega),hx];rfl⟩
 ·cases h
section
variable{P:Program}{W:World}
theorem Fn.NR{f:FuncId}{args:List Value}{X X1:Type}{val:X→Value}{fact:X→Prop}{p:X1→Prop}{A:X1→List aa}(h:∀ x,p x→Fn P W f args [seps (A x)] X val fact (fun _=>[seps (A x)])):Fn P W f args [iS p A] X val fact (fun _=>[iS p A]):=fun F w hs=>by
 have h1:Sat W w (sep (ex fun x:{x // p x }=>seps (A x.1)) F):=hs.mono (ba (fun g b=>by
  obtain⟨x,hx,b⟩:iS p A g:=by simpa only[seps,aJ] using b
  exact⟨⟨x,hx⟩,b⟩) (fun g b=>b))
 obtain⟨x,h2⟩:=h1.exists
 refine(h x.1 x.2 F w (by simpa only[seps,aJ] using h2)).mono ?_
 rintro e w' ⟨y,e1,e2,s⟩
 exact⟨y,e1,e2,s.mono (ba (fun g b=>by
  have b':seps (A x.1) g:=by simpa only[seps,aJ] using b
  show seps [iS p A] g
  simp only[seps,aJ]
  exact⟨x.1,x.2,b'⟩) (fun g b=>b))⟩
end
theorem zK{s:Spc}{n c:Int}(h:s.at n=none):s.run n c=(kP.z,1,s):=by unfold Spc.run;rw[h]
theorem zL{s:Spc}{n c:Int}{t:bE}(h:s.at n=some t)(hw:t.cQ≠0):s.run n c=(kP.z,4,s):=by unfold Spc.run;rw[h];simp only;rw[if_pos hw]
theorem CZ{s:Spc}{k:Nat}{c:Int}{t:bE}(h:s.at (k:Int)=some t)(hw:¬t.cQ≠0)(hn:dV s.eW t.m3=none){z:Dng}(hz:z=((s.dP k ⟨23,0,0,0,0⟩ c).tell 0 0 0 true).fin 0):s.run (k:Int) c=(z.finish.1,0,z.finish.2):=by
 unfold Spc.run;rw[h];simp only;rw[if_neg hw,hn];subst hz;rfl
theorem wx{s:Spc}{k:Nat}{c:Int}{t:bE}{i:Ins}(h:s.at (k:Int)=some t)(hw:¬t.cQ≠0)(hn:dV s.eW t.m3=some i)(hc:cls i.op=1){z:Dng}(hz:z=(s.dP k i c).plain):s.run (k:Int) c=(z.finish.1,0,z.finish.2):=by
 unfold Spc.run;rw[h];simp only;rw[if_neg hw,hn];simp only;rw[if_pos hc];subst hz;rfl
theorem zM{s:Spc}{k:Nat}{c:Int}{t:bE}{i:Ins}(h:s.at (k:Int)=some t)(hw:¬t.cQ≠0)(hn:dV s.eW t.m3=some i)(hc:¬cls i.op=1){z:Dng}(hz:z=((s.dP k i c).aV {t with pc:=t.pc+1 }).call):s.run (k:Int) c=(z.finish.1,0,z.finish.2):=by
 unfold Spc.run;rw[h];simp only;rw[if_neg hw,hn];simp only;rw[if_neg hc];subst hz;rfl
theorem LB(t:bE)(x:Int):(bc t).set 1 (.int .i64 x)=bc {t with pc:=x }:=rfl
def zN(fv sv pv:Value)(p:fc):List Value:=[fv,.int .i64 p.words,.int .i64 p.bu,.int .i64 p.conds,sv,pv,.int .i64 p.blocks,.int .i64 p.prio]
end Go.SLYtpbjdoplfgeliaaGreat
namespace Go.SLYtpbjdoplfgeliaaGreat
open Go Go.RowKit
def eA(d e:Dng)(a n:Nat):Prop:=e.s.au.length≤d.s.au.length+a∧e.ends.length≤d.ends.length+n
theorem eA.refl{d:Dng}:eA d d 0 0:=⟨Nat.le_refl _,Nat.le_refl _⟩
theorem eA.up{d e:Dng}{a n a' n':Nat}(h:eA d e a n)(ha:a≤a')(hn:n≤n'):eA d e a' n':=⟨Nat.le_trans h.1 (by omega),Nat.le_trans h.2 (by omega)⟩
theorem eA.trans{d e f:Dng}{a n a' n':Nat}(h:eA d e a n)(k:eA e f a' n'):eA d f (a+a') (n+n'):=⟨by have:=h.1;have:=k.1;omega,by have:=h.2;have:=k.2;omega⟩
theorem eA.same{d e:Dng}(h1:e.s.au=d.s.au)(h2:e.ends=d.ends):eA d e 0 0:=⟨by rw[h1];exact Nat.le_refl _,by rw[h2];exact Nat.le_refl _⟩
theorem gA{d:Dng}{x y e:Int}{f:Bool}:eA d (d.tell x y e f) 1 0:=⟨by simp[Dng.tell,Spc.tell],Nat.le_refl _⟩
theorem bX{d:Dng}{x y e:Int}:eA d (d.pass x y e) 1 0:=⟨by simp[Dng.pass,Dng.aV,Spc.aV,Dng.tell,Spc.tell],Nat.le_refl _⟩
theorem fB{d:Dng}{w i x y:Int}:eA d (d.block w i x y) 1 0:=⟨by simp[Dng.block,Dng.aV,Spc.aV,Dng.tell,Spc.tell],Nat.le_refl _⟩
theorem m5{d:Dng}{n:Nat}{y:Int}:eA d (d.ck n y) 0 1:=⟨by simp[Dng.ck,Spc.dJ,Spc.aV],by simp[Dng.ck]⟩
theorem ke{d:Dng}{v:Int}:eA d (d.fin v) 0 1:=by
 unfold Dng.fin
 split
 ·exact(eA.same rfl rfl).up (Nat.le_refl _) (by decide)
 ·split
  ·exact(eA.same rfl rfl).up (Nat.le_refl _) (by decide)
  ·exact(eA.same (d:=d) (e:=d.ended) rfl rfl).trans (m5.trans (eA.same rfl rfl))
theorem nY{d:Dng}:eA d d.plain 1 1:=by
 unfold Dng.plain
 split
 ·have:∀ e:Dng,eA d e 1 0→ ∀ s:Spc,s.au=e.s.au→eA d {e with s:=s } 1 1:=fun e h s hs=>⟨by show s.au.length≤_;rw[hs];exact h.1,Nat.le_trans h.2 (by omega)⟩
  simp only
  refine this _ ?_ _ rfl
  split
  ·exact gA
  ·split
   ·exact gA
   ·exact eA.refl.up (by decide) (by decide)
 ·split
  ·exact gA.trans ke
  ·exact gA.trans ke
theorem nZ{d:Dng}{n:Int}{ok:Bool}:eA d (d.given n ok) 0 1:=by
 unfold Dng.given
 split
 ·exact m5
 ·exact eA.refl.up (by decide) (by decide)
theorem cB{d e f:Dng}{a n:Nat}(h:eA e f a n)(h1:e.s.au=d.s.au)(h2:e.ends=d.ends):eA d f a n:=⟨by rw[← h1];exact h.1,by rw[← h2];exact h.2⟩
theorem jx{s:Spc}{f a:Int}:(s.begin f a).2.2.au=s.au:=by
 unfold Spc.begin
 split <;> rfl
theorem Bx{d:Dng}:eA d d.spawn 1 1:=by
 unfold Dng.spawn
 refine eA.up (a:=1) (n:=0) ?_ (Nat.le_refl _) (by decide)
 exact cB bX (jx (s:=d.s) (f:=d.i.n) (a:=d.b)) rfl
theorem Ei{d:Dng}:eA d d.join 1 1:=by
 unfold Dng.join
 simp only
 repeat' split
 ·exact bX.up (Nat.le_refl _) (by decide)
 ·exact(cB bX rfl rfl).up (Nat.le_refl _) (by decide)
 ·exact(cB fB rfl rfl).up (Nat.le_refl _) (by decide)
theorem zO{d:Dng}:eA d d.fT 1 1:=by
 unfold Dng.fT
 simp only
 repeat' split
 ·exact bX.up (Nat.le_refl _) (by decide)
 ·exact(cB bX rfl rfl).up (Nat.le_refl _) (by decide)
 ·exact(cB bX rfl rfl).up (Nat.le_refl _) (by decide)
theorem By{d:Dng}:eA d d.mutex 1 1:=by
 unfold Dng.mutex
 simp only
 repeat' split
 ·exact(cB fB rfl rfl).up (Nat.le_refl _) (by decide)
 ·exact(cB bX rfl rfl).up (Nat.le_refl _) (by decide)
 ·exact cB (bX.trans nZ) rfl rfl
 ·exact(cB bX rfl rfl).up (Nat.le_refl _) (by decide)
 ·exact cB (fB.trans nZ) rfl rfl
theorem G0{d:Dng}:eA d d.et 1 1:=by
 unfold Dng.et
 simp only
 repeat' split
 ·exact cB (bX.trans nZ) rfl rfl
 ·exact(cB fB rfl rfl).up (Nat.le_refl _) (by decide)
 ·exact(cB bX rfl rfl).up (Nat.le_refl _) (by decide)
theorem zP{d:Dng}{b y i:Int}:eA d (d.ask b y i) 1 1:=by
 unfold Dng.ask
 simp only
 repeat' split
 ·exact(cB bX rfl rfl).up (Nat.le_refl _) (by decide)
 ·exact(cB fB rfl rfl).up (Nat.le_refl _) (by decide)
 ·exact bX.up (Nat.le_refl _) (by decide)
theorem G3{d:Dng}:eA d d.put 1 1:=by
 unfold Dng.put
 simp only
 repeat' split
 ·exact(cB fB rfl rfl).up (Nat.le_refl _) (by decide)
 ·exact cB (bX.trans m5) rfl rfl
 ·exact(cB bX rfl rfl).up (Nat.le_refl _) (by decide)
theorem G4{d:Dng}:eA d d.get 1 1:=by
 unfold Dng.get
 simp only
 repeat' split
 ·exact(cB fB rfl rfl).up (Nat.le_refl _) (by decide)
 ·exact cB (bX.trans m5) rfl rfl
 ·exact(cB bX rfl rfl).up (Nat.le_refl _) (by decide)
theorem Bz{d:Dng}:eA d d.sleep 1 1:=by
 unfold Dng.sleep
 simp only
 repeat' split
 ·exact bX.up (Nat.le_refl _) (by decide)
 ·exact bX.up (Nat.le_refl _) (by decide)
 ·exact(cB fB rfl rfl).up (Nat.le_refl _) (by decide)
theorem zQ{d:Dng}:eA d d.kernel 1 1:=by
 unfold Dng.kernel
 repeat' split
 ·exact zP
 ·exact zP
 ·exact G3
 ·exact G4
 ·exact Bz
 ·exact bX.up (Nat.le_refl _) (by decide)
theorem zR(s:Spc)(a:List Int):(cO s a).au=s.au:=by
 induction a generalizing s with
 | nil=>rfl
 | cons x l ih=>exact(ih _).trans rfl
theorem yf(d:Dng)(a:List Int):(d.dB a).s.au=d.s.au:=by
 induction a generalizing d with
 | nil=>rfl
 | cons x l ih=>exact(ih _).trans rfl
theorem BA{d:Dng}{l:List Int}:eA d (d.lL l) 0 l.length:=by
 unfold Dng.lL
 refine⟨?_,?_⟩
 ·rw[yf];show(cO d.s d.waits).au.length≤_;rw[zR];exact Nat.le_refl _
 ·rw[(rb _ _).1];exact Nat.le_refl _
theorem qt{d:Dng}(h:∀ r∈d.s.al.hD,r.length≤400000):eA d d.call 1 400001:=by
 unfold Dng.call
 simp only
 repeat' split
 ·exact Bx.up (Nat.le_refl _) (by decide)
 ·exact(cB bX rfl rfl).up (Nat.le_refl _) (by decide)
 ·exact(bX (d:=d)).up (Nat.le_refl _) (by decide)
 ·exact Ei.up (Nat.le_refl _) (by decide)
 ·exact zO.up (Nat.le_refl _) (by decide)
 ·exact(gA.trans ke).up (Nat.le_refl _) (by decide)
 ·exact By.up (Nat.le_refl _) (by decide)
 ·exact(cB (bX.trans BA) rfl rfl).up (Nat.le_refl _) (by have:=nX (c:=d.i.n) (ch:=d.choice) (all:=decide (d.i.op=29)) h;omega)
 ·exact G0.up (Nat.le_refl _) (by decide)
 ·exact zQ.up (Nat.le_refl _) (by decide)
end Go.SLYtpbjdoplfgeliaaGreat
namespace Go.SLYtpbjdoplfgeliaaGreat
open Go Go.RowKit
section
variable{P:Program}
theorem cS {d : Nat} {xs ys : Array Value} {f : Field} {fs : List Field} {a b : Value} {r : Bool} {w : World} (hn : (f.name != "_") = true) (pa : Part P f.type xs f.offset a) (pb : Part P f.type ys f.offset b) (h : (Op.equalIn d f.type a b).run P w = .ok r w) :
  (Op.eqFields d xs ys (f::fs)).run P w=if r=true then (Op.eqFields d xs ys fs).run P w else .ok false w:=by
 simp only[Op.eqFields,Sem.run_bind,Sem.run_ite,pa w,pb w,Result.andThen_ok,h]
 cases r
 ·simp;intro e;simp[e] at hn
 ·simp
end
def JA(t:bE):List Value:=[.int .u64 t.handle,.int .i64 t.cQ,.int .i64 t.fn,.int .i64 t.pc,.int .u64 (t.aE.getD 0 0),.int .u64 (t.aE.getD 1 0),.int .u64 (t.aE.getD 2 0),.int .u64 (t.aE.getD 3 0),.int .u64 (t.aE.getD 4 0),.int .u64 (t.aE.getD 5 0),.int .u64 (t.aE.getD 6 0),.int .u64 (t.aE.getD 7 0),.int .u64 t.value]
def G5:bE:=⟨0,0,[],0,0,0,false,0,0,0⟩
theorem BB{s:Spc}{n:Int}(h:s.at n=none):s.class n=0:=by unfold Spc.class;rw[h]
theorem BC{s:Spc}{n:Int}{t:bE}(h:s.at n=some t)(hw:t.cQ≠0):s.class n=0:=by unfold Spc.class;rw[h];simp only;rw[if_pos hw]
theorem Ej{s:Spc}{n:Int}{t:bE}(h:s.at n=some t)(hw:¬t.cQ≠0)(hn:dV s.eW t.m3=none):s.class n=2:=by unfold Spc.class;rw[h];simp only;rw[if_neg hw,hn]
theorem BD{s:Spc}{n:Int}{t:bE}{i:Ins}(h:s.at n=some t)(hw:¬t.cQ≠0)(hn:dV s.eW t.m3=some i):s.class n=cls i.op:=by unfold Spc.class;rw[h];simp only;rw[if_neg hw,hn]
theorem G6{d:kG}{k:Int}(h:(d.done k).2.2.1=true):(d.done k).1∈d.wait∧(d.done k).2.2.2.wait.length≤d.wait.length:=by
 unfold kG.done at h ⊢
 split at h
 ·cases h
 ·rename_i h0
  rw[if_neg h0]
  simp only
  have hm:d.wait.getD (pick k d.wait.length) ⟨0,0,false,0⟩∈d.wait:=by
   have:=kO (t:=k) (n:=d.wait.length) (by omega)
   rw[List.getD_eq_getElem?_getD,List.getElem?_eq_getElem this];exact List.getElem_mem _
  split
  ·exact⟨hm,by simp only;rw[List.length_eraseIdx];split <;> omega⟩
  ·exact⟨hm,by simp only;rw[List.length_eraseIdx];split <;> omega⟩
theorem LC{b:Nat}{x:Int}:∀ h,seps [arr b 0 [.int .i64 x]] h→sl av 1 (.slice (some ⟨b,0,none⟩) 1 1) [x] h:=fun h a=>by
 have a:arr b 0 [.int .i64 x] h:=by simpa only[seps,aJ] using a
 exact .inr ⟨b,1,[],rfl,Nat.le_refl _,fun _ _=>rfl,rfl,a⟩
theorem Ek{d:kG}{k:Int}(h:(d.done k).2.2.1=false):(d.done k).2.2.2=d:=by
 by_cases h0:d.wait.length=0
 ·rw[qm h0]
 ·cases hw:(d.wait.getD (pick k d.wait.length) xX).write with
  | true=>rw[nT h0 rfl hw] at h;cases h
  | false=>rw[qn h0 rfl hw] at h;cases h
theorem re{s:Spc}{k:Int}(h:(s.ca.done k).2.2.1=false):s.done k=(kP.z,3,s):=by unfold Spc.done;simp only;rw[if_pos h]
theorem rf{s:Spc}{k:Int}{t:bE}(h:(s.ca.done k).2.2.1=true)(ht:s.aG[(s.ca.done k).1.who.toNat]?=some (some t)) :
  s.done k=(⟨[(s.ca.done k).1.who],false,false,false⟩,0,(({s with ca:=(s.ca.done k).2.2.2 }:Spc).dJ (s.ca.done k).1.who.toNat (s.ca.done k).2.1).tell (t.jS (s.ca.done k).2.1)):=by
 unfold Spc.done;simp only;rw[if_neg (by rw[h];simp),show({s with ca:=(s.ca.done k).2.2.2 }:Spc).t (s.ca.done k).1.who.toNat=t from dQ ht]
theorem yh(s:Spc)(a:List Int)(n:Int):cN s (a++[n])=((cN s a).dJ n.toNat 0).tell (((cN s a).t n.toNat).jS 0):=by
 induction a generalizing s with
 | nil=>rfl
 | cons x l ih=>exact ih _
theorem yi{ps:List (Option Nat)}(m:Nat)(a:List Int):∀ (s:Spc),bN ps s m→(∀ w∈a,bN ps s w.toNat)→bN ps (cN s a) m:=by
 induction a with
 | nil=>intro d h _;exact h
 | cons x l ih =>
  intro s h ha
  obtain⟨hn16,q,u,hq,hu,hR⟩:=ha x List.mem_cons_self
  have key:∀ {k:Nat},bN ps s k→bN ps ((s.dJ x.toNat 0).tell ((s.t x.toNat).jS 0)) k:=fun hk=>by
   have:=hk.aV (n:=x.toNat) (hR.fu (y:=0) (by decide))
   refine bN.of (s:=s.aV x.toNat (u.fu 0)) this ?_
   unfold Spc.tell Spc.dJ;rw[dQ hu]
  exact ih _ (key h) (fun w hw=>key (ha w (List.mem_cons_of_mem _ hw)))
theorem ph(s:Spc)(a:List Int):(cN s a).au.length=s.au.length+a.length:=by
 induction a generalizing s with
 | nil=>rfl
 | cons x l ih =>
  show(cN _ l).au.length=_
  rw[ih];simp[Spc.tell,Spc.dJ,Spc.aV];omega
theorem JB{w:lR}{x:Int}(h:x∈w.due):∃ y∈w.hU,y.1=x:=by
 unfold lR.due at h
 have hs:∀ (l:List Int),x∈gy l→x∈l:=by
  intro l
  induction l with
  | nil=>exact fun h=>h
  | cons a l ih =>
   intro h
   have hi:∀ (m:List Int),x∈dc a m→x=a∨x∈m:=by
    intro m
    induction m with
    | nil=>intro h;rcases List.mem_singleton.1 h with rfl;exact .inl rfl
    | cons b m ihm =>
     intro h
     unfold dc at h
     split at h
     ·rcases List.mem_cons.1 h with h | h
      ·exact .inl h
      ·exact .inr h
     ·rcases List.mem_cons.1 h with h | h
      ·exact .inr (h ▸ List.mem_cons_self)
      ·rcases ihm h with h | h
       ·exact .inl h
       ·exact .inr (List.mem_cons_of_mem _ h)
   rcases hi _ h with h | h
   ·rw[h];exact List.mem_cons_self
   ·exact List.mem_cons_of_mem _ (ih h)
 obtain⟨y,hy,e⟩:=List.mem_map.1 (hs _ h)
 exact⟨y,(List.mem_filter.1 hy).1,e⟩
theorem El(l:List Int):(gy l).length=l.length:=by
 induction l with
 | nil=>rfl
 | cons a l ih =>
  have hi:∀ (m:List Int),(dc a m).length=m.length+1:=by
   intro m
   induction m with
   | nil=>rfl
   | cons b m ihm=>unfold dc;split <;> simp[ihm]
  show(dc a (gy l)).length=_
  rw[hi,ih,List.length_cons]
theorem pj(w:lR):w.due.length≤w.hU.length:=by
 unfold lR.due;rw[El,List.length_map];exact List.length_filter_le ..
end Go.SLYtpbjdoplfgeliaaGreat
namespace Go.SLYtpbjdoplfgeliaaGreat
open Go Go.RowKit
def mm{α:Type}(f:α→Nat)(l:List α):Nat:=(l.map f).sum
theorem gd{α:Type}{f:α→Nat}:∀ {l:List α} {i:Nat} {x:α} (y:α),l[i]?=some x→mm f (l.set i y)+f x=mm f l+f y
 | a::l,0,x,y,h=>by
  obtain rfl:a=x:=by simpa using h
  simp[mm];omega
 | a::l,i+1,x,y,h=>by
  have:=gd (f:=f) (l:=l) (i:=i) y (by simpa using h)
  simp[mm] at this ⊢;omega
theorem eD{α:Type}{f:α→Nat}:∀ {l:List α} {x:α},x∈l→f x≤mm f l
 | a::l,x,h=>by
  rcases List.mem_cons.1 h with rfl | h
  ·simp[mm]
  ·have:=eD (f:=f) h
   simp[mm] at this ⊢;omega
theorem qu{α:Type}{f:α→Nat}{l:List α}(h:∀ x∈l,f x=0):mm f l=0:=by
 induction l with
 | nil=>rfl
 | cons a l ih =>
  have:=ih (fun x hx=>h x (List.mem_cons_of_mem _ hx))
  have:=h a List.mem_cons_self
  simp[mm] at *;omega
theorem kW{α:Type}{P:α→Bool}:∀ {l:List α} {i:Nat} {x:α},l[i]?=some x→(l.eraseIdx i).countP P+(if P x=true then 1 else 0)=l.countP P
 | a::l,0,x,h=>by
  obtain rfl:a=x:=by simpa using h
  simp[List.countP_cons]
 | a::l,i+1,x,h=>by
  have:=kW (P:=P) (l:=l) (i:=i) (x:=x) (by simpa using h)
  simp[List.countP_cons] at this ⊢;omega
def KK(w:Int)(x:eV):Bool:=decide (x.who=w)
def dN(w:Int)(l:List eV):Nat:=l.countP (KK w)
def cG(g:Gates)(w:Int):Nat:=mm (fun m:eI=>dN w m.wait) g.dn+mm (dN w) g.hD+mm (fun m:kz=>dN w m.wait) g.et
def cU(w:Int)(u:Tub):Nat:=u.gM.count w+u.hM.countP fun x=>decide (x.who=w)
def cT(l:List Tub)(w:Int):Nat:=mm (cU w) l
def cD(d:kG)(w:Int):Nat:=d.wait.countP fun r=>decide (r.who=w)
def cL(u:lR)(w:Int):Nat:=u.hU.countP fun x=>decide (x.1=w)
def jn(w:Int):Option bE→Nat
 | none=>0
 | some t=>if t.ax=w∧¬w = -1 then 1 else 0
def cJ(l:List (Option bE))(w:Int):Nat:=mm (jn w) l
def nA(s:Spc)(w:Int):Nat:=cG s.al w+cT s.cf w+cD s.ca w+cL s.aS w+cJ s.aG w
def bT(t:bE):Nat:=if t.cQ=0∨t.cQ=9 then 0 else 1
def bO:Option bE→Nat
 | none=>0
 | some t=>bT t
def rO:Option bE→Nat
 | none=>0
 | some t=>if t.cQ=0 then 1 else 0
def dS(s:Spc)(w:Int):Nat:=bO (s.at w)
def df(s:Spc)(w:Int):Nat:=rO (s.at w)
def fC(x:Int):Prop:=0≤x∧x≤18446744073709551615
structure rX(p:fc)(g:Gates):Prop where
 m:g.dn.length=p.bu.toNat
 c:g.hD.length=p.conds.toNat
 s:g.et.length=p.bJ.length
 sc:∀ x∈g.et,0≤x.count∧x.count≤1048576
 cm:∀ r∈g.hD, ∀ w∈r,0≤w.mutex∧w.mutex<(g.dn.length:Int)
structure KL(u:Tub):Prop where
 r:u.room≤8
 l:u.words.length≤8
 w:∀ x∈u.words,fC x
 p:∀ x∈u.hM,fC x.x
structure BE(d:kG):Prop where
 l:d.blocks.length≤64
 b:∀ x∈d.blocks,fC x
 w:∀ r∈d.wait,0≤r.block∧r.block<(d.blocks.length:Int)∧fC r.x
structure LD(o:Bool×Int)(n:Nat)(t:bE):Prop where
 h:t.handle=ei o.2 n
 R:gV t
 pc:0≤t.pc∧t.pc≤257
 d:t.bK=true→t.ax = -1
 f:t.cQ=9→t.ax = -1
def G7(p:fc):Prop:=cy p=0∧ ∀ f∈p.funcs, ∀ i∈f,fC i.n
structure Ok(k:Nat)(s:Spc)(p q:List Int):Prop where
 C3:G7 s.eW
 lt:s.aG.length=16
 ll:s.table.length=16
 tk:∀ o∈s.table,0≤o.2∧o.2≤(k:Int)
 us:∀ n:Nat,n<16→((s.table.getD n (false,0)).1=true↔ ∃ t,s.aG[n]?=some (some t))
 th:∀ (n:Nat) (t:bE),s.aG[n]?=some (some t)→LD (s.table.getD n (false,0)) n t
 me:s.mem.length=s.eW.words.toNat∧ ∀ x∈s.mem,fC x
 gt:rX s.eW s.al
 tb:s.cf.length=s.eW.bb.length∧ ∀ u∈s.cf,KL u
 dk:BE s.ca
 wl:0≤s.aS.now∧s.aS.now≤1099511627776
 rH:∀ w,nA s w+p.count w=dS s w+q.count w
/-! who is at a place -/
theorem n8{s:Spc}{n:Nat}:s.at (n:Int)=(s.aG[n]?).getD none:=by
 unfold Spc.at aB;rw[if_neg (by omega),Int.toNat_natCast]
theorem yj{s:Spc}{w:Int}(h:w<0):s.at w=none:=by unfold Spc.at aB;rw[if_pos h];rfl
theorem n9{s:Spc}{n:Nat}{o:Option bE}(hn:n<s.aG.length)(w:Int):({s with aG:=s.aG.set n o }:Spc).at w=if w=(n:Int) then o else s.at w:=by
 by_cases h0:w<0
 ·rw[yj h0,yj h0,if_neg (by omega)]
 ·obtain⟨m,rfl⟩:∃ m:Nat,w=(m:Int):=⟨w.toNat,by omega⟩
  rw[n8,n8]
  simp only
  by_cases e:m=n
  ·subst e;rw[List.getElem?_set_self hn,if_pos rfl];rfl
  ·rw[List.getElem?_set_ne (fun h=>e h.symm),if_neg (by omega)]
theorem C0{s:Spc}{n:Nat}{t:bE}(h:s.aG[n]?=some (some t)):s.at (n:Int)=some t:=by rw[n8,h];rfl
theorem iQ{s:Spc}{w:Int}{t:bE}(h:s.at w=some t):0≤w∧s.aG[w.toNat]?=some (some t):=by
 by_cases h0:w<0
 ·rw[yj h0] at h;cases h
 ·obtain⟨m,rfl⟩:∃ m:Nat,w=(m:Int):=⟨w.toNat,by omega⟩
  rw[n8] at h
  refine⟨by omega,?_⟩
  rw[Int.toNat_natCast]
  cases e:s.aG[m]? with
  | none=>rw[e] at h;cases h
  | some o=>rw[e] at h;exact congrArg some h
theorem jO{s:Spc}{w:Int}(h:0<dS s w):∃ t,s.at w=some t∧t.cQ≠0∧t.cQ≠9:=by
 unfold dS bO at h
 cases e:s.at w with
 | none=>rw[e] at h;exact absurd h (by simp)
 | some t =>
  rw[e] at h;simp only[bT] at h
  split at h
  ·exact absurd h (by simp)
  ·exact⟨t,rfl,by omega,by omega⟩
theorem G8{s:Spc}{w:Int}:dS s w≤1:=by
 unfold dS bO
 split
 ·omega
 ·unfold bT;split <;> omega
theorem oa{t:bE}(h:t.cQ=0):bT t=0:=by unfold bT;rw[if_pos (.inl h)]
theorem jU{t:bE}(h:t.cQ≠0)(h9:t.cQ≠9):bT t=1:=by unfold bT;rw[if_neg (by omega)]
/-! steps that keep a space in order -/
section
variable{k:Nat}{s:Spc}{p q:List Int}
theorem Ok.au(h:Ok k s p q)(l:List Rec):Ok k {s with au:=l } p q:=⟨h.C3,h.lt,h.ll,h.tk,h.us,h.th,h.me,h.gt,h.tb,h.dk,h.wl,h.rH⟩
theorem Ok.LF(h:Ok k s p q){p' q':List Int}(e:∀ w,p'.count w+q.count w=p.count w+q'.count w):Ok k s p' q':=⟨h.C3,h.lt,h.ll,h.tk,h.us,h.th,h.me,h.gt,h.tb,h.dk,h.wl,fun w=>by have:=h.rH w;have:=e w;omega⟩
theorem Ok.more(h:Ok k s p q){k':Nat}(hk:k≤k'):Ok k' s p q:=⟨h.C3,h.lt,h.ll,fun o ho=>by have:=h.tk o ho;omega,h.us,h.th,h.me,h.gt,h.tb,h.dk,h.wl,h.rH⟩
theorem Ok.mem(h:Ok k s p q){m:List Int}(hl:m.length=s.mem.length)(hw:∀ x∈m,fC x):Ok k {s with mem:=m } p q:=⟨h.C3,h.lt,h.ll,h.tk,h.us,h.th,⟨hl.trans h.me.1,hw⟩,h.gt,h.tb,h.dk,h.wl,h.rH⟩
theorem Ok.al(h:Ok k s p q){g:Gates}(hg:rX s.eW g){p' q':List Int}(e:∀ w,cG g w+p'.count w+q.count w=cG s.al w+p.count w+q'.count w):Ok k {s with al:=g } p' q' :=
 ⟨h.C3,h.lt,h.ll,h.tk,h.us,h.th,h.me,hg,h.tb,h.dk,h.wl,fun w=>by
  have h1:=h.rH w;have h2:=e w
  have h3:dS {s with al:=g } w=dS s w:=rfl
  rw[h3];unfold nA at h1 ⊢;simp only;omega⟩
theorem Ok.cf(h:Ok k s p q){l:List Tub}(hl:l.length=s.cf.length)(hu:∀ u∈l,KL u){p' q':List Int}(e:∀ w,cT l w+p'.count w+q.count w=cT s.cf w+p.count w+q'.count w):Ok k {s with cf:=l } p' q' :=
 ⟨h.C3,h.lt,h.ll,h.tk,h.us,h.th,h.me,h.gt,⟨hl.trans h.tb.1,hu⟩,h.dk,h.wl,fun w=>by
  have h1:=h.rH w;have h2:=e w
  have h3:dS {s with cf:=l } w=dS s w:=rfl
  rw[h3];unfold nA at h1 ⊢;simp only;omega⟩
theorem Ok.ca(h:Ok k s p q){d:kG}(hd:BE d){p' q':List Int}(e:∀ w,cD d w+p'.count w+q.count w=cD s.ca w+p.count w+q'.count w):Ok k {s with ca:=d } p' q' :=
 ⟨h.C3,h.lt,h.ll,h.tk,h.us,h.th,h.me,h.gt,h.tb,hd,h.wl,fun w=>by
  have h1:=h.rH w;have h2:=e w
  have h3:dS {s with ca:=d } w=dS s w:=rfl
  rw[h3];unfold nA at h1 ⊢;simp only;omega⟩
theorem Ok.aS(h:Ok k s p q){u:lR}(hu:0≤u.now∧u.now≤1099511627776){p' q':List Int}(e:∀ w,cL u w+p'.count w+q.count w=cL s.aS w+p.count w+q'.count w):Ok k {s with aS:=u } p' q' :=
 ⟨h.C3,h.lt,h.ll,h.tk,h.us,h.th,h.me,h.gt,h.tb,h.dk,hu,fun w=>by
  have h1:=h.rH w;have h2:=e w
  have h3:dS {s with aS:=u } w=dS s w:=rfl
  rw[h3];unfold nA at h1 ⊢;simp only;omega⟩
theorem Ok.aV(h:Ok k s p q){n:Nat}{t t':bE}(ht:s.aG[n]?=some (some t))(hh:LD (s.table.getD n (false,0)) n t'){p' q':List Int}
  (e:∀ w,jn w (some t')+(if w=(n:Int) then bT t else 0)+p'.count w+q.count w=jn w (some t)+(if w=(n:Int) then bT t' else 0)+p.count w+q'.count w):Ok k (s.aV n t') p' q':=by
 have hn:n<s.aG.length:=(List.getElem?_eq_some_iff.1 ht).1
 refine⟨h.C3,?_,h.ll,h.tk,fun m hm=>?_,fun m u hu=>?_,h.me,h.gt,h.tb,h.dk,h.wl,fun w=>?_⟩
 ·show(s.aG.set n _).length=16;rw[List.length_set];exact h.lt
 ·refine(h.us m hm).trans ?_
  show(∃ t,s.aG[m]?=_)↔ ∃ t,(s.aG.set n (some t'))[m]?=_
  by_cases e:n=m
  ·subst e;rw[List.getElem?_set_self hn];exact⟨fun _=>⟨_,rfl⟩,fun _=>⟨_,ht⟩⟩
  ·rw[List.getElem?_set_ne e]
 ·have hu:(s.aG.set n (some t'))[m]?=some (some u):=hu
  by_cases e:n=m
  ·subst e;rw[List.getElem?_set_self hn] at hu;cases hu;exact hh
  ·rw[List.getElem?_set_ne e] at hu;exact h.th m u hu
 ·have h1:=h.rH w;have h2:=e w
  have h3:cJ (s.aV n t').aG w+jn w (some t)=cJ s.aG w+jn w (some t'):=gd (f:=jn w) (some t') ht
  have h4:dS (s.aV n t') w+(if w=(n:Int) then bT t else 0)=dS s w+(if w=(n:Int) then bT t' else 0):=by
   unfold dS
   rw[show(s.aV n t').at w=_ from n9 hn w]
   by_cases e:w=(n:Int)
   ·subst e;simp only[if_pos];rw[C0 ht];simp only[bO];omega
   ·simp only[if_neg e]
  have h5:nA (s.aV n t') w=cG s.al w+cT s.cf w+cD s.ca w+cL s.aS w+cJ (s.aV n t').aG w:=rfl
  rw[h5];unfold nA at h1;omega
end
end Go.SLYtpbjdoplfgeliaaGreat
namespace Go.SLYtpbjdoplfgeliaaGreat
open Go Go.RowKit
section
variable{k:Nat}{s:Spc}{p q:List Int}
theorem G9{l:List (Bool×Int)}{n:Nat}(hn:n<16)(hl:l.length=16)(h1:(l.getD n (false,0)).1=true)(_h0:0≤(l.getD n (false,0)).2):bz l (ei (l.getD n (false,0)).2 n)=some n:=by
 unfold bz
 have e:ei (l.getD n (false,0)).2 n % 65536=(n:Int)+1:=by unfold ei;omega
 rw[e,if_neg (by omega),show((n:Int)+1-1).toNat=n from by omega]
 have hx:=getD_some (d:=(false,(0:Int))) (show n<l.length by omega)
 rw[hx]
 simp only
 rw[if_pos (by simp only[and_true];exact h1)]
theorem Ok.Ha(h:Ok k s p q){n:Nat}{t:bE}(ht:s.aG[n]?=some (some t)):s.free n = {s with table:=s.table.set n (false,(s.table.getD n (false,0)).2),aG:=s.aG.set n none }:=by
 have hn:n<16:=h.lt ▸ (List.getElem?_eq_some_iff.1 ht).1
 have hx:=getD_some (d:=(false,(0:Int))) (show n<s.table.length by rw[h.ll];exact hn)
 have h0:=h.tk _ (List.mem_of_getElem? hx)
 unfold Spc.free
 rw[dQ ht,(h.th n t ht).h,tp (G9 hn h.ll ((h.us n hn).2 ⟨t,ht⟩) h0.1)]
 rfl
theorem Ok.free(h:Ok k s p q){n:Nat}{t:bE}(ht:s.aG[n]?=some (some t)){p' q':List Int}
  (e:∀ w,(if w=(n:Int) then bT t else 0)+p'.count w+q.count w=jn w (some t)+p.count w+q'.count w):Ok k (s.free n) p' q':=by
 have hn:n<s.aG.length:=(List.getElem?_eq_some_iff.1 ht).1
 have hn16:n<16:=h.lt ▸ hn
 have hlt:n<s.table.length:=by rw[h.ll];exact hn16
 have hx:=getD_some (d:=(false,(0:Int))) hlt
 rw[h.Ha ht]
 refine⟨h.C3,?_,?_,fun o ho=>?_,fun m hm=>?_,fun m u hu=>?_,h.me,h.gt,h.tb,h.dk,h.wl,fun w=>?_⟩
 ·show(s.aG.set n _).length=16;rw[List.length_set];exact h.lt
 ·show(s.table.set n _).length=16;rw[List.length_set];exact h.ll
 ·rcases List.mem_or_eq_of_mem_set ho with ho | rfl
  ·exact h.tk o ho
  ·show 0≤(s.table.getD n (false,0)).2∧_
   exact h.tk _ (List.mem_of_getElem? hx)
 ·show((s.table.set n _).getD m (false,0)).1=true↔ ∃ t,(s.aG.set n none)[m]?=_
  by_cases e:n=m
  ·subst e
   rw[List.getElem?_set_self hn,List.getD_eq_getElem?_getD,List.getElem?_set_self hlt]
   exact⟨fun h=>(by cases h),fun⟨t,h⟩=>(by cases h)⟩
  ·rw[List.getElem?_set_ne e,List.getD_eq_getElem?_getD,List.getElem?_set_ne e, ← List.getD_eq_getElem?_getD]
   exact h.us m hm
 ·have hu:(s.aG.set n none)[m]?=some (some u):=hu
  by_cases e:n=m
  ·subst e;rw[List.getElem?_set_self hn] at hu;cases hu
  ·rw[List.getElem?_set_ne e] at hu
   show LD ((s.table.set n _).getD m (false,0)) m u
   rw[List.getD_eq_getElem?_getD,List.getElem?_set_ne e, ← List.getD_eq_getElem?_getD]
   exact h.th m u hu
 ·have h1:=h.rH w;have h2:=e w
  have h3:cJ (s.aG.set n none) w+jn w (some t)=cJ s.aG w+0:=gd (f:=jn w) none ht
  have h4:dS {s with aG:=s.aG.set n none } w+(if w=(n:Int) then bT t else 0)=dS s w:=by
   unfold dS
   rw[n9 hn w]
   by_cases e:w=(n:Int)
   ·subst e;simp only[if_pos];rw[C0 ht];simp only[bO];omega
   ·simp only[if_neg e];omega
  have h5:dS {s with table:=s.table.set n (false,(s.table.getD n (false,0)).2),aG:=s.aG.set n none } w=dS {s with aG:=s.aG.set n none } w:=rfl
  rw[h5]
  unfold nA at h1 ⊢
  simp only
  omega
theorem Ok.begin(h:Ok k s p q)(hk:k≤1000000){f arg:Int}(ha:fC arg):Ok (k+1) (s.begin f arg).2.2 p q:=by
 cases hf:slotFree? s.table 0 with
 | none=>rw[j4 hf];exact h.more (Nat.le_succ _)
 | some n =>
  have hfr:∀ (l:List (Bool×Int)) (i n:Nat),slotFree? l i=some n→i≤n∧ ∃ o,l[n-i]?=some o∧o.1=false:=by
   intro l
   induction l with
   | nil=>intro i n h;cases h
   | cons o l ih =>
    intro i n h
    unfold slotFree? at h
    split at h
    ·obtain⟨a,o',b,c⟩:=ih (i+1) n h
     exact⟨by omega,o',by rw[show n-i=(n-(i+1))+1 from by omega];simpa using b,c⟩
    ·cases h;rename_i hb
     exact⟨Nat.le_refl _,o,by simp,by simpa using hb⟩
  obtain⟨-,o,ho,ho1⟩:=hfr _ _ _ hf
  rw[Nat.sub_zero] at ho
  have hlt:n<s.table.length:=(List.getElem?_eq_some_iff.1 ho).1
  have hn16:n<16:=h.ll ▸ hlt
  have hn:n<s.aG.length:=by rw[h.lt];exact hn16
  have hgd:s.table.getD n (false,0)=o:=by rw[List.getD_eq_getElem?_getD,ho];rfl
  have hno:s.aG[n]?=some none:=by
   obtain⟨x,hx⟩:=ak hn
   cases x with
   | none=>exact hx
   | some t=>have:=(h.us n hn16).2 ⟨t,hx⟩;rw[hgd,ho1] at this;cases this
  have htk:=h.tk o (List.mem_of_getElem? ho)
  rw[eX hf,hgd]
  refine⟨h.C3,?_,?_,fun o' ho'=>?_,fun m hm=>?_,fun m u hu=>?_,h.me,h.gt,h.tb,h.dk,h.wl,fun w=>?_⟩
  ·show(s.aG.set n _).length=16;rw[List.length_set];exact h.lt
  ·show(s.table.set n _).length=16;rw[List.length_set];exact h.ll
  ·rcases List.mem_or_eq_of_mem_set ho' with ho' | rfl
   ·have:=h.tk o' ho';omega
   ·show 0≤o.2+1∧o.2+1≤((k+1:Nat):Int);omega
  ·show((s.table.set n _).getD m (false,0)).1=true↔ ∃ t,(s.aG.set n _)[m]?=_
   by_cases e:n=m
   ·subst e
    rw[List.getElem?_set_self hn,List.getD_eq_getElem?_getD,List.getElem?_set_self hlt]
    exact⟨fun _=>⟨_,rfl⟩,fun _=>rfl⟩
   ·rw[List.getElem?_set_ne e,List.getD_eq_getElem?_getD,List.getElem?_set_ne e, ← List.getD_eq_getElem?_getD]
    exact h.us m hm
  ·have hu:(s.aG.set n _)[m]?=some (some u):=hu
   by_cases e:n=m
   ·subst e;rw[List.getElem?_set_self hn] at hu;cases hu
    show LD ((s.table.set n _).getD n (false,0)) n _
    rw[List.getD_eq_getElem?_getD,List.getElem?_set_self hlt]
    refine⟨rfl,⟨rfl,fun m=>?_,by show(-1:Int)≤ -1∧(-1:Int)<8;decide,by show(0:Int)≤0∧(0:Int)≤_;decide,?_⟩,by show(0:Int)≤0∧(0:Int)≤257;decide,fun h=>(by cases h),fun h=>rfl⟩
    ·have h0:(0:Int)≤0∧(0:Int)≤18446744073709551615:=by decide
     show 0≤([arg,0,0,0,0,0,0,0]:List Int).getD m 0∧_
     match m with
     | 0=>exact ha
     | 1=>exact h0
     | 2=>exact h0
     | 3=>exact h0
     | 4=>exact h0
     | 5=>exact h0
     | 6=>exact h0
     | 7=>exact h0
     | m+8=>exact h0
    ·show 0≤ei (o.2+1) n∧ei (o.2+1) n≤_;unfold ei;omega
   ·rw[List.getElem?_set_ne e] at hu
    show LD ((s.table.set n _).getD m (false,0)) m u
    rw[List.getD_eq_getElem?_getD,List.getElem?_set_ne e, ← List.getD_eq_getElem?_getD]
    exact h.th m u hu
  ·have h1:=h.rH w
   have h3:cJ (s.aG.set n (some (rF f arg (ei (o.2+1) n)))) w+0=cJ s.aG w+jn w (some (rF f arg (ei (o.2+1) n))):=gd (f:=jn w) _ hno
   have hj:jn w (some (rF f arg (ei (o.2+1) n)))=0:=by unfold jn;exact if_neg (by rintro⟨a,b⟩;exact b a.symm)
   have h4:dS {s with aG:=s.aG.set n (some (rF f arg (ei (o.2+1) n))) } w=dS s w:=by
    unfold dS
    rw[n9 hn w]
    by_cases e:w=(n:Int)
    ·subst e;simp only[if_pos];rw[n8,hno];rfl
    ·simp only[if_neg e]
   have h5:dS {s with table:=s.table.set n (true,o.2+1),aG:=s.aG.set n (some (rF f arg (ei (o.2+1) n))) } w=dS {s with aG:=s.aG.set n (some (rF f arg (ei (o.2+1) n))) } w:=rfl
   rw[h5]
   unfold nA at h1 ⊢
   simp only
   omega
end
end Go.SLYtpbjdoplfgeliaaGreat
namespace Go.SLYtpbjdoplfgeliaaGreat
open Go Go.RowKit
def opn(V:List Rec)(h:Int):Option Int:=match (V.filter fun r=>decide (r.ab=h)).getLast? with | none=>none | some r=>if r.fin=true then none else some r.op
theorem Hb{V:List Rec}{r:Rec}{h:Int}(e:r.ab=h):opn (V++[r]) h=if r.fin=true then none else some r.op:=by
 unfold opn;rw[List.filter_append];simp[e]
theorem Em{V:List Rec}{r:Rec}{h:Int}(e:r.ab≠h):opn (V++[r]) h=opn V h:=by
 unfold opn;rw[List.filter_append];simp[e]
def tI(V:List Rec):Prop:=∀ a r b,V=a++r::b→ ∀ op,opn a r.ab=some op→r.fin=true∧r.op=op∧r.x=0∧r.result=0
theorem tI.nil:tI []:=fun a r b e=>by cases a <;> cases e
theorem tI.snoc{V:List Rec}{r:Rec}(h:tI V)(hr:∀ op,opn V r.ab=some op→r.fin=true∧r.op=op∧r.x=0∧r.result=0):tI (V++[r]):=fun a q b e=>by
 rcases List.eq_nil_or_concat b with rfl | ⟨b',z,rfl⟩
 ·have:=List.append_inj' e rfl
  obtain⟨rfl,h2⟩:=this
  cases h2
  exact hr
 ·rw[List.concat_eq_append, ← List.cons_append, ← List.append_assoc] at e
  have:=List.append_inj' e rfl
  exact h a q b' this.1
structure dX(s:Spc)(V:List Rec):Prop where
 pr:tI V
 op:∀ (n:Nat) (t:bE),s.aG[n]?=some (some t)→opn V t.handle=if bT t=1 then some t.op else none
 hd:∀ r∈V, ∃ (n:Nat) (k:Int),n<16∧r.ab=ei k n∧k≤(s.table.getD n (false,0)).2
theorem wy{a b:Int}{n m:Nat}(hn:n<16)(hm:m<16)(h:ei a n=ei b m):n=m∧a=b:=by unfold ei at h;omega
section
variable{k:Nat}{s:Spc}{p q:List Int}{V:List Rec}{n:Nat}{t t':bE}
theorem dX.of(h:dX s V){s':Spc}(e1:s'.aG=s.aG)(e2:s'.table=s.table):dX s' V:=⟨h.pr,fun n t ht=>h.op n t (by rw[← e1];exact ht),fun r hr=>by rw[e2];exact h.hd r hr⟩
theorem En(hO:Ok k s p q){m:Nat}{u:bE}(ht:s.aG[n]?=some (some t))(hu:s.aG[m]?=some (some u))(hne:n≠m):t.handle≠u.handle:=fun e=>by
 rw[(hO.th n t ht).h,(hO.th m u hu).h] at e
 exact hne (wy (hO.lt ▸ (List.getElem?_eq_some_iff.1 ht).1) (hO.lt ▸ (List.getElem?_eq_some_iff.1 hu).1) e).1
theorem dX.yk(h:dX s V)(hO:Ok k s p q)(ht:s.aG[n]?=some (some t)){r:Rec}(hr:r.ab=t.handle)(hh:t'.handle=t.handle)(hp:∀ op,opn V t.handle=some op→r.fin=true∧r.op=op∧r.x=0∧r.result=0)
  (he:(if r.fin=true then none else some r.op)=if bT t'=1 then some t'.op else none):dX (s.aV n t') (V++[r]):=by
 have hn:n<s.aG.length:=(List.getElem?_eq_some_iff.1 ht).1
 refine⟨h.pr.snoc (by rw[hr];exact hp),fun m u hu=>?_,fun x hx=>?_⟩
 ·have hu:(s.aG.set n (some t'))[m]?=some (some u):=hu
  by_cases e:n=m
  ·subst e;rw[List.getElem?_set_self hn] at hu;cases hu
   rw[hh,Hb hr];exact he
  ·rw[List.getElem?_set_ne e] at hu
   rw[Em (by rw[hr];exact En hO ht hu e)]
   exact h.op m u hu
 ·rcases List.mem_append.1 hx with hx | hx
  ·exact h.hd x hx
  ·rw[List.mem_singleton] at hx
   rw[hx,hr,(hO.th n t ht).h]
   exact⟨n,_,hO.lt ▸ hn,rfl,Int.le_refl _⟩
theorem dX.aV(h:dX s V)(ht:s.aG[n]?=some (some t))(hh:t'.handle=t.handle)(hb:bT t'=bT t)(ho:bT t=1→t'.op=t.op):dX (s.aV n t') V:=by
 have hn:n<s.aG.length:=(List.getElem?_eq_some_iff.1 ht).1
 refine⟨h.pr,fun m u hu=>?_,h.hd⟩
 have hu:(s.aG.set n (some t'))[m]?=some (some u):=hu
 by_cases e:n=m
 ·subst e;rw[List.getElem?_set_self hn] at hu;cases hu
  rw[hh,h.op n t ht,hb]
  by_cases e:bT t=1
  ·rw[if_pos e,if_pos e,ho e]
  ·rw[if_neg e,if_neg e]
 ·rw[List.getElem?_set_ne e] at hu
  exact h.op m u hu
theorem dX.tell(h:dX s V)(hO:Ok k s p q)(ht:s.aG[n]?=some (some t))(hb:bT t=0){o x y e:Int}:dX s (V++[⟨t.handle,o,x,y,e,true⟩]):=by
 have h0:opn V t.handle=none:=by rw[h.op n t ht,hb];rfl
 have:=h.yk (t':=t) hO ht (r:=⟨t.handle,o,x,y,e,true⟩) rfl rfl (fun op e=>by rw[h0] at e;cases e) (by rw[hb];rfl)
 refine this.of ?_ rfl
 show s.aG=s.aG.set n (some t)
 rw[fy ht]
theorem dX.free(h:dX s V)(hO:Ok k s p q)(ht:s.aG[n]?=some (some t)):dX (s.free n) V:=by
 have hn:n<s.aG.length:=(List.getElem?_eq_some_iff.1 ht).1
 have hlt:n<s.table.length:=by rw[hO.ll, ← hO.lt];exact hn
 rw[hO.Ha ht]
 refine⟨h.pr,fun m u hu=>?_,fun r hr=>?_⟩
 ·have hu:(s.aG.set n none)[m]?=some (some u):=hu
  by_cases e:n=m
  ·subst e;rw[List.getElem?_set_self hn] at hu;cases hu
  ·rw[List.getElem?_set_ne e] at hu;exact h.op m u hu
 ·obtain⟨m,k,h1,h2,h3⟩:=h.hd r hr
  refine⟨m,k,h1,h2,?_⟩
  show k≤((s.table.set n (false,(s.table.getD n (false,0)).2)).getD m (false,0)).2
  by_cases e:n=m
  ·subst e;rw[List.getD_eq_getElem?_getD,List.getElem?_set_self hlt];exact h3
  ·rw[List.getD_eq_getElem?_getD,List.getElem?_set_ne e, ← List.getD_eq_getElem?_getD];exact h3
theorem Hc{V:List Rec}{h:Int}(e:∀ r∈V,r.ab≠h):opn V h=none:=by
 unfold opn
 rw[List.filter_eq_nil_iff.2 (fun r hr=>by simpa using e r hr)];rfl
theorem dX.begin(h:dX s V)(hO:Ok k s p q){f a:Int}:dX (s.begin f a).2.2 V:=by
 cases hf:slotFree? s.table 0 with
 | none=>rw[j4 hf];exact h
 | some n =>
  have hn16:n<16:=by
   have hfr:∀ (l:List (Bool×Int)) (i n:Nat),slotFree? l i=some n→n<i+l.length:=by
    intro l
    induction l with
    | nil=>intro i n h;cases h
    | cons o l ih =>
     intro i n h
     unfold slotFree? at h
     split at h
     ·have:=ih (i+1) n h;simp only[List.length_cons];omega
     ·cases h;simp only[List.length_cons];omega
   have:=hfr _ _ _ hf
   have:=hO.ll
   omega
  have hn:n<s.aG.length:=by rw[hO.lt];exact hn16
  have hlt:n<s.table.length:=by rw[hO.ll];exact hn16
  rw[eX hf]
  refine⟨h.pr,fun m u hu=>?_,fun r hr=>?_⟩
  ·have hu:(s.aG.set n _)[m]?=some (some u):=hu
   by_cases e:n=m
   ·subst e;rw[List.getElem?_set_self hn] at hu;cases hu
    refine(Hc fun r hr e=>?_).trans rfl
    obtain⟨m,k,h1,h2,h3⟩:=h.hd r hr
    rw[h2] at e
    obtain⟨rfl,rfl⟩:=wy h1 hn16 e
    omega
   ·rw[List.getElem?_set_ne e] at hu;exact h.op m u hu
  ·obtain⟨m,k,h1,h2,h3⟩:=h.hd r hr
   refine⟨m,k,h1,h2,?_⟩
   show k≤((s.table.set n (true,(s.table.getD n (false,0)).2+1)).getD m (false,0)).2
   by_cases e:n=m
   ·subst e;rw[List.getD_eq_getElem?_getD,List.getElem?_set_self hlt];show k≤(s.table.getD n (false,0)).2+1;omega
   ·rw[List.getD_eq_getElem?_getD,List.getElem?_set_ne e, ← List.getD_eq_getElem?_getD];exact h3
theorem zS{u:bE}{y:Int}:(u.fu y).handle=u.handle:=by show(if u.bZ = -1 then u else u.put u.bZ y).handle=_;split <;> rfl
theorem dX.dJ(h:dX s V)(hO:Ok k s p q){w0:Int}{u:bE}(hu:s.at w0=some u)(hu0:u.cQ≠0)(hu9:u.cQ≠9){y:Int}:dX (s.dJ w0.toNat y) (V++[u.jS y]):=by
 obtain⟨h0,hat⟩:=iQ hu
 unfold Spc.dJ
 rw[dQ hat]
 have hb:bT u=1:=jU hu0 hu9
 refine h.yk hO hat rfl zS (fun op e=>?_) ?_
 ·rw[h.op _ u hat,hb,if_pos rfl] at e
  cases e
  exact⟨rfl,rfl,rfl,rfl⟩
 ·rw[show bT (u.fu y)=0 from oa rfl];rfl
end
end Go.SLYtpbjdoplfgeliaaGreat
namespace Go.SLYtpbjdoplfgeliaaGreat
open Go Go.RowKit
structure dE(k:Nat)(s0:Spc)(d:Dng)(p q:List Int):Prop where
 ok:Ok k d.s p q
 rd:∀ w,df d.s w+(if (d.out.aQ=true∨d.out.ended=true)∧w=(d.n:Int) then 1 else 0)=df s0 w+d.out.ar.count w
 wk:∀ w∈d.out.ar,df s0 w=0
 rc:dX d.s (d.s.au++d.ends)
 px:s0.au <+: d.s.au
section
variable{k:Nat}{s0:Spc}{d:Dng}{p q:List Int}{t:bE}
theorem gQ{w:Int}{t:bE}:jn w (some t)=if t.ax=w∧¬w = -1 then 1 else 0:=rfl
theorem du{t:bE}:rO (some t)=if t.cQ=0 then 1 else 0:=rfl
theorem mn{s:Spc}{n:Nat}{t t':bE}(ht:s.aG[n]?=some (some t))(w:Int):df (s.aV n t') w=if w=(n:Int) then rO (some t') else df s w:=by
 unfold df
 rw[show(s.aV n t').at w=_ from n9 (List.getElem?_eq_some_iff.1 ht).1 w]
 split <;> rfl
theorem ob{s:Spc}{n:Nat}{t:bE}(ht:s.aG[n]?=some (some t)):df s (n:Int)=rO (some t):=by unfold df;rw[C0 ht]
theorem dE.rH(h:dE k s0 d p q){p' q':List Int}(e:∀ w,p'.count w+q.count w=p.count w+q'.count w):dE k s0 d p' q':=⟨h.ok.LF e,h.rd,h.wk,h.rc,h.px⟩
theorem dE.tell(h:dE k s0 d p q)(ht:d.s.aG[d.n]?=some (some t))(hw:t.cQ=0)(hn:d.ends=[]){x y e:Int}:dE k s0 (d.tell x y e true) p q:=⟨h.ok.au _,h.rd,h.wk,by
 have h1:=h.rc
 rw[hn,List.append_nil] at h1
 have h2:=h1.tell h.ok ht (oa hw) (o:=d.i.op) (x:=x) (y:=y) (e:=e)
 show dX (d.s.tell ⟨d.t.handle,d.i.op,x,y,e,true⟩) ((d.s.au++[⟨d.t.handle,d.i.op,x,y,e,true⟩])++d.ends)
 rw[hn,List.append_nil,dj ht]
 exact h2.of rfl rfl,h.px.trans (List.prefix_append _ _)⟩
theorem dE.own(h:dE k s0 d p q)(ht:d.s.aG[d.n]?=some (some t)){t':bE}(hR:gV t')(hpc:0≤t'.pc∧t'.pc≤257)(e1:t'.handle=t.handle)(e2:t'.cQ=t.cQ)(e3:t'.ax=t.ax)(e4:t'.bK=t.bK)(e5:t'.op=t.op):dE k s0 (d.aV t') p q:=by
 have ho:=h.ok.th d.n t ht
 refine⟨h.ok.aV ht ⟨e1.trans ho.h,hR,hpc,fun a=>by rw[e3];exact ho.d (by rw[← e4];exact a),fun a=>by rw[e3];exact ho.f (by rw[← e2];exact a)⟩ (fun w=>?_),fun w=>?_,h.wk,h.rc.aV ht e1 (by unfold bT;rw[e2]) (fun _=>e5),h.px⟩
 ·have hjj:jn w (some t')=jn w (some t):=by rw[gQ,gQ,e3]
  have hbb:bT t'=bT t:=by unfold bT;rw[e2]
  rw[hjj,hbb]
 ·have:=h.rd w
  have hr:df (d.aV t').s w=df d.s w:=by
   show df (d.s.aV d.n t') w=_
   rw[mn ht]
   split
   ·rename_i e;rw[e,ob ht,du,du,e2]
   ·rfl
  rw[hr];exact this
theorem dE.pass(h:dE k s0 d p q)(ht:d.s.aG[d.n]?=some (some t))(hw:t.cQ=0)(hn:d.ends=[]){x y e:Int}(he:0≤e∧e≤11):dE k s0 (d.pass x y e) p q:=by
 have ho:=h.ok.th d.n t ht
 unfold Dng.pass
 rw[dj ht]
 exact dE.own (d:=d.tell x y e true) (h.tell ht hw hn) ht (ho.R.put (by omega)) ho.pc rfl rfl rfl rfl rfl
theorem dE.block(h:dE k s0 d p ((d.n:Int)::q))(ht:d.s.aG[d.n]?=some (some t))(hw:t.cQ=0)(hn:d.ends=[])(hs:d.out.aQ=false)(hd:d.out.ended=false){a i x y:Int}(ha:a≠0∧a≠9)(hi : -1≤i∧i<8):dE k s0 (d.block a i x y) p q:=by
 have ho:=h.ok.th d.n t ht
 have hTo:Ok k (d.tell x y 0 false).s p ((d.n:Int)::q):=h.ok.au _
 have ht2:(d.tell x y 0 false).s.aG[d.n]?=some (some t):=ht
 unfold Dng.block
 rw[dj ht]
 refine⟨hTo.aV ht2 (t':={t with cQ:=a,op:=d.i.op,bZ:=i }) ⟨ho.h,ho.R.with hi,ho.pc,ho.d,fun e=>absurd e ha.2⟩ (fun w=>?_),fun w=>?_,h.wk,?_,h.px.trans (List.prefix_append _ _)⟩
 ·have e1:bT t=0:=oa hw
  have e2:bT {t with cQ:=a,op:=d.i.op,bZ:=i }=1:=jU ha.1 ha.2
  have e3:jn w (some {t with cQ:=a,op:=d.i.op,bZ:=i })=jn w (some t):=rfl
  rw[e1,e2,e3,List.count_cons]
  simp only[beq_iff_eq]
  by_cases e:w=(d.n:Int)
  ·rw[if_pos e,if_pos e,if_pos e.symm];omega
  ·rw[if_neg e,if_neg e,if_neg (fun h=>e h.symm)];omega
 ·have h1:=h.rd w
  rw[if_neg (by rw[hs,hd];simp)] at h1
  show df ((d.tell x y 0 false).s.aV d.n {t with cQ:=a,op:=d.i.op,bZ:=i }) w+(if (true=true∨d.out.ended=true)∧w=(d.n:Int) then 1 else 0)=df s0 w+d.out.ar.count w
  rw[mn ht2]
  by_cases e:w=(d.n:Int)
  ·rw[if_pos e,if_pos ⟨.inl rfl,e⟩]
   rw[e,ob ht] at h1
   have:rO (some t)=1:=by rw[du,if_pos hw]
   have:rO (some {t with cQ:=a,op:=d.i.op,bZ:=i })=0:=by rw[du];exact if_neg ha.1
   rw[e];omega
  ·rw[if_neg e,if_neg (fun h=>e h.2)]
   exact h1
 ·have h1:=h.rc
  rw[hn,List.append_nil] at h1
  have e2:bT {t with cQ:=a,op:=d.i.op,bZ:=i }=1:=jU ha.1 ha.2
  have h0:opn d.s.au t.handle=none:=by rw[h1.op d.n t ht,oa hw];rfl
  have h2:=h1.yk (t':={t with cQ:=a,op:=d.i.op,bZ:=i }) h.ok ht (r:=⟨t.handle,d.i.op,x,y,0,false⟩) rfl rfl (fun op e=>by rw[h0] at e;cases e) (by rw[e2];rfl)
  show dX ((d.tell x y 0 false).s.aV d.n {t with cQ:=a,op:=d.i.op,bZ:=i }) ((d.s.au++[⟨d.t.handle,d.i.op,x,y,0,false⟩])++d.ends)
  rw[hn,List.append_nil,dj ht]
  exact h2.of rfl rfl
theorem pk{u:bE}{y:Int}:(u.fu y).ax=u.ax:=by show(if u.bZ = -1 then u else u.put u.bZ y).ax=_;split <;> rfl
theorem Ok.dJ{s:Spc}(h:Ok k s p q){w0:Int}{u:bE}(hu:s.at w0=some u)(hu0:u.cQ≠0)(hu9:u.cQ≠9){y:Int}(hy:fC y):Ok k (s.dJ w0.toNat y) p (w0::q):=by
 obtain⟨h0,hat⟩:=iQ hu
 have ho:=h.th _ u hat
 have hc:((w0.toNat:Nat):Int)=w0:=by omega
 unfold Spc.dJ
 rw[dQ hat]
 refine h.aV hat ⟨?_,ho.R.fu hy,?_,?_,?_⟩ (fun w=>?_)
 ·rw[← ho.h];show(if u.bZ = -1 then u else u.put u.bZ y).handle=_;split <;> rfl
 ·show 0≤(if u.bZ = -1 then u else u.put u.bZ y).pc∧(if u.bZ = -1 then u else u.put u.bZ y).pc≤257;split <;> exact ho.pc
 ·intro e
  rw[pk];refine ho.d ?_
  rw[← e];show _=(if u.bZ = -1 then u else u.put u.bZ y).bK;split <;> rfl
 ·intro e;exact absurd (show(0:Int)=9 from e) (by decide)
 ·have e1:bT u=1:=jU hu0 hu9
  have e2:bT (u.fu y)=0:=oa rfl
  have e3:jn w (some (u.fu y))=jn w (some u):=by rw[gQ,gQ,pk]
  rw[e1,e2,e3,List.count_cons,hc]
  simp only[beq_iff_eq]
  by_cases e:w=w0
  ·rw[if_pos e,if_pos e,if_pos e.symm];omega
  ·rw[if_neg e,if_neg e,if_neg (fun h=>e h.symm)];omega
theorem pn{s:Spc}{w0:Int}{u:bE}(hu:s.at w0=some u){y:Int}(w:Int):df (s.dJ w0.toNat y) w=if w=w0 then 1 else df s w:=by
 obtain⟨h0,hat⟩:=iQ hu
 unfold Spc.dJ
 rw[dQ hat,mn hat,show((w0.toNat:Nat):Int)=w0 from by omega]
 rfl
theorem dE.MZ(h:dE k s0 d p q){w0:Int}{u:bE}(hu:d.s.at w0=some u)(hu0:u.cQ≠0)(hu9:u.cQ≠9){y:Int}(hy:fC y)(hne:w0=(d.n:Int)→d.out.aQ=false∧d.out.ended=false):dE k s0 (d.ck w0.toNat y) p (w0::q):=by
 have h0:=(iQ hu).1
 have hr:df d.s w0=0:=by unfold df;rw[hu,du];exact if_neg hu0
 refine⟨h.ok.dJ hu hu0 hu9 hy,fun w=>?_,fun w hw=>?_,?_,h.px⟩
 ·have h1:=h.rd w
  show df (d.s.dJ w0.toNat y) w+(if (d.out.aQ=true∨d.out.ended=true)∧w=(d.n:Int) then 1 else 0)=df s0 w+(d.out.ar++[((w0.toNat:Nat):Int)]).count w
  rw[pn hu,List.count_append,List.count_singleton,show((w0.toNat:Nat):Int)=w0 from by omega]
  simp only[beq_iff_eq]
  generalize (if (d.out.aQ=true∨d.out.ended=true)∧w=(d.n:Int) then 1 else 0)=B at h1 ⊢
  by_cases e:w=w0
  ·rw[if_pos e,if_pos e.symm]
   rw[e] at h1 ⊢
   omega
  ·rw[if_neg e,if_neg (fun h=>e h.symm)];omega
 ·have hw:w∈d.out.ar++[((w0.toNat:Nat):Int)]:=hw
  rcases List.mem_append.1 hw with hw | hw
  ·exact h.wk w hw
  ·rw[List.mem_singleton,show((w0.toNat:Nat):Int)=w0 from by omega] at hw
   subst hw
   have h1:=h.rd w
   by_cases e:w=(d.n:Int)
   ·obtain⟨e1,e2⟩:=hne e
    rw[if_neg (by rw[e1,e2];simp)] at h1;omega
   ·rw[if_neg (fun h=>e h.2)] at h1;omega
 ·have h2:=h.rc.dJ h.ok hu hu0 hu9 (y:=y)
  show dX (d.s.dJ w0.toNat y) (d.s.au++(d.ends++[(d.s.t w0.toNat).jS y]))
  rw[← List.append_assoc,dQ (iQ hu).2]
  exact h2
theorem dE.ck(h:dE k s0 d p q){w0:Int}(hpq:q.count w0<p.count w0){y:Int}(hy:fC y)(hne:w0=(d.n:Int)→d.out.aQ=false∧d.out.ended=false):dE k s0 (d.ck w0.toNat y) p (w0::q):=by
 have hb:=h.ok.rH w0
 obtain⟨u,hu,hu0,hu9⟩:=jO (show 0<dS d.s w0 by omega)
 exact h.MZ hu hu0 hu9 hy hne
theorem dE.bC(h:dE k s0 d p q){g:Gates}(hg:rX d.s.eW g){p' q':List Int}(e:∀ w,cG g w+p'.count w+q.count w=cG d.s.al w+p.count w+q'.count w):dE k s0 (d.bC g) p' q':=⟨h.ok.al hg e,h.rd,h.wk,h.rc.of rfl rfl,h.px⟩
theorem dE.eM(h:dE k s0 d p q){i:Nat}{u v:Tub}(hi:d.s.cf[i]?=some u)(hv:KL v){p' q':List Int}(e:∀ w,cU w v+p'.count w+q.count w=cU w u+p.count w+q'.count w):dE k s0 (d.eM i v) p' q':=by
 refine⟨h.ok.cf (by rw[List.length_set]) (fun x hx=>?_) (fun w=>?_),h.rd,h.wk,h.rc.of rfl rfl,h.px⟩
 ·rcases List.mem_or_eq_of_mem_set hx with hx | rfl
  ·exact h.ok.tb.2 x hx
  ·exact hv
 ·have h1:cT (d.s.cf.set i v) w+cU w u=cT d.s.cf w+cU w v:=gd (f:=cU w) v hi
  have:=e w;omega
theorem dE.dh(h:dE k s0 d p q){u:kG}(hu:BE u){p' q':List Int}(e:∀ w,cD u w+p'.count w+q.count w=cD d.s.ca w+p.count w+q'.count w):dE k s0 (d.dh u) p' q':=⟨h.ok.ca hu e,h.rd,h.wk,h.rc.of rfl rfl,h.px⟩
theorem dE.vW(h:dE k s0 d p q){u:lR}(hu:0≤u.now∧u.now≤1099511627776){p' q':List Int}(e:∀ w,cL u w+p'.count w+q.count w=cL d.s.aS w+p.count w+q'.count w):dE k s0 (d.vW u) p' q':=⟨h.ok.aS hu e,h.rd,h.wk,h.rc.of rfl rfl,h.px⟩
theorem tK(h:Ok k d.s p q){n:Nat}(ht:d.s.aG[n]?=some (some t))(w:Int):df (d.s.free n) w=if w=(n:Int) then 0 else df d.s w:=by
 rw[h.Ha ht]
 unfold df
 rw[show({d.s with table:=d.s.table.set n (false,(d.s.table.getD n (false,0)).2),aG:=d.s.aG.set n none }:Spc).at w=({d.s with aG:=d.s.aG.set n none }:Spc).at w from rfl,n9 (List.getElem?_eq_some_iff.1 ht).1 w]
 split <;> rfl
theorem dE.free(h:dE k s0 d p q){m:Nat}(ht:d.s.aG[m]?=some (some t))(h9:t.cQ=9):dE k s0 (d.free m) p q:=by
 have ho:=h.ok.th m t ht
 refine⟨h.ok.free ht (fun w=>?_),fun w=>?_,h.wk,h.rc.free h.ok ht,h.px⟩
 ·have e1:bT t=0:=by unfold bT;rw[if_pos (.inr h9)]
  have e2:jn w (some t)=0:=by rw[gQ,ho.f h9];exact if_neg (by rintro⟨a,b⟩;exact b a.symm)
  rw[e1,e2];split <;> omega
 ·have h1:=h.rd w
  show df (d.s.free m) w+_=_
  rw[tK h.ok ht]
  by_cases e:w=(m:Int)
  ·have h2:df d.s w=0:=by rw[e,ob ht,du];exact if_neg (by omega)
   rw[if_pos e];rw[h2] at h1;exact h1
  ·rw[if_neg e];exact h1
theorem dE.fin(h:dE k s0 d [] [])(ht:d.s.aG[d.n]?=some (some t))(hw:t.cQ=0)(hs:d.out.aQ=false)(hd:d.out.ended=false){v:Int}(hv:fC v):dE k s0 (d.fin v) [] []:=by
 have ho:=h.ok.th d.n t ht
 have hr0:rO (some t)=1:=by rw[du];exact if_pos hw
 have hbt:bT t=0:=oa hw
 have h1:=h.rd
 have hend:∀ w,(if (d.ended.out.aQ=true∨d.ended.out.ended=true)∧w=(d.ended.n:Int) then 1 else 0)=if w=(d.n:Int) then 1 else 0:=fun w=>by
  by_cases e:w=(d.n:Int)
  ·rw[if_pos (show(d.ended.out.aQ=true∨d.ended.out.ended=true)∧w=(d.ended.n:Int) from⟨.inr rfl,e⟩),if_pos e]
  ·rw[if_neg (show ¬((d.ended.out.aQ=true∨d.ended.out.ended=true)∧w=(d.ended.n:Int)) from fun h=>e h.2),if_neg e]
 have hrd:∀ w,df d.s w=df s0 w+d.out.ar.count w:=fun w=>by
  have:=h1 w;rw[if_neg (by rw[hs,hd];simp)] at this;exact this
 cases hdt:t.bK with
 | true =>
  rw[CS ht hdt]
  refine⟨h.ok.free ht (fun w=>?_),fun w=>?_,h.wk,h.rc.free h.ok ht,h.px⟩
  ·have e2:jn w (some t)=0:=by rw[gQ,ho.d hdt];exact if_neg (by rintro⟨a,b⟩;exact b a.symm)
   rw[hbt,e2];split <;> omega
  ·show df (d.s.free d.n) w+(if (d.ended.out.aQ=true∨d.ended.out.ended=true)∧w=(d.ended.n:Int) then 1 else 0)=df s0 w+d.out.ar.count w
   rw[hend,tK h.ok ht, ← hrd]
   by_cases e:w=(d.n:Int)
   ·rw[if_pos e,if_pos e,e,ob ht,hr0]
   ·rw[if_neg e,if_neg e];rfl
 | false =>
  by_cases hj:t.ax = -1
  ·rw[zH ht hdt hj]
   refine⟨h.ok.aV (s:=d.s) (t':={t with cQ:=9,value:=v }) ht ⟨ho.h,⟨ho.R.l,ho.R.r,ho.R.i,hv,ho.R.h⟩,ho.pc,ho.d,fun _=>hj⟩ (fun w=>?_),fun w=>?_,h.wk,h.rc.aV (s:=d.s) (t':={t with cQ:=9,value:=v }) ht rfl (by rw[hbt];try rfl) (fun e=>absurd e (by rw[hbt];decide)),h.px⟩
   ·have e1:bT {t with cQ:=9,value:=v }=0:=by unfold bT;exact if_pos (.inr rfl)
    have e3:jn w (some {t with cQ:=9,value:=v })=jn w (some t):=rfl
    rw[hbt,e1,e3]
   ·show df (d.s.aV d.n {t with cQ:=9,value:=v }) w+(if (d.ended.out.aQ=true∨d.ended.out.ended=true)∧w=(d.ended.n:Int) then 1 else 0)=df s0 w+d.out.ar.count w
    rw[hend,mn ht, ← hrd]
    by_cases e:w=(d.n:Int)
    ·rw[if_pos e,if_pos e,e,ob ht,hr0,du,if_neg (by show(9:Int)≠0;decide)]
    ·rw[if_neg e,if_neg e];rfl
  ·rw[zI ht hdt hj]
   -- who joined ck on: it is counted by this thread's own word
   have hcj:1≤nA d.s t.ax:=by
    have:jn t.ax (some t)=1:=by rw[gQ];exact if_pos ⟨rfl,hj⟩
    have h2:jn t.ax (some t)≤cJ d.s.aG t.ax:=eD (f:=jn t.ax) (List.mem_of_getElem? ht)
    unfold nA;omega
   have hb:=h.ok.rH t.ax
   obtain⟨u,hu,hu0,hu9⟩:=jO (s:=d.s) (w:=t.ax) (by simp at hb;omega)
   obtain⟨h0,hat⟩:=iQ hu
   have hne:t.ax.toNat≠d.n:=fun e=>by rw[e,ht] at hat;cases hat;exact hu0 hw
   have hc:((t.ax.toNat:Nat):Int)=t.ax:=by omega
   have hk:=h.ok.dJ hu hu0 hu9 hv
   have ht2:(d.s.dJ t.ax.toNat v).aG[d.n]?=some (some t):=by
    unfold Spc.dJ;exact fA ht hne
   refine⟨hk.free (n:=d.n) ht2 (fun w=>?_),fun w=>?_,fun w hw=>?_,?_,h.px⟩
   ·rw[hbt,gQ,List.count_cons]
    simp only[beq_iff_eq,List.count_nil]
    by_cases e:t.ax=w
    ·rw[if_pos (show t.ax=w∧¬w = -1 from⟨e,by rw[← e];exact hj⟩),if_pos e];split <;> omega
    ·rw[if_neg (show ¬(t.ax=w∧¬w = -1) from fun h=>e h.1),if_neg e];split <;> omega
   ·show df ((d.s.dJ t.ax.toNat v).free d.n) w+(if (d.ended.out.aQ=true∨d.ended.out.ended=true)∧w=(d.ended.n:Int) then 1 else 0)=df s0 w+(d.out.ar++[((t.ax.toNat:Nat):Int)]).count w
    rw[hend,tK (d:={d with s:=d.s.dJ t.ax.toNat v }) hk ht2,hc,List.count_append,List.count_singleton]
    simp only[beq_iff_eq]
    rw[pn hu]
    have h2:=hrd w
    by_cases e:w=(d.n:Int)
    ·rw[if_pos e,if_pos e,if_neg (show ¬t.ax=w by rw[e];omega)]
     rw[e,ob ht,hr0] at h2
     rw[e];omega
    ·rw[if_neg e,if_neg e]
     by_cases e2:w=t.ax
     ·rw[if_pos e2,if_pos e2.symm]
      have:df d.s w=0:=by rw[e2];unfold df;rw[hu,du];exact if_neg hu0
      omega
     ·rw[if_neg e2,if_neg (fun h=>e2 h.symm)];omega
   ·have hw:w∈d.out.ar++[((t.ax.toNat:Nat):Int)]:=hw
    rcases List.mem_append.1 hw with hw | hw
    ·exact h.wk w hw
    ·rw[List.mem_singleton,hc] at hw
     have h2:=hrd w
     have:df d.s w=0:=by rw[hw];unfold df;rw[hu,du];exact if_neg hu0
     omega
   ·have h2:=h.rc.dJ h.ok hu hu0 hu9 (y:=v)
    have h3:=h2.free hk (n:=d.n) ht2
    show dX ((d.s.dJ t.ax.toNat v).free d.n) (d.s.au++(d.ends++[(d.s.t t.ax.toNat).jS v]))
    rw[← List.append_assoc,dQ hat]
    exact h3
end
end Go.SLYtpbjdoplfgeliaaGreat
namespace Go.SLYtpbjdoplfgeliaaGreat
open Go Go.RowKit
theorem C1{n:Int}:fC (Bb n):=by unfold Bb fC;omega
theorem ym:fC ny:=by unfold ny fC;decide
theorem rY{n:Int}(h:fC n):fC (js n):=by unfold js;split;exact ym;exact h
theorem C2{o:Option Nat}(h:∀ r,o=some r→r<18446744073709551616):fC (D8 o):=by
 cases o with
 | none=>exact ym
 | some r=>have:=h r rfl;exact rY ⟨by omega,by omega⟩
theorem gB{c:Prop}[Decidable c]{a b:Int}(h1:fC a)(h2:fC b):fC (if c then a else b):=by split;exact h1;exact h2
theorem KM{b:Bool}:fC (Bn b):=by unfold Bn;exact gB ⟨by decide,by decide⟩ ⟨by decide,by decide⟩
theorem Hd{neg:Bool}{win:Ordering}{x y:Nat}(hx:x<18446744073709551616)(hy:y<18446744073709551616):fC ((j8 neg win x y:Nat):Int):=by
 have h1:Go.FloatKind.f64.encode (.infinity neg)<18446744073709551616:=by cases neg <;> decide +kernel
 unfold j8
 simp only
 unfold fC
 repeat' split
 all_goals omega
theorem JC{op a b:Int}(ha:fC a)(hb:fC b):fC (cq op a b):=by
 have hx:a.toNat<18446744073709551616:=by have:=ha.1;have:=ha.2;omega
 have hy:b.toNat<18446744073709551616:=by have:=hb.1;have:=hb.2;omega
 have h0:fC 0:=⟨by decide,by decide⟩
 have hmin:fC (zx a b):=by unfold zx;exact gB ym (rY (Hd hx hy))
 have hmax:fC (zy a b):=by unfold zy;exact gB ym (rY (Hd hx hy))
 have hti:fC (kQ a):=by unfold kQ;exact gB h0 (gB ⟨by decide,by decide⟩ (gB ⟨by decide,by decide⟩ C1))
 have htf:fC (mc a):=by
  unfold mc
  refine rY ⟨by omega,?_⟩
  have:Go.FloatKind.f64.nearest (Go.IntKind.i64.wrap a)<18446744073709551616:=(Ieee.Format.write_lt Ieee.double (.number (decide (Go.IntKind.i64.wrap a<0)) (Go.IntKind.i64.wrap a).natAbs 0):_)
  omega
 unfold cq
 refine gB ha (gB C1 (gB C1 (gB C1 (gB KM (gB (C2 fun r h=>Ieee.Format.add_lt _ h) (gB (C2 fun r h=>Ieee.Format.sub_lt _ h) (gB (C2 fun r h=>Ieee.Format.mul_lt _ h) (gB (C2 fun r h=>Ieee.Format.div_lt _ h) (gB hmin (gB hmax (gB KM (gB hti (gB htf h0)))))))))))))
end Go.SLYtpbjdoplfgeliaaGreat
namespace Go.SLYtpbjdoplfgeliaaGreat
open Go Go.RowKit
def b2(p:Prop)[Decidable p]:Nat:=if p then 1 else 0
theorem mo{w:Int}{l:List eV}{a b:Int}:dN w (l++[⟨a,b⟩])=dN w l+b2 (a=w):=by
 unfold dN b2 KK;rw[List.countP_append];simp[List.countP_cons]
theorem qv{w:Int}{l:List eV}{c:Int}:dN w (aN l c).2.2+b2 ((aN l c).2.1=true∧(aN l c).1.who=w)=dN w l:=by
 by_cases h0:l.length=0
 ·rw[xR h0];unfold b2;rw[if_neg (by rintro⟨a,b⟩;cases a)];rfl
 ·rw[rS h0]
  have hp:=kO (t:=c) (n:=l.length) (by omega)
  have hx:l[pick c l.length]?=some (l.getD (pick c l.length) ⟨0,0⟩):=getD_some hp
  have:=kW (P:=KK w) hx
  unfold dN b2
  rw[← this]
  simp only[true_and,KK,decide_eq_true_eq]
theorem qw{w:Int}{l:List eV}(h:dN w l=0):lQ l w=false:=by
 unfold lQ
 rw[List.any_eq_false]
 intro x hx e
 have:0<dN w l:=List.countP_pos_iff.2 ⟨x,hx,e⟩
 omega
theorem BF{g:Gates}{w:Int}(h:cG g w=0):g.waits w=false:=by
 unfold cG at h
 unfold Gates.waits
 rw[Bool.or_eq_false_iff,Bool.or_eq_false_iff,List.any_eq_false,List.any_eq_false,List.any_eq_false]
 refine⟨⟨fun x hx=>?_,fun x hx=>?_⟩,fun x hx=>?_⟩
 ·have:=eD (f:=fun m:eI=>dN w m.wait) hx
  rw[qw (by omega)];simp
 ·have:=eD (f:=dN w) hx
  rw[qw (by omega)];simp
 ·have:=eD (f:=fun m:kz=>dN w m.wait) hx
  rw[qw (by omega)];simp
theorem d1:(1:Int)≠0:=by decide
theorem d4:(4:Int)≠0:=by decide
theorem d5:(5:Int)≠0:=by decide
section
variable{g:Gates}{p:fc}
theorem yn{i:Nat}{x y:eI}(h:g.dn[i]?=some x)(w:Int):cG {g with dn:=g.dn.set i y } w+dN w x.wait=cG g w+dN w y.wait:=by
 have:=gd (f:=fun m:eI=>dN w m.wait) y h
 unfold cG;simp only at this ⊢;omega
theorem He{i:Nat}{x y:List eV}(h:g.hD[i]?=some x)(w:Int):cG {g with hD:=g.hD.set i y } w+dN w x=cG g w+dN w y:=by
 have:=gd (f:=dN w) y h
 unfold cG;simp only at this ⊢;omega
theorem yo{i:Nat}{x y:kz}(h:g.et[i]?=some x)(w:Int):cG {g with et:=g.et.set i y } w+dN w x.wait=cG g w+dN w y.wait:=by
 have:=gd (f:=fun m:kz=>dN w m.wait) y h
 unfold cG;simp only at this ⊢;omega
theorem rX.dn(h:rX p g){i:Nat}{y:eI}:rX p {g with dn:=g.dn.set i y }:=⟨by simp only[List.length_set];exact h.m,h.c,h.s,h.sc,fun r hr w hw=>by simp only[List.length_set];exact h.cm r hr w hw⟩
theorem rX.hD(h:rX p g){i:Nat}{y:List eV}(hy:∀ w∈y,0≤w.mutex∧w.mutex<(g.dn.length:Int)):rX p {g with hD:=g.hD.set i y }:=⟨h.m,by simp only[List.length_set];exact h.c,h.s,h.sc,fun r hr w hw=>by
 rcases List.mem_or_eq_of_mem_set hr with hr | rfl
 ·exact h.cm r hr w hw
 ·exact hy w hw⟩
theorem rX.et(h:rX p g){i:Nat}{y:kz}(hy:0≤y.count∧y.count≤1048576):rX p {g with et:=g.et.set i y }:=⟨h.m,h.c,by simp only[List.length_set];exact h.s,fun x hx=>by
 rcases List.mem_or_eq_of_mem_set hx with hx | rfl
 ·exact h.sc x hx
 ·exact hy,h.cm⟩
theorem er{q:Prop}[Decidable q](h:¬q):b2 q=0:=if_neg h
theorem kX{q:Prop}[Decidable q](h:q):b2 q=1:=if_pos h
theorem LG(h:rX p g){n m:Int}:rX p (g.lock n m).2.2∧ ∀ w,cG (g.lock n m).2.2 w=cG g w+b2 (((g.lock n m).2.1=0∧(g.lock n m).1=false)∧n=w):=by
 have nope:∀ (b:Bool) (e:Int),(e≠0∨b=true)→ ∀ w,cG g w=cG g w+b2 ((e=0∧b=false)∧n=w):=fun b e he w=>by
  rw[er (by rintro⟨⟨a,c⟩, -⟩;rcases he with he | he;exact he a;rw[he] at c;cases c)];rfl
 by_cases hm:0≤m∧m<(g.dn.length:Int)
 ·obtain⟨x,hx,hgx⟩:=cH hm
  cases hb:(g.waits n || x.is n) with
  | true=>rw[q5 hgx hb];exact⟨h,nope _ _ (.inl d4)⟩
  | false =>
   rw[wc hgx hb]
   cases hh:x.held with
   | true =>
    rw[xS hh]
    refine⟨h.dn,fun w=>?_⟩
    have:=yn (y:={x with wait:=x.wait++[⟨n,0⟩] }) hx w
    rw[mo] at this
    have e:b2 (((0:Int)=0∧false=false)∧n=w)=b2 (n=w):=by unfold b2;simp
    rw[e];simp only at this ⊢;omega
   | false =>
    rw[xU hh]
    refine⟨h.dn,fun w=>?_⟩
    have:=yn (y:={x with held:=true,owner:=n }) hx w
    rw[er (by rintro⟨⟨a,c⟩, -⟩;cases c)]
    simp only at this ⊢;omega
 ·rw[wb hm];exact⟨h,nope _ _ (.inl d1)⟩
theorem rh{x:eI}{c w:Int}:dN w (x.unlock c).2.2.wait+b2 ((x.unlock c).2.1=true∧(x.unlock c).1=w)=dN w x.wait:=qv
theorem Hf(h:rX p g){n m c:Int}:rX p (g.unlock n m c).2.2.2∧ ∀ w,cG (g.unlock n m c).2.2.2 w+b2 ((g.unlock n m c).2.1=true∧(g.unlock n m c).1=w)=cG g w:=by
 have nope:∀ w,cG g w+b2 (false=true∧(0:Int)=w)=cG g w:=fun w=>by rw[er (by rintro⟨a, -⟩;cases a)];rfl
 by_cases hm:0≤m∧m<(g.dn.length:Int)
 ·obtain⟨x,hx,hgx⟩:=cH hm
  cases hb:x.is n with
  | false=>rw[oU hgx hb];exact⟨h,nope⟩
  | true =>
   rw[q7 hgx hb]
   refine⟨h.dn,fun w=>?_⟩
   have:=yn (y:=(x.unlock c).2.2) hx w
   have:=rh (x:=x) (c:=c) (w:=w)
   simp only at *;omega
 ·rw[q6 hm];exact⟨h,nope⟩
theorem LH(h:rX p g){n c m ch:Int}(hw0:g.waits n=false):rX p (g.wait n c m ch).2.2.2∧ ∀ w,cG (g.wait n c m ch).2.2.2 w+b2 ((g.wait n c m ch).2.1=true∧(g.wait n c m ch).1=w)=cG g w+b2 ((g.wait n c m ch).2.2.1=0∧n=w):=by
 have nope:∀ e:Int,e≠0→ ∀ w,cG g w+b2 (false=true∧(0:Int)=w)=cG g w+b2 (e=0∧n=w):=fun e he w=>by rw[er (by rintro⟨a, -⟩;cases a),er (fun h=>he h.1)]
 by_cases hm:0≤m∧m<(g.dn.length:Int)
 ·by_cases hc:0≤c∧c<(g.hD.length:Int)
  ·obtain⟨x,hx,hgx⟩:=cH hm
   obtain⟨r,hr,hgr⟩:=cH hc
   cases hb:x.is n with
   | false=>rw[nS hgx hgr hw0 hb];exact⟨h,nope _ d5⟩
   | true =>
    rw[qk hgx hgr hw0 hb]
    have h1:=h.dn (i:=m.toNat) (y:=(x.unlock ch).2.2)
    refine⟨h1.hD (i:=c.toNat) (y:=r++[⟨n,m⟩]) (fun w hw=>?_),fun w=>?_⟩
    ·simp only[List.length_set]
     rcases List.mem_append.1 hw with hw | hw
     ·exact h.cm r (List.mem_of_getElem? hr) w hw
     ·rw[List.mem_singleton] at hw;rw[hw];exact hm
    ·have a1:=yn (y:=(x.unlock ch).2.2) hx w
     have a2:=rh (x:=x) (c:=ch) (w:=w)
     have a3:=He (g:={g with dn:=g.dn.set m.toNat (x.unlock ch).2.2 }) (y:=r++[⟨n,m⟩]) hr w
     rw[mo] at a3
     have e:b2 ((0:Int)=0∧n=w)=b2 (n=w):=by unfold b2;simp
     simp only at *
     omega
  ·rw[nR hc];exact⟨h,nope _ d1⟩
 ·rw[nQ hm];exact⟨h,nope _ d1⟩
theorem LJ(h:rX p g){n s:Int}(hw0:g.waits n=false):rX p (g.down n s).2.2∧ ∀ w,cG (g.down n s).2.2 w=cG g w+b2 (((g.down n s).2.1=0∧(g.down n s).1=false)∧n=w):=by
 by_cases hs:0≤s∧s<(g.et.length:Int)
 ·obtain⟨x,hx,hgx⟩:=cH hs
  have hxc:=h.sc x (List.mem_of_getElem? hx)
  by_cases hc:0<x.count
  ·rw[wg hgx hw0 hc]
   refine⟨h.et (by simp only;omega),fun w=>?_⟩
   have:=yo (y:={x with count:=x.count-1 }) hx w
   rw[er (by rintro⟨⟨a,c⟩, -⟩;cases c)]
   simp only at this ⊢;omega
  ·rw[ra hgx hw0 hc]
   refine⟨h.et hxc,fun w=>?_⟩
   have:=yo (y:={x with wait:=x.wait++[⟨n,0⟩] }) hx w
   rw[mo] at this
   have e:b2 (((0:Int)=0∧false=false)∧n=w)=b2 (n=w):=by unfold b2;simp
   rw[e];simp only at this ⊢;omega
 ·rw[we hs]
  exact⟨h,fun w=>by rw[er (by rintro⟨⟨a,c⟩, -⟩;exact d1 a)];rfl⟩
theorem NS(h:rX p g){s c:Int}:rX p (g.up s c).2.2.2∧ ∀ w,cG (g.up s c).2.2.2 w+b2 ((g.up s c).2.1=true∧(g.up s c).1=w)=cG g w:=by
 have no:∀ w,b2 (false=true∧(0:Int)=w)=0:=fun w=>er (by rintro⟨a, -⟩;cases a)
 by_cases hs:0≤s∧s<(g.et.length:Int)
 ·obtain⟨x,hx,hgx⟩:=cH hs
  have hxc:=h.sc x (List.mem_of_getElem? hx)
  cases ht:(aN x.wait c).2.1 with
  | true =>
   rw[wh hgx ht]
   refine⟨h.et hxc,fun w=>?_⟩
   have a1:=yo (y:={x with wait:=(aN x.wait c).2.2 }) hx w
   have a2:=qv (w:=w) (l:=x.wait) (c:=c)
   rw[ht] at a2
   simp only at *;omega
  | false =>
   by_cases hc:1048576≤x.count
   ·rw[wi hgx ht hc];exact⟨h,fun w=>by rw[no];rfl⟩
   ·rw[CP hgx ht hc]
    refine⟨h.et (by simp only;omega),fun w=>?_⟩
    have:=yo (y:={x with count:=x.count+1 }) hx w
    rw[no];simp only at this ⊢;omega
 ·rw[CO hs];exact⟨h,fun w=>by rw[no];rfl⟩
theorem KN:∀ (n:Nat) (c:Int) (r:List eV) (ms:List eI) (out:List Int) (w:Int),n≤r.length→(∀ y∈r,0≤y.mutex∧y.mutex<(ms.length:Int))→
  dN w (sigLoop n c r ms out).1+mm (fun m:eI=>dN w m.wait) (sigLoop n c r ms out).2.1+(sigLoop n c r ms out).2.2.count w=dN w r+mm (fun m:eI=>dN w m.wait) ms+out.count w∧ ∀ y∈(sigLoop n c r ms out).1,y∈r
 | 0,_,_,_,_,_,_,_=>⟨rfl,fun _ h=>h⟩
 | n+1,c,r,ms,out,w,hn,hr=>by
  obtain⟨h1,h2,h3⟩:=kc (l:=r) (c:=c) (by omega)
  have hm:=hr _ h1
  obtain⟨x,hx⟩:=ak (show(aN r c).1.mutex.toNat<ms.length by omega)
  have ht:(aN r c).2.1=true:=by rw[rS (by omega)]
  have hgx:ms.getD (aN r c).1.mutex.toNat ⟨[],false,0⟩=x:=by rw[List.getD_eq_getElem?_getD,hx];rfl
  unfold sigLoop
  simp only
  rw[hgx]
  obtain⟨a1,a2⟩:=KN n c (aN r c).2.2 (ms.set (aN r c).1.mutex.toNat (x.lock (aN r c).1.who).2) (if (x.lock (aN r c).1.who).1=true then out++[(aN r c).1.who] else out) w (by omega) (fun y hy=>by rw[List.length_set];exact hr y (h3 y hy))
  refine⟨a1.trans ?_,fun y hy=>h3 y (a2 y hy)⟩
  have b1:=qv (w:=w) (l:=r) (c:=c)
  have b3:=gd (f:=fun m:eI=>dN w m.wait) (x.lock (aN r c).1.who).2 hx
  have e:b2 ((aN r c).2.1=true∧(aN r c).1.who=w)=b2 ((aN r c).1.who=w):=by unfold b2;simp[ht]
  rw[e] at b1
  cases hh:x.held with
  | true =>
   rw[xS hh] at b3 ⊢
   simp only[Bool.false_eq_true,if_false] at b3 ⊢
   rw[mo] at b3
   omega
  | false =>
   rw[xU hh] at b3 ⊢
   simp only[if_true] at b3 ⊢
   rw[List.count_append,List.count_singleton]
   have e2:(if ((aN r c).1.who == w)=true then 1 else 0)=b2 ((aN r c).1.who=w):=by unfold b2;simp
   rw[e2];omega
theorem Hg(h:rX p g){c ch:Int}{all:Bool}:rX p (g.signal c ch all).2.2∧ ∀ w,cG (g.signal c ch all).2.2 w+(g.signal c ch all).1.count w=cG g w:=by
 by_cases hc:0≤c∧c<(g.hD.length:Int)
 ·obtain⟨r,hr,hgr⟩:=cH hc
  have hrm:=h.cm r (List.mem_of_getElem? hr)
  rw[q9 hgr rfl]
  have hs:=fun w=>KN (if all=true then r.length else min r.length 1) (if all=true then 0 else ch) r g.dn [] w (by split <;> omega) hrm
  refine⟨⟨?_,?_,h.s,h.sc,fun y hy w hw=>?_⟩,fun w=>?_⟩
  ·rw[pg];exact h.m
  ·simp only[List.length_set];exact h.c
  ·rw[pg]
   rcases List.mem_or_eq_of_mem_set hy with hy | rfl
   ·exact h.cm y hy w hw
   ·exact hrm w ((hs 0).2 w hw)
  ·have a1:=(hs w).1
   have a2:=gd (f:=dN w) (sigLoop (if all=true then r.length else min r.length 1) (if all=true then 0 else ch) r g.dn []).1 hr
   unfold cG
   simp only[List.count_nil] at *
   omega
 ·rw[q8 hc];exact⟨h,fun w=>rfl⟩
end
end Go.SLYtpbjdoplfgeliaaGreat
namespace Go.SLYtpbjdoplfgeliaaGreat
open Go Go.RowKit
theorem oc{n w:Int}:[n].count w=b2 (n=w):=by rw[List.count_singleton];unfold b2;simp
theorem zT{ok:Bool}{n w:Int}:(if ok=true then [n] else []).count w=b2 (ok=true∧n=w):=by
 cases ok
 ·simp[b2]
 ·simp only[if_true,oc,true_and]
structure St(k:Nat)(s0:Spc)(d:Dng)(t:bE):Prop where
 h:dE k s0 d [] []
 ht:d.s.aG[d.n]?=some (some t)
 hw:t.cQ=0
 hs:d.out.aQ=false
 he:d.out.ended=false
 I:nz d.i
 hn:d.ends=[]
section
variable{k:Nat}{s0:Spc}{d:Dng}{p q:List Int}{t:bE}
theorem St.o(S:St k s0 d t):LD (d.s.table.getD d.n (false,0)) d.n t:=S.h.ok.th d.n t S.ht
theorem St.zero(S:St k s0 d t):nA d.s d.n=0:=by
 have:=S.h.ok.rH d.n
 have e:dS d.s d.n=0:=by unfold dS;rw[C0 S.ht];exact oa S.hw
 simp at this;omega
theorem St.a(S:St k s0 d t):fC d.a:=by unfold Dng.a;rw[dj S.ht];exact S.o.R.r _
theorem St.b(S:St k s0 d t):fC d.b:=by unfold Dng.b;rw[dj S.ht];exact S.o.R.r _
theorem St.pass(S:St k s0 d t){x y e:Int}(he:0≤e∧e≤11):dE k s0 (d.pass x y e) [] []:=S.h.pass S.ht S.hw S.hn he
theorem dE.given{ok:Bool}{n:Int}(h:dE k s0 d (if ok=true then [n] else []) [])(hne:ok=true→n=(d.n:Int)→d.out.aQ=false∧d.out.ended=false):dE k s0 (d.given n ok) [] []:=by
 unfold Dng.given
 cases ok with
 | false=>exact h
 | true =>
  have:=dE.ck (y:=0) h (w0:=n) (by simp) ⟨by decide,by decide⟩ (hne rfl)
  exact this.rH (fun w=>by simp)
theorem Hh{g:Gates}{n c m ch:Int}(h:(g.wait n c m ch).2.2.1≠0):(g.wait n c m ch).2.1=false:=by
 unfold Gates.wait at h ⊢
 repeat' split
 all_goals first | rfl | skip
 rename_i h1 h2 h3 h4
 rw[h1,h2] at h
 simp only at h
 rw[if_neg h3,if_pos h4] at h
 exact absurd rfl h
theorem St.waits(S:St k s0 d t):d.s.al.waits d.n=false:=BF (by have:=S.zero;unfold nA at this;omega)
theorem Hi{g:Gates}{n c m ch:Int}(hw0:g.waits n=false)(h:(g.wait n c m ch).2.2.1=0):1≤cG (g.wait n c m ch).2.2.2 n:=by
 by_cases hm:0≤m∧m<(g.dn.length:Int)
 ·by_cases hc:0≤c∧c<(g.hD.length:Int)
  ·obtain⟨x,hx,hgx⟩:=cH hm
   obtain⟨r,hr,hgr⟩:=cH hc
   cases hb:x.is n with
   | false=>rw[nS hgx hgr hw0 hb] at h;exact absurd h d5
   | true =>
    rw[qk hgx hgr hw0 hb]
    have a3:=He (g:={g with dn:=g.dn.set m.toNat (x.unlock ch).2.2 }) (y:=r++[⟨n,m⟩]) hr n
    have a4:dN n r≤cG {g with dn:=g.dn.set m.toNat (x.unlock ch).2.2 } n:=by
     have:=eD (f:=dN n) (List.mem_of_getElem? hr)
     unfold cG;simp only;omega
    rw[mo,kX rfl] at a3
    simp only at a3 ⊢
    omega
  ·rw[nR hc] at h;exact absurd h d1
 ·rw[nQ hm] at h;exact absurd h d1
theorem St.mutex(S:St k s0 d t):dE k s0 d.mutex [] []:=by
 unfold Dng.mutex
 simp only
 split
 ·obtain⟨hg,hc⟩:=LG (n:=d.n) (m:=d.i.n) S.h.ok.gt
  split
  ·rename_i hb
   have h1:=S.h.bC hg (p':=[]) (q':=[(d.n:Int)]) (fun w=>by
    rw[hc w,oc]
    have:b2 (((d.s.al.lock d.n d.i.n).2.1=0∧(d.s.al.lock d.n d.i.n).1=false)∧(d.n:Int)=w)=b2 ((d.n:Int)=w):=by unfold b2;simp[hb]
    rw[this];simp)
   exact h1.block S.ht S.hw S.hn S.hs S.he ⟨by decide,by decide⟩ (by decide)
  ·rename_i hb
   have h1:=S.h.bC hg (p':=[]) (q':=[]) (fun w=>by rw[hc w,er (fun h=>hb h.1)];rfl)
   exact h1.pass S.ht S.hw S.hn CT
 ·split
  ·obtain⟨hg,hc⟩:=Hf (n:=d.n) (m:=d.i.n) (c:=d.choice) S.h.ok.gt
   have h1:=S.h.bC hg (p':=if (d.s.al.unlock d.n d.i.n d.choice).2.1=true then [(d.s.al.unlock d.n d.i.n d.choice).1] else []) (q':=[]) (fun w=>by rw[zT];have:=hc w;simp;omega)
   exact(h1.pass S.ht S.hw S.hn qp).given (fun _ _=>⟨S.hs,S.he⟩)
  ·obtain⟨hg,hc⟩:=LH (n:=d.n) (c:=d.i.n) (m:=d.i.c) (ch:=d.choice) S.h.ok.gt S.waits
   have hc2:=fun w=>hc w
   split
   ·rename_i he
    have h1:=S.h.bC hg (p':=[]) (q':=[]) (fun w=>by
     have:=hc w
     rw[er (fun h=>by rw[Hh he] at h;exact absurd h.1 (by simp)),er (fun h=>he h.1)] at this
     simp;omega)
    exact h1.pass S.ht S.hw S.hn CU
   ·rename_i he
    have he:(d.s.al.wait d.n d.i.n d.i.c d.choice).2.2.1=0:=Decidable.not_not.mp he
    have hno:(d.s.al.wait d.n d.i.n d.i.c d.choice).2.1=true→¬(d.s.al.wait d.n d.i.n d.i.c d.choice).1=(d.n:Int):=fun ho hn=>by
     have h1:=hc d.n
     have h2:cG d.s.al d.n=0:=by have:=S.zero;unfold nA at this;omega
     have h3:=Hi (g:=d.s.al) (n:=d.n) (c:=d.i.n) (m:=d.i.c) (ch:=d.choice) S.waits he
     rw[kX ⟨ho,hn⟩,kX ⟨he,rfl⟩] at h1
     omega
    have h1:=S.h.bC hg (p':=if (d.s.al.wait d.n d.i.n d.i.c d.choice).2.1=true then [(d.s.al.wait d.n d.i.n d.i.c d.choice).1] else []) (q':=[(d.n:Int)]) (fun w=>by
     rw[zT,oc]
     have:=hc w
     have e:b2 ((d.s.al.wait d.n d.i.n d.i.c d.choice).2.2.1=0∧(d.n:Int)=w)=b2 ((d.n:Int)=w):=by unfold b2;simp[he]
     rw[e] at this
     simp;omega)
    exact(h1.block S.ht S.hw S.hn S.hs S.he ⟨by decide,by decide⟩ (by decide)).given (fun ho hn=>absurd hn (hno ho))
theorem St.et(S:St k s0 d t):dE k s0 d.et [] []:=by
 unfold Dng.et
 simp only
 split
 ·obtain⟨hg,hc⟩:=NS (s:=d.i.n) (c:=d.choice) S.h.ok.gt
  have h1:=S.h.bC hg (p':=if (d.s.al.up d.i.n d.choice).2.1=true then [(d.s.al.up d.i.n d.choice).1] else []) (q':=[]) (fun w=>by rw[zT];have:=hc w;simp;omega)
  exact(h1.pass S.ht S.hw S.hn GU).given (fun _ _=>⟨S.hs,S.he⟩)
 ·obtain⟨hg,hc⟩:=LJ (n:=d.n) (s:=d.i.n) S.h.ok.gt S.waits
  split
  ·rename_i hb
   have h1:=S.h.bC hg (p':=[]) (q':=[(d.n:Int)]) (fun w=>by
    rw[hc w,oc]
    have:b2 (((d.s.al.down d.n d.i.n).2.1=0∧(d.s.al.down d.n d.i.n).1=false)∧(d.n:Int)=w)=b2 ((d.n:Int)=w):=by unfold b2;simp[hb]
    rw[this];simp)
   exact h1.block S.ht S.hw S.hn S.hs S.he ⟨by decide,by decide⟩ (by decide)
  ·rename_i hb
   have h1:=S.h.bC hg (p':=[]) (q':=[]) (fun w=>by rw[hc w,er (fun h=>hb h.1)];rfl)
   exact h1.pass S.ht S.hw S.hn CV
/-! those who go on by a signal -/
theorem Ok.NT{s:Spc}(h:Ok k s p q){w0:Int}{u:bE}(hu:s.at w0=some u)(hu0:u.cQ≠0)(hu9:u.cQ≠9):Ok k (s.aV w0.toNat {u with cQ:=1 }) p q:=by
 obtain⟨h0,hat⟩:=iQ hu
 have ho:=h.th _ u hat
 refine h.aV (t':={u with cQ:=1 }) hat ⟨ho.h,⟨ho.R.l,ho.R.r,ho.R.i,ho.R.v,ho.R.h⟩,ho.pc,ho.d,fun e=>absurd (show(1:Int)=9 from e) (by decide)⟩ (fun w=>?_)
 have e1:bT u=1:=jU hu0 hu9
 have e2:bT {u with cQ:=1 }=1:=jU (t:={u with cQ:=1 }) (by show(1:Int)≠0;decide) (by show(1:Int)≠9;decide)
 have e3:jn w (some {u with cQ:=1 })=jn w (some u):=rfl
 rw[e1,e2,e3]
theorem Hj{s:Spc}{w0:Int}{u:bE}(hu:s.at w0=some u)(hu0:u.cQ≠0)(hu9:u.cQ≠9)(w:Int):dS (s.aV w0.toNat {u with cQ:=1 }) w=dS s w∧df (s.aV w0.toNat {u with cQ:=1 }) w=df s w:=by
 obtain⟨h0,hat⟩:=iQ hu
 have hc:((w0.toNat:Nat):Int)=w0:=by omega
 have e:(s.aV w0.toNat {u with cQ:=1 }).at w=if w=w0 then some {u with cQ:=1 } else s.at w:=by
  have:=n9 (s:=s) (n:=w0.toNat) (o:=some {u with cQ:=1 }) (List.getElem?_eq_some_iff.1 hat).1 w
  rw[hc] at this;exact this
 unfold dS df
 rw[e]
 by_cases hw:w=w0
 ·rw[if_pos hw,hw,hu]
  refine⟨?_,?_⟩
  ·show bT {u with cQ:=1 }=bT u
   exact(jU (t:={u with cQ:=1 }) (by show(1:Int)≠0;decide) (by show(1:Int)≠9;decide)).trans (jU hu0 hu9).symm
  ·rw[du,du,if_neg (by show ¬(1:Int)=0;decide),if_neg hu0]
 ·rw[if_neg hw];exact⟨rfl,rfl⟩
theorem dE.cO:∀ (l:List Int) (d:Dng),dE k s0 d p q→(∀ w∈l,0<dS d.s w)→dE k s0 {d with s:=cO d.s l } p q
 | [],_,h,_=>h
 | w::l,d,h,hl=>by
  obtain⟨u,hu,hu0,hu9⟩:=jO (hl w List.mem_cons_self)
  have hat:=(iQ hu).2
  have hk:=Hj hu hu0 hu9
  have h2:dE k s0 {d with s:=d.s.aV w.toNat {u with cQ:=1 } } p q:=⟨h.ok.NT hu hu0 hu9,fun w'=>by
   have:=h.rd w'
   show df (d.s.aV w.toNat {u with cQ:=1 }) w'+_=_
   rw[(hk w').2];exact this,h.wk,h.rc.aV hat rfl (by rw[jU hu0 hu9];exact jU (t:={u with cQ:=1 }) (by show(1:Int)≠0;decide) (by show(1:Int)≠9;decide)) (fun _=>rfl),h.px⟩
  have h3:=dE.cO l _ h2 (fun w' hw'=>by
   show 0<dS (d.s.aV w.toNat {u with cQ:=1 }) w'
   rw[(hk w').1];exact hl w' (List.mem_cons_of_mem _ hw'))
  show dE k s0 {d with s:=Go.SLYtpbjdoplfgeliaaGreat.cO (d.s.aV w.toNat {d.s.t w.toNat with cQ:=1 }) l } p q
  rw[show d.s.t w.toNat=u from dQ hat]
  exact h3
theorem dE.dB:∀ (l:List Int) (d:Dng),dE k s0 d l []→d.out.aQ=false∧d.out.ended=false→dE k s0 (d.dB l) [] []
 | [],_,h,_=>h
 | w::l,d,h,hs=>by
  have h1:=h.ck (w0:=w) (y:=0) (by simp) ⟨by decide,by decide⟩ (fun _=>hs)
  refine dE.dB l _ ?_ hs
  exact(h1.rH (fun w'=>by simp[List.count_cons]))
theorem dE.lL{l:List Int}(h:dE k s0 d l [])(hs:d.out.aQ=false∧d.out.ended=false):dE k s0 (d.lL l) [] []:=by
 unfold Dng.lL
 refine dE.dB l _ (dE.cO d.waits d h (fun w hw=>?_)) hs
 have:=h.ok.rH w
 have h1:0<cG d.s.al w:=by
  obtain⟨x,hx,hw⟩:=List.mem_flatMap.1 hw
  obtain⟨y,hy,rfl⟩:=List.mem_map.1 hw
  have h2:=eD (f:=fun m:eI=>dN y.who m.wait) (List.mem_of_mem_take hx)
  have h3:0<dN y.who x.wait:=List.countP_pos_iff.2 ⟨y,hy,by simp[KK]⟩
  unfold cG;omega
 unfold nA at this
 simp at this;omega
theorem St.signal(S:St k s0 d t){all:Bool}:dE k s0 (((d.bC (d.s.al.signal d.i.n d.choice all).2.2).pass d.i.n 0 (d.s.al.signal d.i.n d.choice all).2.1).lL (d.s.al.signal d.i.n d.choice all).1) [] []:=by
 obtain⟨hg,hc⟩:=Hg (c:=d.i.n) (ch:=d.choice) (all:=all) S.h.ok.gt
 have h1:=S.h.bC hg (p':=(d.s.al.signal d.i.n d.choice all).1) (q':=[]) (fun w=>by have:=hc w;simp;omega)
 exact(h1.pass S.ht S.hw S.hn ic).lL ⟨S.hs,S.he⟩
end
end Go.SLYtpbjdoplfgeliaaGreat
