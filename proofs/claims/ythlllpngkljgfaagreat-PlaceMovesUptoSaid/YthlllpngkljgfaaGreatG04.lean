/- Walks of functions, and what they compute. Conditions: none, this text proves no statement. -/
import Derived.Test.YthlllpngkljgfaaGreatG03
import Derived.Laws.FloatBits
namespace Go.SLYthlllpngkljgfaaGreat
open Go Go.RowKit
def eh(b p:Nat)(d:Dng)(vw ve:Value):List Value:=[ptr b,.int .i64 (d.n:Int),ptr p,.int .i64 d.i.op,.int .i64 d.i.a,.int .i64 d.i.b,.int .i64 d.i.c,.int .u64 d.i.n,.int .i64 d.choice,vw,.bool d.out.aR,.bool d.out.ended,.bool d.out.yielded,ve]
def bx(bd b p:Nat)(ps:List (Option Nat))(d:Dng):aa:=oq (fun _ _=>True) fun vw ve=>[arr bd 0 (eh b p d vw ve),sl au 1 vw d.out.av,sl dT 6 ve d.ends,cH b ps d.s]
def OA(bd b p:Nat)(d:Dng):aa:=ja (fun _=>True) fun ps=>[bx bd b p ps d]
def mS(v:Value)(e:lB):List Value:=[v,.bool e.aR,.bool e.ended,.bool e.yielded]
theorem bQ{ps:List (Option Nat)}{ts:List (Option bI)}{n p:Nat}{t:bI}(hp:ps[n]?=some (some p))(ht:ts[n]?=some (some t)):∀ h,aD ps ts h→seps [arr p 0 (bn t),aD (ps.set n none) (ts.set n none)] h:=fun h a=>by
 obtain⟨q,hq,a'⟩:=mI ht h a
 rw[hp] at hq;cases hq
 exact kp.2 a'
theorem bN{ps:List (Option Nat)}{ts:List (Option bI)}{n p:Nat}{t:bI}(hp:ps[n]?=some (some p))(ht:ts[n]?=some (some t)):∀ h,seps [arr p 0 (bn t),aD (ps.set n none) (ts.set n none)] h→aD ps ts h:=fun h a=>by
 have:=cA (List.getElem?_eq_some_iff.1 ht).1 hp h a
 rwa [gP ht] at this
theorem nC{t:bI}:∀ {n:Nat} (_:n<8),(bn t)[2+n * 1]?=some (.int .u64 (t.aI.getD n 0))
 | 0,_=>rfl
 | 1,_=>rfl
 | 2,_=>rfl
 | 3,_=>rfl
 | 4,_=>rfl
 | 5,_=>rfl
 | 6,_=>rfl
 | 7,_=>rfl
 | n+8,h=>absurd h (by omega)
theorem GS{fn pc handle cZ value aA op bY:Int}{det:Bool}{a0 a1 a2 a3 a4 a5 a6 a7:Int}(x:Int):∀ {n:Nat} (_:n<8),(bn ⟨fn,pc,[a0,a1,a2,a3,a4,a5,a6,a7],handle,cZ,value,det,aA,op,bY⟩).set (2+n * 1) (.int .u64 x)=bn ⟨fn,pc,[a0,a1,a2,a3,a4,a5,a6,a7].set n x,handle,cZ,value,det,aA,op,bY⟩
 | 0,_=>rfl
 | 1,_=>rfl
 | 2,_=>rfl
 | 3,_=>rfl
 | 4,_=>rfl
 | 5,_=>rfl
 | 6,_=>rfl
 | 7,_=>rfl
 | n+8,h=>absurd h (by omega)
theorem sG{t:bI}(x:Int){n:Nat}(hn:n<8)(hl:t.aI.length=8):(bn t).set (2+n * 1) (.int .u64 x)=bn (t.put (n:Int) x):=by
 obtain⟨fn,pc,aI,handle,cZ,value,det,aA,op,bY⟩:=t
 match aI,hl with
 | [a0,a1,a2,a3,a4,a5,a6,a7],_=>exact GS x hn
theorem jK{t:bI}(x:Int){i:Int}(h0:0≤i)(hn:i<8)(hl:t.aI.length=8):(bn t).set (2+i.toNat * 1) (.int .u64 x)=bn (t.put i x):=by
 rw[sG x (by omega) hl,show((i.toNat:Nat):Int)=i from by omega]
theorem pM(t:bI)(x:Int):(bn t).set 11 (.int .i64 x)=bn {t with cZ:=x }:=rfl
theorem En(t:bI)(x:Int):(bn t).set 12 (.int .u64 x)=bn {t with value:=x }:=rfl
theorem Jr(t:bI)(x:Bool):(bn t).set 13 (.bool x)=bn {t with bJ:=x }:=rfl
theorem BG(t:bI)(x:Int):(bn t).set 14 (.int .i64 x)=bn {t with aA:=x }:=rfl
theorem Lo(t:bI)(x:Int):(bn t).set 15 (.int .i64 x)=bn {t with op:=x }:=rfl
theorem tM(t:bI)(x:Int):(bn t).set 16 (.int .i64 x)=bn {t with bY:=x }:=rfl
theorem j6{t:bI}{i x:Int}:(t.put i x).aI.length=t.aI.length:=by unfold bI.put;simp
section
variable{fv sv pv:Value}{p:gY}{bt:Nat}{ps:List (Option Nat)}{vm:Value}{bg:Nat}{vt:Value}{bk bw:Nat}{vr u:Value}
theorem pN:(fy fv sv pv p bt ps vm bg vt bk bw vr).set 30 u=fy fv sv pv p bt ps vm bg vt bk bw u:=rfl
theorem ya:(fy fv sv pv p bt ps vm bg vt bk bw vr).set 25 u=fy fv sv pv p bt ps u bg vt bk bw vr:=rfl
end
structure hG(t:bI):Prop where
 l:t.aI.length=8
 r:∀ n,0≤t.aI.getD n 0∧t.aI.getD n 0≤18446744073709551615
 i : -1≤t.bY∧t.bY<8
 v:0≤t.value∧t.value≤18446744073709551615
 h:0≤t.handle∧t.handle≤18446744073709551615
theorem dO{s:Spc}{n:Nat}{t:bI}(h:s.aF[n]?=some (some t)):s.t n=t:=by unfold Spc.t;rw[List.getD_eq_getElem?_getD,h];rfl
theorem dq{d:Dng}{t:bI}(h:d.s.aF[d.n]?=some (some t)):d.t=t:=dO h
def BH(ps:List (Option Nat))(n:Int):Option Nat:=if 0≤n∧n<16 then ps.getD n.toNat none else none
theorem C9{t:bI}{y:Int}(t1:bI)(h:t1=if t.bY = -1 then t else t.put t.bY y):t.fJ y = {t1.put 7 0 with cZ:=0,bY := -1 }:=by unfold bI.fJ;rw[h]
section
variable{P:Program}{W:World}{N:Nat}{T:TypeId}{L:List (Nat×Option Value)}{H:List aa}{α:Type}
theorem ae.Js{E:TypeId}{x y:Operand}{pos:String}{after:Array Edge}{guard:Option (Nat×Bool)}{b o:Nat}{v:Value}{vs cs:List Value}{H':List aa}{enc:α→List Value}{k:Nat}{xs:List α}(hz:∀ w,(sizeOf E).run P w = .ok (vs.length+1) w)(hx:ev L x=some (.pointer (some ⟨b,o,none⟩)))(hy:ev L y=some (.agg (v::vs).toArray))[hv:ax W H v enc k xs](hvs:vs.all (·.oneCell')=true)
  [_h0:bX H b o cs] [hr:cI H b o cs (v::vs) H'] (hi:cs.length=vs.length+1) :
  ae P W N ⟨none,.store E x y,T,pos,after,guard⟩ L H (fun L1 H1=>L1=L∧H1=H'):=fun a w ha hs Kp hK=>ae.storeAll hx hy hz (fun c hc=>by
   rcases List.mem_cons.1 hc with rfl | hc
   ·exact hv.rd.one w hs
   ·exact List.all_eq_true.1 hvs c hc) hr.pg hi a w ha hs Kp hK
end
end Go.SLYthlllpngkljgfaaGreat
namespace Go.SLYthlllpngkljgfaaGreat
open Go Go.RowKit
def bK(ps:List (Option Nat))(s:Spc)(n:Nat):Prop:=n<16∧ ∃ q t,ps[n]?=some (some q)∧s.aF[n]?=some (some t)∧hG t
theorem Eo{b p:Nat}{d:Dng}{vw ve:Value}:(eh b p d vw ve).set 11 (.bool true)=eh b p d.ended vw ve:=rfl
theorem Jt{b p:Nat}{d:Dng}{vw ve:Value}:(eh b p d vw ve).set 12 (.bool true)=eh b p {d with out:={d.out with yielded:=true } } vw ve:=rfl
theorem fM{s:Spc}{n m:Nat}{t t':bI}(h:s.aF[m]?=some (some t))(hne:n≠m):(s.aZ n t').aF[m]?=some (some t):=by
 unfold Spc.aZ;simp only;rw[List.getElem?_set_ne hne];exact h
theorem dx{s:Spc}{n:Nat}{t t':bI}(h:s.aF[n]?=some (some t)):(s.aZ n t').aF[n]?=some (some t'):=by
 unfold Spc.aZ;simp only;exact List.getElem?_set_self (List.getElem?_eq_some_iff.1 h).1
theorem GU{d:Dng}{n:Nat}{y:Int}{m:Nat}{t:bI}(h:d.s.aF[m]?=some (some t))(hne:n≠m):(d.cj n y).s.aF[m]?=some (some t):=fM h hne
theorem Da{d:Dng}{t:bI}{v:Int}(ht:d.s.aF[d.n]?=some (some t))(h:t.bJ=true):d.fin v=d.ended.free d.n:=by
 unfold Dng.fin;rw[dq ht,if_pos h]
theorem zQ{d:Dng}{t:bI}{v:Int}(ht:d.s.aF[d.n]?=some (some t))(h:t.bJ=false)(hj:t.aA = -1):d.fin v=d.ended.aZ {t with cZ:=9,value:=v }:=by
 unfold Dng.fin;rw[dq ht,if_neg (by rw[h];simp),if_pos hj]
theorem zR{d:Dng}{t:bI}{v:Int}(ht:d.s.aF[d.n]?=some (some t))(h:t.bJ=false)(hj:¬t.aA = -1):d.fin v=(d.ended.cj t.aA.toNat v).free d.n:=by
 unfold Dng.fin;rw[dq ht,if_neg (by rw[h];simp),if_neg hj]
theorem tN{t:bI}{f:iW}:setFrom (bn t) 0 (iS f)=bn (t.ox f):=rfl
theorem lE{f:iW}{m:List Int}{i:Ins}{z:iW×List Int}(h:mu f m i=some z):gj f m i=(z.1,z.2,0):=by unfold gj;rw[h]
theorem tO{f:iW}{m:List Int}{i:Ins}(h:mu f m i=none):gj f m i=(iW.z,[],6):=by unfold gj;rw[h]
theorem oD{f:iW}{m:List Int}{i:Ins}(h:(gj f m i).2.2=0):∃ z,mu f m i=some z:=by
 unfold gj at h
 cases e:mu f m i with
 | none=>rw[e] at h;cases h
 | some z=>exact⟨z,rfl⟩
theorem qV{f:iW}{m:List Int}{i:Ins}(h:¬(gj f m i).2.2=0):mu f m i=none:=by
 cases e:mu f m i with
 | none=>rfl
 | some z=>rw[lE e] at h;exact absurd rfl h
theorem GV{f:iW}{m:List Int}{i:Ins}(h:mu f m i=none):i.op=18∨i.op=19:=by
 unfold mu at h
 repeat' split at h
 all_goals first | (cases h;done) | omega
theorem GW{f:iW}{m:List Int}{i:Ins}{z:iW×List Int}(h:mu f m i=some z)(ho:i.op=18):f.tF i.b<m.length:=by
 unfold mu at h
 rw[if_neg (by omega),if_neg (by omega),if_neg (by omega),if_pos ho] at h
 split at h
 ·assumption
 ·cases h
def Dng.told(d:Dng):Dng:=if d.i.op=18 then d.tell d.b (d.s.mem.getD d.b.toNat 0) 0 true else if d.i.op=19 then d.tell d.a d.b 0 true else d
theorem j7{d:Dng}{t:bI}{z:iW×List Int}(ht:d.s.aF[d.n]?=some (some t))(h:mu t.nB d.s.mem d.i=some z):d.plain = {d.told with s:={d.told.s.aZ d.n (t.ox z.1) with mem:=z.2 } }:=by
 unfold Dng.plain;rw[dq ht,h];rfl
theorem mT{d:Dng}{t:bI}(ht:d.s.aF[d.n]?=some (some t))(h:mu t.nB d.s.mem d.i=none):d.plain=(if d.i.op=18 then d.tell d.b 0 6 true else d.tell d.a d.b 6 true).fin 18446744073709551615:=by
 unfold Dng.plain;rw[dq ht,h]
theorem tP{d:Dng}{h:Int}(e:bC d.s.table h=none):d.other h=(0,3):=by unfold Dng.other;rw[e]
theorem lF{d:Dng}{h:Int}{n:Nat}{t:bI}(e:bC d.s.table h=some n)(ht:d.s.aF[n]?=some (some t))(hn:n=d.n∨t.bJ=true):d.other h=(0,3):=by unfold Dng.other;rw[e];simp only;rw[dO ht,if_pos hn]
theorem tQ{d:Dng}{h:Int}{n:Nat}{t:bI}(e:bC d.s.table h=some n)(ht:d.s.aF[n]?=some (some t))(hn:¬(n=d.n∨t.bJ=true))(hj:t.aA = -1):d.other h=(n,0):=by unfold Dng.other;rw[e];simp only;rw[dO ht,if_neg hn,if_pos hj]
theorem oE{d:Dng}{h:Int}{n:Nat}{t:bI}(e:bC d.s.table h=some n)(ht:d.s.aF[n]?=some (some t))(hn:¬(n=d.n∨t.bJ=true))(hj:¬t.aA = -1):d.other h=(0,4):=by unfold Dng.other;rw[e];simp only;rw[dO ht,if_neg hn,if_neg hj]
section
variable{P:Program}{W:World}{N:Nat}{Q:Exit→Act→World→Prop}{O:Array Oper}{L:List (Nat×Option Value)}{H K:List aa}
theorem bE.Lp{ks rest:List Nat}{i:Nat}{E T:TypeId}{x y:Operand}{pos:String}{after:Array Edge}{b o:Nat}{vs cs:List Value}{H':List aa}(ho:O[i]?=some ⟨none,.store E x y,T,pos,after,none⟩)(hk:ks.getD i 1=2)
  (hz:∀ w,(sizeOf E).run P w = .ok vs.length w) (hx:ev L x=some (.pointer (some ⟨b,o,none⟩))) (hy:ev L y=some (.agg vs.toArray)) (hv:vs.all (·.oneCell')=true) [_h0:bX H b o cs] [hr:cI H b o cs vs H'] (hi:cs.length=vs.length)
  (hK:∀ w,Sat W w (seps H)→Sat W w (seps K)) (hK':∀ w,Sat W w (seps H')→Sat W w (seps K)) (h:bE P W N K O Q ks rest L H'):bE P W N K O Q ks (i::rest) L H :=
 bE.d (X:=Unit) (Lx:=fun _=>L) (Hx:=fun _=>H') ho rfl (.inl hk) (fun _=>hK) (fun E=>(by
  intro a w ha hs Kp hK
  exact ae.storeAll hx hy hz (List.all_eq_true.1 hv) (gw.app E hr.pg) hi a w ha hs Kp (fun L1 H1 ⟨e1,e2⟩=>hK L1 H1 ⟨(),e1,e2⟩))) (fun _ _=>hK') (fun _=>h)
end
end Go.SLYthlllpngkljgfaaGreat
namespace Go.SLYthlllpngkljgfaaGreat
open Go Go.RowKit
theorem zS{α:Type}{f:α→aa}{xs:List α}{i:Nat}{x:α}(h:xs[i]?=some x):∀ g,aO f xs g→seps [f x,aO f (xs.eraseIdx i)] g:=fun g a=>by rw[jy f h] at a;exact kp.2 a
theorem yb{v:Value}{l:List Tub}{xs:List (Nat×Tub)}{i:Nat}{x:Nat×Tub}(hx:xs[i]?=some x)(hxs:xs.map (·.2)=l)(u:Tub):∀ h,seps [sl cQ 1 v xs,iF x.1 u,aO (fun x:Nat×Tub=>iF x.1 x.2) (xs.eraseIdx i)] h→ph v (l.set i u) h:=fun h a=>by
 refine⟨xs.set i (x.1,u),by show(xs.set i (x.1,u)).map (·.2)=_;rw[List.map_set,hxs],?_⟩
 have hi:=(List.getElem?_eq_some_iff.1 hx).1
 rw[kp,jz _ _ hi]
 exact bB (fun g b=>pC (x':=(x.1,u)) hi rfl g (xQ hx g b)) (fun g b=>kp.1 b) h a
theorem bK.aZ{ps:List (Option Nat)}{s:Spc}{n m:Nat}{t:bI}(h:bK ps s m)(ht:hG t):bK ps (s.aZ n t) m:=by
 obtain⟨hm,q,u,hq,hu,hR⟩:=h
 rcases Decidable.em (n=m) with rfl | hne
 ·exact⟨hm,q,t,hq,dx hu,ht⟩
 ·exact⟨hm,q,u,hq,fM hu hne,hR⟩
theorem bK.of{ps:List (Option Nat)}{s s':Spc}{m:Nat}(h:bK ps s m)(e:s'.aF=s.aF):bK ps s' m:=by
 obtain⟨hm,q,u,hq,hu,hR⟩:=h
 exact⟨hm,q,u,hq,by rw[e];exact hu,hR⟩
theorem pO{l:List Int}{i n:Nat}{x:Int}(hx:0≤x∧x≤18446744073709551615)(h:∀ n,0≤l.getD n 0∧l.getD n 0≤18446744073709551615):0≤(l.set i x).getD n 0∧(l.set i x).getD n 0≤18446744073709551615:=by
 have hn:=h n
 rw[List.getD_eq_getElem?_getD] at hn ⊢
 rw[List.getElem?_set]
 split
 ·split
  ·exact hx
  ·exact⟨Int.le_refl _,by decide⟩
 ·exact hn
theorem hG.put{t:bI}(h:hG t){i x:Int}(hx:0≤x∧x≤18446744073709551615):hG (t.put i x):=⟨by rw[j6];exact h.l,fun n=>pO hx h.r,h.i,h.v,h.h⟩
theorem hG.with{t:bI}(h:hG t){a b c:Int}(hc : -1≤c∧c<8):hG {t with cZ:=a,op:=b,bY:=c }:=⟨h.l,h.r,hc,h.v,h.h⟩
def Gates.has(g:Gates)(w:Int):Prop:=(∃ x∈g.du, ∃ y∈x.wait,y.who=w)∨(∃ r∈g.hU, ∃ y∈r,y.who=w)∨(∃ x∈g.ew, ∃ y∈x.wait,y.who=w)
structure iT(ps:List (Option Nat))(d:Dng)(t:bI):Prop where
 nb:d.n<16
 R:hG t
 lt:d.s.aF.length=16
 lp:ps.length=16
 T:jC d.s.table
 slot:∀ h m,bC d.s.table h=some m→bK ps d.s m
 free:∀ n,slotFree? d.s.table 0=some n→d.s.aF[n]?=some none
 join:¬t.aA = -1→0≤t.aA∧t.aA.toNat≠d.n∧bK ps d.s t.aA.toNat
 I:n8 d.i
 nn:d.i.n≤1099511627776
 aC:d.s.aC.length≤900000000
 ends:d.ends.length≤500000
 wy:d.out.av.length≤500000
 mem:d.s.mem.length≤1000000
 gl:gO d.s.al
 Jw:∀ x∈d.s.al.ew,0≤x.count∧x.count≤1048576
 Jx:∀ r∈d.s.al.hU, ∀ w∈r,0≤w.mutex∧w.mutex<(d.s.al.du.length:Int)
 iX:∀ w,d.s.al.has w→0≤w∧bK ps d.s w.toNat
 Jy:d.s.fa.bz≤(d.s.al.du.length:Int)
 BS:(∀ x∈d.s.al.du,x.wait.length≤400000)∧ ∀ r∈d.s.al.hU,r.length≤400000
 Nl:(d.i.op=35∨d.i.op=36)→d.i.n<(d.s.cb.length:Int)
 tl:∀ u∈d.s.cb,tL u
 Ab:∀ u∈d.s.cb,(∀ w∈u.gM,0≤w∧bK ps d.s w.toNat)∧(∀ x∈u.ib,0≤x.who∧bK ps d.s x.who.toNat)
 tw:∀ u∈d.s.cb, ∀ w∈u.words,0≤w∧w≤18446744073709551615
 dw:d.s.bZ.wait.length≤1000000
 wn:0≤d.s.aT.now∧d.s.aT.now≤1099511627776
theorem tR{ps:List (Option Nat)}{d:Dng}{h:Int}(hs:∀ n,bC d.s.table h=some n→bK ps d.s n)(e:(d.other h).2=0) :
  ∃ m q u,bC d.s.table h=some m∧(d.other h).1=m∧m≠d.n∧m<16∧ps[m]?=some (some q)∧d.s.aF[m]?=some (some u)∧hG u∧u.bJ=false∧u.aA = -1:=by
 cases hf:bC d.s.table h with
 | none=>rw[tP hf] at e;cases e
 | some m =>
  obtain⟨hm,q,u,hq,hu,hR⟩:=hs m hf
  by_cases h1:m=d.n∨u.bJ=true
  ·rw[lF hf hu h1] at e;cases e
  ·by_cases h2:u.aA = -1
   ·exact⟨m,q,u,rfl,by rw[tQ hf hu h1 h2],fun h=>h1 (.inl h),hm,hq,hu,hR,by cases hd:u.bJ with | false=>rfl | true=>exact absurd (.inr hd) h1,h2⟩
   ·rw[oE hf hu h1 h2] at e;cases e
theorem pP{d:Dng}{h:Int}:0≤(d.other h).2∧(d.other h).2≤11:=by
 unfold Dng.other
 repeat' split
 all_goals (dsimp only;omega)
theorem GX{d:lg}{r:vR}:0≤(d.ask r).1∧(d.ask r).1≤11:=by
 unfold lg.ask
 repeat' split
 all_goals (dsimp only;omega)
theorem Db{g:Gates}{w m:Int}:0≤(g.lock w m).2.1∧(g.lock w m).2.1≤11:=by
 unfold Gates.lock
 repeat' split
 all_goals (dsimp only;omega)
theorem qW{g:Gates}{w m c:Int}:0≤(g.unlock w m c).2.2.1∧(g.unlock w m c).2.2.1≤11:=by
 unfold Gates.unlock
 repeat' split
 all_goals (dsimp only;omega)
theorem Dc{g:Gates}{w c m ch:Int}:0≤(g.wait w c m ch).2.2.1∧(g.wait w c m ch).2.2.1≤11:=by
 unfold Gates.wait
 repeat' split
 all_goals (dsimp only;omega)
theorem GY{g:Gates}{s c:Int}:0≤(g.up s c).2.2.1∧(g.up s c).2.2.1≤11:=by
 unfold Gates.up
 repeat' split
 all_goals (dsimp only;omega)
theorem Dd{g:Gates}{w s:Int}:0≤(g.down w s).2.1∧(g.down w s).2.1≤11:=by
 unfold Gates.down
 repeat' split
 all_goals (dsimp only;omega)
theorem il{g:Gates}{c ch:Int}{a:Bool}:0≤(g.signal c ch a).2.1∧(g.signal c ch a).2.1≤11:=by
 unfold Gates.signal
 repeat' split
 all_goals (dsimp only;omega)
theorem qX{l:List eZ}{c:Int}(h:(aP l c).2.1=true):(aP l c).1∈l:=by
 by_cases h0:l.length=0
 ·rw[xU h0] at h;cases h
 ·exact(kJ h0).1
theorem tS{g:Gates}{w m c:Int}(h:(g.unlock w m c).2.1=true):g.has (g.unlock w m c).1:=by
 unfold Gates.unlock at h ⊢
 split
 ·rename_i e;rw[e] at h;cases h
 ·rename_i x e
  rw[e] at h;simp only at h ⊢
  split
  ·rename_i hi;rw[if_pos hi] at h
   exact .inl ⟨x,List.mem_of_getElem? (cB e).2.2,_,qX h,rfl⟩
  ·rename_i hi;rw[if_neg hi] at h;cases h
theorem zT{g:Gates}{w c m ch:Int}(h:(g.wait w c m ch).2.1=true):g.has (g.wait w c m ch).1:=by
 unfold Gates.wait at h ⊢
 split
 ·rename_i x r e1 e2
  rw[e1,e2] at h;simp only at h ⊢
  repeat' split at h
  all_goals first | (cases h;done) | skip
  rename_i h1 h2
  rw[if_neg h1,if_pos h2]
  exact .inl ⟨x,List.mem_of_getElem? (cB e1).2.2,_,qX h,rfl⟩
 ·rename_i hn
  split at h
  ·rename_i x r e1 e2;exact absurd e2 (hn x r e1)
  ·cases h
theorem GZ{g:Gates}{s c:Int}(h:(g.up s c).2.1=true):g.has (g.up s c).1:=by
 unfold Gates.up at h ⊢
 split
 ·rename_i e;rw[e] at h;cases h
 ·rename_i x e
  rw[e] at h;simp only at h ⊢
  split
  ·rename_i hi
   exact .inr (.inr ⟨x,List.mem_of_getElem? (cB e).2.2,_,qX hi,rfl⟩)
  ·rename_i hi;rw[if_neg hi] at h
   split at h <;> cases h
end Go.SLYthlllpngkljgfaaGreat
namespace Go.SLYthlllpngkljgfaaGreat
open Go Go.RowKit
theorem bK.pass{ps:List (Option Nat)}{d:Dng}{t:bI}{m:Nat}{x y e:Int}(h:bK ps d.s m)(ht:d.s.aF[d.n]?=some (some t))(hR:hG t)(he:0≤e∧e≤11):bK ps (d.pass x y e).s m:=by
 have:bK ps (d.tell x y e true).s m:=h.of rfl
 have h2:=this.aZ (n:=d.n) (hR.put (i:=7) (x:=e) (by omega))
 unfold Dng.pass;rw[dq ht];exact h2
theorem bK.block{ps:List (Option Nat)}{d:Dng}{t:bI}{m:Nat}{w i x y:Int}(h:bK ps d.s m)(ht:d.s.aF[d.n]?=some (some t))(hR:hG t)(hi : -1≤i∧i<8):bK ps (d.block w i x y).s m:=by
 have:bK ps (d.tell x y 0 false).s m:=h.of rfl
 have h2:=this.aZ (n:=d.n) (hR.with (a:=w) (b:=d.i.op) hi)
 unfold Dng.block;rw[dq ht];exact h2
theorem Lq{c:Int}(h:0≤c∧c<8):Bm c=c:=by unfold Bm;omega
theorem G0{u:Tub}{who x:Int}(h:(u.put who x).2.2.1=true):(u.put who x).2.1∈u.gM:=by
 cases hw:u.waits who with
 | true=>rw[wi hw] at h;cases h
 | false =>
  cases hg:u.gM with
  | cons w r=>rw[sF hw hg];exact List.mem_cons_self
  | nil =>
   by_cases hr:(u.words.length:Int)<u.room
   ·rw[pI hw hg hr] at h;cases h
   ·rw[pJ hw hg hr] at h;cases h
theorem G3{u:Tub}{who:Int}(h:(u.get who).2.2.2.1=true):∃ x∈u.ib,x.who=(u.get who).2.2.1:=by
 cases hw:u.waits who with
 | true=>rw[qS hw] at h;cases h
 | false =>
  cases hg:u.words with
  | nil=>rw[get_none hw hg] at h;cases h
  | cons w r =>
   cases hp:u.ib with
   | nil=>rw[pK hw hg hp] at h;cases h
   | cons q r2=>rw[pL hw hg hp];exact⟨q,List.mem_cons_self,rfl⟩
theorem G4{u:Tub}{who:Int}(h:∀ w∈u.words,0≤w∧w≤18446744073709551615):0≤(u.get who).1∧(u.get who).1≤18446744073709551615:=by
 have h0:(0:Int)≤0∧(0:Int)≤18446744073709551615:=by decide
 cases hw:u.waits who with
 | true=>rw[qS hw];exact h0
 | false =>
  cases hg:u.words with
  | nil=>rw[get_none hw hg];exact h0
  | cons w r =>
   have:=h w (by rw[hg];exact List.mem_cons_self)
   cases hp:u.ib with
   | nil=>rw[pK hw hg hp];exact this
   | cons q r2=>rw[pL hw hg hp];exact this
theorem De{d:Dng}{xs:List (Nat×Tub)}(hxs:xs.map (·.2)=d.s.cb)(h0:0≤d.i.n)(h:d.i.n<(d.s.cb.length:Int)):∃ q,xs[d.i.n.toNat]?=some (q,d.bV)∧d.bV∈d.s.cb:=by
 have hl:xs.length=d.s.cb.length:=by rw[← hxs,List.length_map]
 obtain⟨⟨q,u⟩,hx⟩:=ak (show d.i.n.toNat<xs.length by omega)
 have hu:=eH hxs hx
 have:d.bV=u:=by unfold Dng.bV;rw[List.getD_eq_getElem?_getD,hu];rfl
 exact⟨q,by rw[this];exact hx,by rw[this];exact List.mem_of_getElem? hu⟩
theorem wj{s:Spc}{f arg:Int}{n:Nat}(h:slotFree? s.table 0=some n)(hl:n<s.aF.length):∃ t,(s.begin f arg).2.2.aF[n]?=some (some t)∧t=sm f arg (ek ((s.table.getD n (false,0)).2+1) n):=by
 rw[fb h]
 exact⟨_,List.getElem?_set_self hl,rfl⟩
end Go.SLYthlllpngkljgfaaGreat
namespace Go.SLYthlllpngkljgfaaGreat
open Go Go.RowKit
theorem BI(s:Spc)(a b:List Int):cO s (a++b)=cO (cO s a) b:=by
 induction a generalizing s with
 | nil=>rfl
 | cons x l ih=>exact ih _
theorem yc(s:Spc)(a:List Int):(cO s a).al=s.al:=by
 induction a generalizing s with
 | nil=>rfl
 | cons x l ih=>exact(ih _).trans rfl
theorem tT{ps:List (Option Nat)}{s:Spc}(m:Nat)(a:List Int)(h:bK ps s m):bK ps (cO s a) m:=by
 induction a generalizing s with
 | nil=>exact h
 | cons x l ih =>
  refine ih ?_
  by_cases hx:∃ t,s.aF[x.toNat]?=some (some t)
  ·obtain⟨t,ht⟩:=hx
   rw[show s.t x.toNat=t from dO ht]
   obtain⟨hm,q,u,hq,hu,hR⟩:=h
   rcases Decidable.em (x.toNat=m) with e | hne
   ·subst e
    rw[ht] at hu;cases hu
    exact⟨hm,q,_,hq,dx ht,⟨hR.l,hR.r,hR.i,hR.v,hR.h⟩⟩
   ·exact⟨hm,q,u,hq,fM hu hne,hR⟩
  ·obtain⟨hm,q,u,hq,hu,hR⟩:=h
   exact⟨hm,q,u,hq,fM hu (fun e=>hx ⟨u,by rw[e];exact hu⟩),hR⟩
theorem hG.fJ{t:bI}(h:hG t){y:Int}(hy:0≤y∧y≤18446744073709551615):hG (t.fJ y):=by
 have h1:hG (if t.bY = -1 then t else t.put t.bY y):=by split;exact h;exact h.put hy
 have h2:=h1.put (i:=7) (x:=0) (by decide)
 exact⟨h2.l,h2.r,by show(-1:Int)≤ -1∧(-1:Int)<8;decide,h2.v,h2.h⟩
theorem yd(d:Dng)(a:List Int)(n:Int):d.dF (a++[n])=(d.dF a).cj n.toNat 0:=by
 induction a generalizing d with
 | nil=>rfl
 | cons x l ih=>exact ih _
theorem rL(d:Dng)(a:List Int):(d.dF a).ends.length=d.ends.length+a.length∧(d.dF a).out.av.length=d.out.av.length+a.length:=by
 induction a generalizing d with
 | nil=>exact⟨rfl,rfl⟩
 | cons x l ih =>
  have:=ih (d.cj x.toNat 0)
  simp only[Dng.cj,List.length_append,List.length_cons,List.length_nil] at this
  show(Dng.dF (d.cj x.toNat 0) l).ends.length=_∧(Dng.dF (d.cj x.toNat 0) l).out.av.length=_
  rw[List.length_cons]
  exact⟨by have:=this.1;simp only[Dng.cj] at this ⊢;omega,by have:=this.2;simp only[Dng.cj] at this ⊢;omega⟩
theorem wm{ps:List (Option Nat)}{d:Dng}{m n:Nat}(h:bK ps d.s m)(hn:bK ps d.s n):bK ps (d.cj n 0).s m:=by
 obtain⟨hn16,q,u,hq,hu,hR⟩:=hn
 have:=h.aZ (n:=n) (hR.fJ (y:=0) (by decide))
 unfold Dng.cj Spc.dL
 simp only
 rw[dO hu];exact this
theorem ye{ps:List (Option Nat)}(m:Nat)(a:List Int):∀ (d:Dng),bK ps d.s m→(∀ w∈a,bK ps d.s w.toNat)→bK ps (d.dF a).s m:=by
 induction a with
 | nil=>intro d h _;exact h
 | cons x l ih =>
  intro d h ha
  have hx:=ha x List.mem_cons_self
  exact ih _ (wm h hx) (fun w hw=>wm (ha w (List.mem_cons_of_mem _ hw)) hx)
def eI(d:Dng)(k:Nat):List Int:=(d.s.al.du.take k).flatMap fun m=>m.wait.map (·.who)
theorem yf{d:Dng}{k:Nat}{x:eN}(h:d.s.al.du[k]?=some x):eI d (k+1)=eI d k++x.wait.map (·.who):=by
 unfold eI
 rw[aQ h,List.flatMap_append];simp
theorem Df:∀ (n:Nat) (c:Int) (r:List eZ) (ms:List eN) (out:List Int),n≤r.length→ ∀ w∈(sigLoop n c r ms out).2.2,w∈out∨ ∃ y∈r,y.who=w
 | 0,_,_,_,_,_,_,h=>.inl h
 | n+1,c,r,ms,out,hn,w,h=>by
  unfold sigLoop at h
  simp only at h
  obtain⟨h1,h2,h3⟩:=kJ (l:=r) (c:=c) (by omega)
  rcases Df n c _ _ _ (by omega) w h with h | ⟨y,hy,e⟩
  ·split at h
   ·rcases List.mem_append.1 h with h | h
    ·exact .inl h
    ·rw[List.mem_singleton] at h;exact .inr ⟨_,h1,h.symm⟩
   ·exact .inl h
  ·exact .inr ⟨y,h3 y hy,e⟩
theorem Dg:∀ (n:Nat) (c:Int) (r:List eZ) (ms:List eN) (out:List Int),(sigLoop n c r ms out).2.2.length≤out.length+n
 | 0,_,_,_,_=>by simp[sigLoop]
 | n+1,c,r,ms,out=>by
  unfold sigLoop
  simp only
  refine Nat.le_trans (Dg n c _ _ _) ?_
  split
  ·rw[List.length_append];simp;omega
  ·omega
theorem lG{g:Gates}{c ch:Int}{all:Bool}:∀ w∈(g.signal c ch all).1,g.has w:=fun w h=>by
 unfold Gates.signal at h
 split at h
 ·cases h
 ·rename_i r e
  rcases Df _ _ _ _ _ (by split <;> omega) w h with h | ⟨y,hy,e2⟩
  ·cases h
  ·exact .inr (.inl ⟨r,List.mem_of_getElem? (cB e).2.2,y,hy,e2⟩)
theorem oF{g:Gates}{c ch:Int}{all:Bool}(hg:∀ r∈g.hU,r.length≤400000):(g.signal c ch all).1.length≤400000:=by
 unfold Gates.signal
 split
 ·simp
 ·rename_i r e
  have:=hg r (List.mem_of_getElem? (cB e).2.2)
  refine Nat.le_trans (Dg _ _ _ _ _) ?_
  simp only[List.length_nil]
  split <;> omega
theorem pQ:∀ (n:Nat) (c:Int) (r:List eZ) (ms:List eN) (out:List Int),(sigLoop n c r ms out).2.1.length=ms.length
 | 0,_,_,_,_=>rfl
 | n+1,c,r,ms,out=>by unfold sigLoop;simp only;rw[pQ n,List.length_set]
theorem j8{g:Gates}{c ch:Int}{all:Bool}:(g.signal c ch all).2.2.du.length=g.du.length:=by
 unfold Gates.signal
 split
 ·rfl
 ·exact pQ _ _ _ _ _
theorem wq:∀ (n:Nat) (c:Int) (r:List eZ) (ms:List eN) (out:List Int) (N:Nat),n≤r.length→(∀ x∈ms,x.wait.length≤N)→ ∀ x∈(sigLoop n c r ms out).2.1,x.wait.length≤N+n∧ ∀ y∈x.wait,(∃ x'∈ms,y∈x'.wait)∨ ∃ z∈r,z.who=y.who
 | 0,_,_,_,_,_,_,hN,x,h=>⟨hN x h,fun y hy=>.inl ⟨x,h,hy⟩⟩
 | n+1,c,r,ms,out,N,hn,hN,x,h=>by
  unfold sigLoop at h
  simp only at h
  obtain⟨h1,h2,h3⟩:=kJ (l:=r) (c:=c) (by omega)
  have hl:∀ x∈ms.set (aP r c).1.mutex.toNat ((ms.getD (aP r c).1.mutex.toNat ⟨[],false,0⟩).lock (aP r c).1.who).2,x.wait.length≤N+1∧ ∀ y∈x.wait,(∃ x'∈ms,y∈x'.wait)∨y.who=(aP r c).1.who:=by
   intro x hx
   rcases List.mem_or_eq_of_mem_set hx with hx | rfl
   ·exact⟨by have:=hN x hx;omega,fun y hy=>.inl ⟨x,hx,hy⟩⟩
   ·have hg:∀ (z:eN),(z∈ms∨z=⟨[],false,0⟩)→(z.lock (aP r c).1.who).2.wait.length≤N+1∧ ∀ y∈(z.lock (aP r c).1.who).2.wait,(∃ x'∈ms,y∈x'.wait)∨y.who=(aP r c).1.who:=by
     intro z hz
     have hzl:z.wait.length≤N:=by
      rcases hz with hz | rfl
      ·exact hN z hz
      ·exact Nat.zero_le _
     unfold eN.lock
     split
     ·refine⟨by rw[List.length_append];simp;omega,fun y hy=>?_⟩
      rcases List.mem_append.1 hy with hy | hy
      ·rcases hz with hz | rfl
       ·exact .inl ⟨z,hz,hy⟩
       ·cases hy
      ·rw[List.mem_singleton] at hy;exact .inr (by rw[hy])
     ·refine⟨by show z.wait.length≤_;omega,fun y hy=>?_⟩
      rcases hz with hz | rfl
      ·exact .inl ⟨z,hz,hy⟩
      ·cases hy
    refine hg _ ?_
    rw[List.getD_eq_getElem?_getD]
    cases e:ms[(aP r c).1.mutex.toNat]? with
    | none=>exact .inr rfl
    | some z=>exact .inl (List.mem_of_getElem? e)
  obtain⟨g1,g2⟩:=wq n c _ _ _ (N+1) (by omega) (fun x hx=>(hl x hx).1) x h
  refine⟨by omega,fun y hy=>?_⟩
  rcases g2 y hy with ⟨x',hx',hy'⟩ | ⟨z,hz,e⟩
  ·rcases(hl x' hx').2 y hy' with hh | hh
   ·exact .inl hh
   ·exact .inr ⟨_,h1,hh.symm⟩
  ·exact .inr ⟨z,h3 z hz,e⟩
theorem lH{g:Gates}{c ch:Int}{all:Bool}(h1:∀ x∈g.du,x.wait.length≤400000)(h2:∀ r∈g.hU,r.length≤400000):∀ x∈(g.signal c ch all).2.2.du,x.wait.length≤1000000∧ ∀ y∈x.wait,g.has y.who:=by
 intro x hx
 unfold Gates.signal at hx
 split at hx
 ·exact⟨Nat.le_trans (h1 x hx) (by decide),fun y hy=>.inl ⟨x,hx,y,hy,rfl⟩⟩
 ·rename_i r e
  have hr:=List.mem_of_getElem? (cB e).2.2
  have hrl:=h2 r hr
  obtain⟨a,b⟩:=wq _ _ _ _ _ 400000 (by split <;> omega) h1 x hx
  have hif:(if all=true then r.length else min r.length 1)≤r.length:=by split <;> omega
  refine⟨by omega,fun y hy=>?_⟩
  rcases b y hy with ⟨x',hx',hy'⟩ | ⟨z,hz,e2⟩
  ·exact .inl ⟨x',hx',y,hy',rfl⟩
  ·exact .inr (.inl ⟨r,hr,z,hz,e2⟩)
end Go.SLYthlllpngkljgfaaGreat
namespace Go.SLYthlllpngkljgfaaGreat
open Go Go.RowKit
structure iH(s:Spc):Prop where
 lt:s.aF.length=16
 T:jC s.table
 R:∀ (n:Nat) (t:bI),s.aF[n]?=some (some t)→hG t∧0≤t.pc∧t.pc≤257
 slot:∀ (h:Int) (m:Nat),bC s.table h=some m→ ∃ t,s.aF[m]?=some (some t)
 free:∀ n:Nat,slotFree? s.table 0=some n→s.aF[n]?=some none
 join:∀ (n:Nat) (t:bI),s.aF[n]?=some (some t)→t.cZ=0→¬t.aA = -1→0≤t.aA∧t.aA.toNat≠n∧ ∃ u,s.aF[t.aA.toNat]?=some (some u)
 aC:s.aC.length≤800000000
 mem:s.mem.length≤1000000
 gl:gO s.al
 Jw:∀ x∈s.al.ew,0≤x.count∧x.count≤1048576
 Jx:∀ r∈s.al.hU, ∀ w∈r,0≤w.mutex∧w.mutex<(s.al.du.length:Int)
 iX:∀ w,s.al.has w→0≤w∧ ∃ u,s.aF[w.toNat]?=some (some u)
 Jy:s.fa.bz≤(s.al.du.length:Int)
 BS:(∀ x∈s.al.du,x.wait.length≤400000)∧ ∀ r∈s.al.hU,r.length≤400000
 code:∀ f∈s.fa.funcs, ∀ i∈f,n8 i∧(cls i.op≠1→i.n≤1099511627776)∧(i.op=35∨i.op=36→i.n<(s.cb.length:Int))
 Ac:s.fa.funcs.length≤1000000∧ ∀ f∈s.fa.funcs,f.length≤256
 tl:∀ u∈s.cb,tL u
 Ab:∀ u∈s.cb,(∀ w∈u.gM,0≤w∧ ∃ v,s.aF[w.toNat]?=some (some v))∧(∀ x∈u.ib,0≤x.who∧ ∃ v,s.aF[x.who.toNat]?=some (some v))
 tw:∀ u∈s.cb, ∀ w∈u.words,0≤w∧w≤18446744073709551615
 dw:s.bZ.wait.length≤1000000
 db:∀ r∈s.bZ.wait,0≤r.block∧r.block<(s.bZ.blocks.length:Int)
 MO:∀ r∈s.bZ.wait,0≤r.who∧ ∃ v,s.aF[r.who.toNat]?=some (some v)
 wn:0≤s.aT.now∧s.aT.now≤1099511627776
 wl:s.aT.ic.length≤1000000
 MP:∀ x∈s.aT.ic,0≤x.1∧ ∃ v,s.aF[x.1.toNat]?=some (some v)
theorem iH.live{s:Spc}(h:iH s){ps:List (Option Nat)}(hs:xK ps s.aF){m:Nat}{t:bI}(e:s.aF[m]?=some (some t)):bK ps s m:=by
 obtain⟨q,hq⟩:=hs.2.1 m t e
 exact⟨h.lt ▸ (List.getElem?_eq_some_iff.1 e).1,q,t,hq,e,(h.R m t e).1⟩
theorem hG.nB{t:bI}(h:hG t)(hp:0≤t.pc∧t.pc≤257):C3 t.nB:=⟨h.l,by show 0≤t.pc∧t.pc≤_;omega,h.r⟩
theorem iH.call{s:Spc}(h:iH s){ps:List (Option Nat)}(hs:xK ps s.aF){k:Nat}{t:bI}{i:Ins}{choice:Int}(ht:s.aF[k]?=some (some t))(hw:t.cZ=0)(hI:n8 i)(hn:i.n≤1099511627776)(htub:i.op=35∨i.op=36→i.n<(s.cb.length:Int)) :
  iT ps ((s.dN k i choice).aZ {t with pc:=t.pc+1 }) {t with pc:=t.pc+1 }:=by
 have hk16:k<16:=h.lt ▸ (List.getElem?_eq_some_iff.1 ht).1
 have hR:=(h.R k t ht).1
 have hR2:hG {t with pc:=t.pc+1 }:=⟨hR.l,hR.r,hR.i,hR.v,hR.h⟩
 have lv:∀ {m:Nat} {u:bI},s.aF[m]?=some (some u)→bK ps (s.aZ k {t with pc:=t.pc+1 }) m:=fun e=>(h.live hs e).aZ hR2
 refine⟨hk16,hR2,?_,hs.1.trans h.lt,h.T,fun x m e=>?_,fun n e=>?_,fun hj=>?_,hI,hn,Nat.le_trans h.aC (by decide),Nat.zero_le _,Nat.zero_le _,h.mem,h.gl,h.Jw,h.Jx,fun w hw=>?_,h.Jy,h.BS,htub,h.tl,fun u hu=>⟨fun w hw=>?_,fun x hx=>?_⟩,h.tw,h.dw,h.wn⟩
 ·show(s.aF.set k _).length=16
  rw[List.length_set];exact h.lt
 ·obtain⟨u,hu⟩:=h.slot x m e;exact lv hu
 ·have:=h.free n e
  show(s.aF.set k _)[n]?=_
  rw[List.getElem?_set_ne (fun e=>by rw[e,this] at ht;cases ht)];exact this
 ·obtain⟨a,b,u,hu⟩:=h.join k t ht hw hj
  exact⟨a,b,lv hu⟩
 ·obtain⟨a,u,hu⟩:=h.iX w hw;exact⟨a,lv hu⟩
 ·obtain⟨a,u,hu⟩:=(h.Ab u hu).1 w hw;exact⟨a,lv hu⟩
 ·obtain⟨a,u,hu⟩:=(h.Ab u hu).2 x hx;exact⟨a,lv hu⟩
theorem iH.KD{s:Spc}(h:iH s){ps:List (Option Nat)}(hs:xK ps s.aF){k:Nat}{t:bI}(ht:s.aF[k]?=some (some t))(hw:t.cZ=0):¬t.aA = -1→0≤t.aA∧t.aA.toNat≠k∧bK ps s t.aA.toNat:=fun hj=>by
 obtain⟨a,b,u,hu⟩:=h.join k t ht hw hj
 exact⟨a,b,h.live hs hu⟩
theorem wu{s:Spc}(h:iH s){f:iW}{i:Ins}(e:dV s.fa f=some i):n8 i∧(cls i.op≠1→i.n≤1099511627776)∧(i.op=35∨i.op=36→i.n<(s.cb.length:Int)):=by
 unfold dV at e
 split at e
 ·cases e
 ·have hi:=List.mem_of_getElem? e
  cases hf:s.fa.funcs[f.fn.toNat]? with
  | none=>rw[List.getD_eq_getElem?_getD,hf] at hi;cases hi
  | some g=>rw[List.getD_eq_getElem?_getD,hf] at hi;exact h.code g (List.mem_of_getElem? hf) i hi
theorem KE{s:Spc}{ps:List (Option Nat)}(hs:xK ps s.aF){n:Int}(h:BH ps n=none)(hl:s.aF.length=16):s.at n=none:=by
 unfold BH at h
 unfold Spc.at aU
 split
 ·rfl
 ·rename_i h0
  by_cases hn:n<16
  ·rw[if_pos ⟨by omega,hn⟩] at h
   obtain⟨x,hx⟩:=ak (show n.toNat<s.aF.length by omega)
   rw[hx]
   cases x with
   | none=>rfl
   | some t=>obtain⟨q,hq⟩:=hs.2.1 _ t hx;rw[aY hq] at h;cases h
  ·rw[List.getElem?_eq_none (by omega)];rfl
theorem G5{s:Spc}{ps:List (Option Nat)}(hs:xK ps s.aF){n:Int}{p:Nat}(h:BH ps n=some p)(hl:s.aF.length=16):∃ k:Nat, ∃ t,n=(k:Int)∧k<16∧ps[k]?=some (some p)∧s.aF[k]?=some (some t)∧s.at n=some t:=by
 unfold BH at h
 split at h
 ·rename_i h0
  have hp:ps[n.toNat]?=some (some p):=by
   rw[List.getD_eq_getElem?_getD] at h
   cases e:ps[n.toNat]? with
   | none=>rw[e] at h;cases h
   | some x=>rw[e] at h;simp only[Option.getD_some] at h;rw[h]
  obtain⟨x,hx⟩:=ak (show n.toNat<s.aF.length by omega)
  cases x with
  | none=>have:=hs.2.2 _ hx;rw[hp] at this;cases this
  | some t=>exact⟨n.toNat,t,by omega,by omega,hp,hx,by unfold Spc.at aU;rw[if_neg (by omega),hx];rfl⟩
 ·cases h
section
variable{P:Program}{W:World}
theorem Fn.NC{f:FuncId}{args:List Value}{X X1:Type}{val:X→Value}{fact:X→Prop}{p:X1→Prop}{A:X1→List aa}(h:∀ x,p x→Fn P W f args [seps (A x)] X val fact (fun _=>[seps (A x)])):Fn P W f args [ja p A] X val fact (fun _=>[ja p A]):=fun F w hs=>by
 have h1:Sat W w (sep (ex fun x:{x // p x }=>seps (A x.1)) F):=hs.mono (bB (fun g b=>by
  obtain⟨x,hx,b⟩:ja p A g:=by simpa only[seps,aN] using b
  exact⟨⟨x,hx⟩,b⟩) (fun g b=>b))
 obtain⟨x,h2⟩:=h1.exists
 refine(h x.1 x.2 F w (by simpa only[seps,aN] using h2)).mono ?_
 rintro e w' ⟨y,e1,e2,s⟩
 exact⟨y,e1,e2,s.mono (bB (fun g b=>by
  have b':seps (A x.1) g:=by simpa only[seps,aN] using b
  show seps [ja p A] g
  simp only[seps,aN]
  exact⟨x.1,x.2,b'⟩) (fun g b=>b))⟩
end
theorem zU{s:Spc}{n c:Int}(h:s.at n=none):s.run n c=(lB.z,1,s):=by unfold Spc.run;rw[h]
theorem zV{s:Spc}{n c:Int}{t:bI}(h:s.at n=some t)(hw:t.cZ≠0):s.run n c=(lB.z,4,s):=by unfold Spc.run;rw[h];simp only;rw[if_pos hw]
theorem Dh{s:Spc}{k:Nat}{c:Int}{t:bI}(h:s.at (k:Int)=some t)(hw:¬t.cZ≠0)(hn:dV s.fa t.nB=none){z:Dng}(hz:z=((s.dN k ⟨23,0,0,0,0⟩ c).tell 0 0 0 true).fin 0):s.run (k:Int) c=(z.finish.1,0,z.finish.2):=by
 unfold Spc.run;rw[h];simp only;rw[if_neg hw,hn];subst hz;rfl
theorem wv{s:Spc}{k:Nat}{c:Int}{t:bI}{i:Ins}(h:s.at (k:Int)=some t)(hw:¬t.cZ≠0)(hn:dV s.fa t.nB=some i)(hc:cls i.op=1){z:Dng}(hz:z=(s.dN k i c).plain):s.run (k:Int) c=(z.finish.1,0,z.finish.2):=by
 unfold Spc.run;rw[h];simp only;rw[if_neg hw,hn];simp only;rw[if_pos hc];subst hz;rfl
theorem zW{s:Spc}{k:Nat}{c:Int}{t:bI}{i:Ins}(h:s.at (k:Int)=some t)(hw:¬t.cZ≠0)(hn:dV s.fa t.nB=some i)(hc:¬cls i.op=1){z:Dng}(hz:z=((s.dN k i c).aZ {t with pc:=t.pc+1 }).call):s.run (k:Int) c=(z.finish.1,0,z.finish.2):=by
 unfold Spc.run;rw[h];simp only;rw[if_neg hw,hn];simp only;rw[if_neg hc];subst hz;rfl
theorem Lr(t:bI)(x:Int):(bn t).set 1 (.int .i64 x)=bn {t with pc:=x }:=rfl
def zX(fv sv pv:Value)(p:gY):List Value:=[fv,.int .i64 p.words,.int .i64 p.bz,.int .i64 p.conds,sv,pv,.int .i64 p.blocks,.int .i64 p.prio]
end Go.SLYthlllpngkljgfaaGreat
namespace Go.SLYthlllpngkljgfaaGreat
open Go Go.RowKit
def eF(d e:Dng)(a n:Nat):Prop:=e.s.aC.length≤d.s.aC.length+a∧e.ends.length≤d.ends.length+n
theorem eF.refl{d:Dng}:eF d d 0 0:=⟨Nat.le_refl _,Nat.le_refl _⟩
theorem eF.up{d e:Dng}{a n a' n':Nat}(h:eF d e a n)(ha:a≤a')(hn:n≤n'):eF d e a' n':=⟨Nat.le_trans h.1 (by omega),Nat.le_trans h.2 (by omega)⟩
theorem eF.trans{d e f:Dng}{a n a' n':Nat}(h:eF d e a n)(k:eF e f a' n'):eF d f (a+a') (n+n'):=⟨by have:=h.1;have:=k.1;omega,by have:=h.2;have:=k.2;omega⟩
theorem eF.same{d e:Dng}(h1:e.s.aC=d.s.aC)(h2:e.ends=d.ends):eF d e 0 0:=⟨by rw[h1];exact Nat.le_refl _,by rw[h2];exact Nat.le_refl _⟩
theorem gG{d:Dng}{x y e:Int}{f:Bool}:eF d (d.tell x y e f) 1 0:=⟨by simp[Dng.tell,Spc.tell],Nat.le_refl _⟩
theorem bW{d:Dng}{x y e:Int}:eF d (d.pass x y e) 1 0:=⟨by simp[Dng.pass,Dng.aZ,Spc.aZ,Dng.tell,Spc.tell],Nat.le_refl _⟩
theorem fN{d:Dng}{w i x y:Int}:eF d (d.block w i x y) 1 0:=⟨by simp[Dng.block,Dng.aZ,Spc.aZ,Dng.tell,Spc.tell],Nat.le_refl _⟩
theorem nD{d:Dng}{n:Nat}{y:Int}:eF d (d.cj n y) 0 1:=⟨by simp[Dng.cj,Spc.dL,Spc.aZ],by simp[Dng.cj]⟩
theorem kK{d:Dng}{v:Int}:eF d (d.fin v) 0 1:=by
 unfold Dng.fin
 split
 ·exact(eF.same rfl rfl).up (Nat.le_refl _) (by decide)
 ·split
  ·exact(eF.same rfl rfl).up (Nat.le_refl _) (by decide)
  ·exact(eF.same (d:=d) (e:=d.ended) rfl rfl).trans (nD.trans (eF.same rfl rfl))
theorem oG{d:Dng}:eF d d.plain 1 1:=by
 unfold Dng.plain
 split
 ·have:∀ e:Dng,eF d e 1 0→ ∀ s:Spc,s.aC=e.s.aC→eF d {e with s:=s } 1 1:=fun e h s hs=>⟨by show s.aC.length≤_;rw[hs];exact h.1,Nat.le_trans h.2 (by omega)⟩
  simp only
  refine this _ ?_ _ rfl
  split
  ·exact gG
  ·split
   ·exact gG
   ·exact eF.refl.up (by decide) (by decide)
 ·split
  ·exact gG.trans kK
  ·exact gG.trans kK
theorem oH{d:Dng}{n:Int}{ok:Bool}:eF d (d.given n ok) 0 1:=by
 unfold Dng.given
 split
 ·exact nD
 ·exact eF.refl.up (by decide) (by decide)
theorem cC{d e f:Dng}{a n:Nat}(h:eF e f a n)(h1:e.s.aC=d.s.aC)(h2:e.ends=d.ends):eF d f a n:=⟨by rw[← h1];exact h.1,by rw[← h2];exact h.2⟩
theorem jL{s:Spc}{f a:Int}:(s.begin f a).2.2.aC=s.aC:=by
 unfold Spc.begin
 split <;> rfl
theorem BJ{d:Dng}:eF d d.spawn 1 1:=by
 unfold Dng.spawn
 refine eF.up (a:=1) (n:=0) ?_ (Nat.le_refl _) (by decide)
 exact cC bW (jL (s:=d.s) (f:=d.i.n) (a:=d.b)) rfl
theorem Ep{d:Dng}:eF d d.join 1 1:=by
 unfold Dng.join
 simp only
 repeat' split
 ·exact bW.up (Nat.le_refl _) (by decide)
 ·exact(cC bW rfl rfl).up (Nat.le_refl _) (by decide)
 ·exact(cC fN rfl rfl).up (Nat.le_refl _) (by decide)
theorem zY{d:Dng}:eF d d.gi 1 1:=by
 unfold Dng.gi
 simp only
 repeat' split
 ·exact bW.up (Nat.le_refl _) (by decide)
 ·exact(cC bW rfl rfl).up (Nat.le_refl _) (by decide)
 ·exact(cC bW rfl rfl).up (Nat.le_refl _) (by decide)
theorem BK{d:Dng}:eF d d.mutex 1 1:=by
 unfold Dng.mutex
 simp only
 repeat' split
 ·exact(cC fN rfl rfl).up (Nat.le_refl _) (by decide)
 ·exact(cC bW rfl rfl).up (Nat.le_refl _) (by decide)
 ·exact cC (bW.trans oH) rfl rfl
 ·exact(cC bW rfl rfl).up (Nat.le_refl _) (by decide)
 ·exact cC (fN.trans oH) rfl rfl
theorem G6{d:Dng}:eF d d.ew 1 1:=by
 unfold Dng.ew
 simp only
 repeat' split
 ·exact cC (bW.trans oH) rfl rfl
 ·exact(cC fN rfl rfl).up (Nat.le_refl _) (by decide)
 ·exact(cC bW rfl rfl).up (Nat.le_refl _) (by decide)
theorem zZ{d:Dng}{b y i:Int}:eF d (d.ask b y i) 1 1:=by
 unfold Dng.ask
 simp only
 repeat' split
 ·exact(cC bW rfl rfl).up (Nat.le_refl _) (by decide)
 ·exact(cC fN rfl rfl).up (Nat.le_refl _) (by decide)
 ·exact bW.up (Nat.le_refl _) (by decide)
theorem G7{d:Dng}:eF d d.put 1 1:=by
 unfold Dng.put
 simp only
 repeat' split
 ·exact(cC fN rfl rfl).up (Nat.le_refl _) (by decide)
 ·exact cC (bW.trans nD) rfl rfl
 ·exact(cC bW rfl rfl).up (Nat.le_refl _) (by decide)
theorem G8{d:Dng}:eF d d.get 1 1:=by
 unfold Dng.get
 simp only
 repeat' split
 ·exact(cC fN rfl rfl).up (Nat.le_refl _) (by decide)
 ·exact cC (bW.trans nD) rfl rfl
 ·exact(cC bW rfl rfl).up (Nat.le_refl _) (by decide)
theorem BL{d:Dng}:eF d d.sleep 1 1:=by
 unfold Dng.sleep
 simp only
 repeat' split
 ·exact bW.up (Nat.le_refl _) (by decide)
 ·exact bW.up (Nat.le_refl _) (by decide)
 ·exact(cC fN rfl rfl).up (Nat.le_refl _) (by decide)
theorem z6{d:Dng}:eF d d.kernel 1 1:=by
 unfold Dng.kernel
 repeat' split
 ·exact zZ
 ·exact zZ
 ·exact G7
 ·exact G8
 ·exact BL
 ·exact bW.up (Nat.le_refl _) (by decide)
theorem z7(s:Spc)(a:List Int):(cO s a).aC=s.aC:=by
 induction a generalizing s with
 | nil=>rfl
 | cons x l ih=>exact(ih _).trans rfl
theorem yh(d:Dng)(a:List Int):(d.dF a).s.aC=d.s.aC:=by
 induction a generalizing d with
 | nil=>rfl
 | cons x l ih=>exact(ih _).trans rfl
theorem BM{d:Dng}{l:List Int}:eF d (d.mb l) 0 l.length:=by
 unfold Dng.mb
 refine⟨?_,?_⟩
 ·rw[yh];show(cO d.s d.waits).aC.length≤_;rw[z7];exact Nat.le_refl _
 ·rw[(rL _ _).1];exact Nat.le_refl _
theorem qY{d:Dng}(h:∀ r∈d.s.al.hU,r.length≤400000):eF d d.call 1 400001:=by
 unfold Dng.call
 simp only
 repeat' split
 ·exact BJ.up (Nat.le_refl _) (by decide)
 ·exact(cC bW rfl rfl).up (Nat.le_refl _) (by decide)
 ·exact(bW (d:=d)).up (Nat.le_refl _) (by decide)
 ·exact Ep.up (Nat.le_refl _) (by decide)
 ·exact zY.up (Nat.le_refl _) (by decide)
 ·exact(gG.trans kK).up (Nat.le_refl _) (by decide)
 ·exact BK.up (Nat.le_refl _) (by decide)
 ·exact(cC (bW.trans BM) rfl rfl).up (Nat.le_refl _) (by have:=oF (c:=d.i.n) (ch:=d.choice) (all:=decide (d.i.op=29)) h;omega)
 ·exact G6.up (Nat.le_refl _) (by decide)
 ·exact z6.up (Nat.le_refl _) (by decide)
end Go.SLYthlllpngkljgfaaGreat
namespace Go.SLYthlllpngkljgfaaGreat
open Go Go.RowKit
section
variable{P:Program}
theorem c0 {d : Nat} {xs ys : Array Value} {f : Field} {fs : List Field} {a b : Value} {r : Bool} {w : World} (hn : (f.name != "_") = true) (pa : Part P f.type xs f.offset a) (pb : Part P f.type ys f.offset b) (h : (Op.equalIn d f.type a b).run P w = .ok r w) :
  (Op.eqFields d xs ys (f::fs)).run P w=if r=true then (Op.eqFields d xs ys fs).run P w else .ok false w:=by
 simp only[Op.eqFields,Sem.run_bind,Sem.run_ite,pa w,pb w,Result.andThen_ok,h]
 cases r
 ·simp;intro e;simp[e] at hn
 ·simp
end
def OB(t:bI):List Value:=[.int .u64 t.handle,.int .i64 t.cZ,.int .i64 t.fn,.int .i64 t.pc,.int .u64 (t.aI.getD 0 0),.int .u64 (t.aI.getD 1 0),.int .u64 (t.aI.getD 2 0),.int .u64 (t.aI.getD 3 0),.int .u64 (t.aI.getD 4 0),.int .u64 (t.aI.getD 5 0),.int .u64 (t.aI.getD 6 0),.int .u64 (t.aI.getD 7 0),.int .u64 t.value]
def OC:bI:=⟨0,0,[],0,0,0,false,0,0,0⟩
theorem BN{s:Spc}{n:Int}(h:s.at n=none):s.class n=0:=by unfold Spc.class;rw[h]
theorem BO{s:Spc}{n:Int}{t:bI}(h:s.at n=some t)(hw:t.cZ≠0):s.class n=0:=by unfold Spc.class;rw[h];simp only;rw[if_pos hw]
theorem Er{s:Spc}{n:Int}{t:bI}(h:s.at n=some t)(hw:¬t.cZ≠0)(hn:dV s.fa t.nB=none):s.class n=2:=by unfold Spc.class;rw[h];simp only;rw[if_neg hw,hn]
theorem BP{s:Spc}{n:Int}{t:bI}{i:Ins}(h:s.at n=some t)(hw:¬t.cZ≠0)(hn:dV s.fa t.nB=some i):s.class n=cls i.op:=by unfold Spc.class;rw[h];simp only;rw[if_neg hw,hn]
theorem G9{d:lg}{k:Int}(h:(d.done k).2.2.1=true):(d.done k).1∈d.wait∧(d.done k).2.2.2.wait.length≤d.wait.length:=by
 unfold lg.done at h ⊢
 split at h
 ·cases h
 ·rename_i h0
  rw[if_neg h0]
  simp only
  have hm:d.wait.getD (pick k d.wait.length) ⟨0,0,false,0⟩∈d.wait:=by
   have:=ly (t:=k) (n:=d.wait.length) (by omega)
   rw[List.getD_eq_getElem?_getD,List.getElem?_eq_getElem this];exact List.getElem_mem _
  split
  ·exact⟨hm,by simp only;rw[List.length_eraseIdx];split <;> omega⟩
  ·exact⟨hm,by simp only;rw[List.length_eraseIdx];split <;> omega⟩
theorem Lt{b:Nat}{x:Int}:∀ h,seps [arr b 0 [.int .i64 x]] h→sl au 1 (.slice (some ⟨b,0,none⟩) 1 1) [x] h:=fun h a=>by
 have a:arr b 0 [.int .i64 x] h:=by simpa only[seps,aN] using a
 exact .inr ⟨b,1,[],rfl,Nat.le_refl _,fun _ _=>rfl,rfl,a⟩
theorem Es{d:lg}{k:Int}(h:(d.done k).2.2.1=false):(d.done k).2.2.2=d:=by
 by_cases h0:d.wait.length=0
 ·rw[qT h0]
 ·cases hw:(d.wait.getD (pick k d.wait.length) xZ).write with
  | true=>rw[oC h0 rfl hw] at h;cases h
  | false=>rw[qU h0 rfl hw] at h;cases h
theorem rM{s:Spc}{k:Int}(h:(s.bZ.done k).2.2.1=false):s.done k=(lB.z,3,s):=by unfold Spc.done;simp only;rw[if_pos h]
theorem rN{s:Spc}{k:Int}{t:bI}(h:(s.bZ.done k).2.2.1=true)(ht:s.aF[(s.bZ.done k).1.who.toNat]?=some (some t)) :
  s.done k=(⟨[(s.bZ.done k).1.who],false,false,false⟩,0,(({s with bZ:=(s.bZ.done k).2.2.2 }:Spc).dL (s.bZ.done k).1.who.toNat (s.bZ.done k).2.1).tell (t.ko (s.bZ.done k).2.1)):=by
 unfold Spc.done;simp only;rw[if_neg (by rw[h];simp),show({s with bZ:=(s.bZ.done k).2.2.2 }:Spc).t (s.bZ.done k).1.who.toNat=t from dO ht]
theorem yi(s:Spc)(a:List Int)(n:Int):cM s (a++[n])=((cM s a).dL n.toNat 0).tell (((cM s a).t n.toNat).ko 0):=by
 induction a generalizing s with
 | nil=>rfl
 | cons x l ih=>exact ih _
theorem yj{ps:List (Option Nat)}(m:Nat)(a:List Int):∀ (s:Spc),bK ps s m→(∀ w∈a,bK ps s w.toNat)→bK ps (cM s a) m:=by
 induction a with
 | nil=>intro d h _;exact h
 | cons x l ih =>
  intro s h ha
  obtain⟨hn16,q,u,hq,hu,hR⟩:=ha x List.mem_cons_self
  have key:∀ {k:Nat},bK ps s k→bK ps ((s.dL x.toNat 0).tell ((s.t x.toNat).ko 0)) k:=fun hk=>by
   have:=hk.aZ (n:=x.toNat) (hR.fJ (y:=0) (by decide))
   refine bK.of (s:=s.aZ x.toNat (u.fJ 0)) this ?_
   unfold Spc.tell Spc.dL;rw[dO hu]
  exact ih _ (key h) (fun w hw=>key (ha w (List.mem_cons_of_mem _ hw)))
theorem pR(s:Spc)(a:List Int):(cM s a).aC.length=s.aC.length+a.length:=by
 induction a generalizing s with
 | nil=>rfl
 | cons x l ih =>
  show(cM _ l).aC.length=_
  rw[ih];simp[Spc.tell,Spc.dL,Spc.aZ];omega
theorem Ju{w:mm}{x:Int}(h:x∈w.due):∃ y∈w.ic,y.1=x:=by
 unfold mm.due at h
 have hs:∀ (l:List Int),x∈gD l→x∈l:=by
  intro l
  induction l with
  | nil=>exact fun h=>h
  | cons a l ih =>
   intro h
   have hi:∀ (m:List Int),x∈df a m→x=a∨x∈m:=by
    intro m
    induction m with
    | nil=>intro h;rcases List.mem_singleton.1 h with rfl;exact .inl rfl
    | cons b m ihm =>
     intro h
     unfold df at h
     split at h
     ·rcases List.mem_cons.1 h with h | h
      ·exact .inl h
      ·exact .inr h
     ·rcases List.mem_cons.1 h with h | h
      ·exact .inr (h ▸ List.mem_cons_self)
      ·rcases ihm h with h | h
       ·exact .inl h
       ·exact .inr (List.mem_cons_of_mem _ h)
   rcases hi _ h with h | h
   ·rw[h];exact List.mem_cons_self
   ·exact List.mem_cons_of_mem _ (ih h)
 obtain⟨y,hy,e⟩:=List.mem_map.1 (hs _ h)
 exact⟨y,(List.mem_filter.1 hy).1,e⟩
theorem Et(l:List Int):(gD l).length=l.length:=by
 induction l with
 | nil=>rfl
 | cons a l ih =>
  have hi:∀ (m:List Int),(df a m).length=m.length+1:=by
   intro m
   induction m with
   | nil=>rfl
   | cons b m ihm=>unfold df;split <;> simp[ihm]
  show(df a (gD l)).length=_
  rw[hi,ih,List.length_cons]
theorem pS(w:mm):w.due.length≤w.ic.length:=by
 unfold mm.due;rw[Et,List.length_map];exact List.length_filter_le ..
end Go.SLYthlllpngkljgfaaGreat
namespace Go.SLYthlllpngkljgfaaGreat
open Go Go.RowKit
def mU{α:Type}(f:α→Nat)(l:List α):Nat:=(l.map f).sum
theorem gp{α:Type}{f:α→Nat}:∀ {l:List α} {i:Nat} {x:α} (y:α),l[i]?=some x→mU f (l.set i y)+f x=mU f l+f y
 | a::l,0,x,y,h=>by
  obtain rfl:a=x:=by simpa using h
  simp[mU];omega
 | a::l,i+1,x,y,h=>by
  have:=gp (f:=f) (l:=l) (i:=i) y (by simpa using h)
  simp[mU] at this ⊢;omega
theorem eJ{α:Type}{f:α→Nat}:∀ {l:List α} {x:α},x∈l→f x≤mU f l
 | a::l,x,h=>by
  rcases List.mem_cons.1 h with rfl | h
  ·simp[mU]
  ·have:=eJ (f:=f) h
   simp[mU] at this ⊢;omega
theorem qZ{α:Type}{f:α→Nat}{l:List α}(h:∀ x∈l,f x=0):mU f l=0:=by
 induction l with
 | nil=>rfl
 | cons a l ih =>
  have:=ih (fun x hx=>h x (List.mem_cons_of_mem _ hx))
  have:=h a List.mem_cons_self
  simp[mU] at *;omega
theorem lI{α:Type}{P:α→Bool}:∀ {l:List α} {i:Nat} {x:α},l[i]?=some x→(l.eraseIdx i).countP P+(if P x=true then 1 else 0)=l.countP P
 | a::l,0,x,h=>by
  obtain rfl:a=x:=by simpa using h
  simp[List.countP_cons]
 | a::l,i+1,x,h=>by
  have:=lI (P:=P) (l:=l) (i:=i) (x:=x) (by simpa using h)
  simp[List.countP_cons] at this ⊢;omega
def KF(w:Int)(x:eZ):Bool:=decide (x.who=w)
def dM(w:Int)(l:List eZ):Nat:=l.countP (KF w)
def cG(g:Gates)(w:Int):Nat:=mU (fun m:eN=>dM w m.wait) g.du+mU (dM w) g.hU+mU (fun m:k5=>dM w m.wait) g.ew
def cU(w:Int)(u:Tub):Nat:=u.gM.count w+u.ib.countP fun x=>decide (x.who=w)
def cT(l:List Tub)(w:Int):Nat:=mU (cU w) l
def cD(d:lg)(w:Int):Nat:=d.wait.countP fun r=>decide (r.who=w)
def cL(u:mm)(w:Int):Nat:=u.ic.countP fun x=>decide (x.1=w)
def jn(w:Int):Option bI→Nat
 | none=>0
 | some t=>if t.aA=w∧¬w = -1 then 1 else 0
def cJ(l:List (Option bI))(w:Int):Nat:=mU (jn w) l
def n9(s:Spc)(w:Int):Nat:=cG s.al w+cT s.cb w+cD s.bZ w+cL s.aT w+cJ s.aF w
def bT(t:bI):Nat:=if t.cZ=0∨t.cZ=9 then 0 else 1
def bO:Option bI→Nat
 | none=>0
 | some t=>bT t
def rO:Option bI→Nat
 | none=>0
 | some t=>if t.cZ=0 then 1 else 0
def dQ(s:Spc)(w:Int):Nat:=bO (s.at w)
def cS(s:Spc)(w:Int):Nat:=rO (s.at w)
def fj(x:Int):Prop:=0≤x∧x≤18446744073709551615
structure sH(p:gY)(g:Gates):Prop where
 m:g.du.length=p.bz.toNat
 c:g.hU.length=p.conds.toNat
 s:g.ew.length=p.bF.length
 sc:∀ x∈g.ew,0≤x.count∧x.count≤1048576
 cm:∀ r∈g.hU, ∀ w∈r,0≤w.mutex∧w.mutex<(g.du.length:Int)
structure KG(u:Tub):Prop where
 r:u.room≤8
 l:u.words.length≤8
 w:∀ x∈u.words,fj x
 p:∀ x∈u.ib,fj x.x
structure BQ(d:lg):Prop where
 l:d.blocks.length≤64
 b:∀ x∈d.blocks,fj x
 w:∀ r∈d.wait,0≤r.block∧r.block<(d.blocks.length:Int)∧fj r.x
structure Lu(o:Bool×Int)(n:Nat)(t:bI):Prop where
 h:t.handle=ek o.2 n
 R:hG t
 pc:0≤t.pc∧t.pc≤257
 d:t.bJ=true→t.aA = -1
 f:t.cZ=9→t.aA = -1
def Di(p:gY):Prop:=dB p=0∧ ∀ f∈p.funcs, ∀ i∈f,fj i.n
structure Ok(k:Nat)(s:Spc)(p q:List Int):Prop where
 Dm:Di s.fa
 lt:s.aF.length=16
 ll:s.table.length=16
 tk:∀ o∈s.table,0≤o.2∧o.2≤(k:Int)
 us:∀ n:Nat,n<16→((s.table.getD n (false,0)).1=true↔ ∃ t,s.aF[n]?=some (some t))
 th:∀ (n:Nat) (t:bI),s.aF[n]?=some (some t)→Lu (s.table.getD n (false,0)) n t
 me:s.mem.length=s.fa.words.toNat∧ ∀ x∈s.mem,fj x
 gt:sH s.fa s.al
 tb:s.cb.length=s.fa.bb.length∧ ∀ u∈s.cb,KG u
 dk:BQ s.bZ
 wl:0≤s.aT.now∧s.aT.now≤1099511627776
 sq:∀ w,n9 s w+p.count w=dQ s w+q.count w
/-! who is at a place -/
theorem oI{s:Spc}{n:Nat}:s.at (n:Int)=(s.aF[n]?).getD none:=by
 unfold Spc.at aU;rw[if_neg (by omega),Int.toNat_natCast]
theorem ym{s:Spc}{w:Int}(h:w<0):s.at w=none:=by unfold Spc.at aU;rw[if_pos h];rfl
theorem oJ{s:Spc}{n:Nat}{o:Option bI}(hn:n<s.aF.length)(w:Int):({s with aF:=s.aF.set n o }:Spc).at w=if w=(n:Int) then o else s.at w:=by
 by_cases h0:w<0
 ·rw[ym h0,ym h0,if_neg (by omega)]
 ·obtain⟨m,rfl⟩:∃ m:Nat,w=(m:Int):=⟨w.toNat,by omega⟩
  rw[oI,oI]
  simp only
  by_cases e:m=n
  ·subst e;rw[List.getElem?_set_self hn,if_pos rfl];rfl
  ·rw[List.getElem?_set_ne (fun h=>e h.symm),if_neg (by omega)]
theorem Dj{s:Spc}{n:Nat}{t:bI}(h:s.aF[n]?=some (some t)):s.at (n:Int)=some t:=by rw[oI,h];rfl
theorem iI{s:Spc}{w:Int}{t:bI}(h:s.at w=some t):0≤w∧s.aF[w.toNat]?=some (some t):=by
 by_cases h0:w<0
 ·rw[ym h0] at h;cases h
 ·obtain⟨m,rfl⟩:∃ m:Nat,w=(m:Int):=⟨w.toNat,by omega⟩
  rw[oI] at h
  refine⟨by omega,?_⟩
  rw[Int.toNat_natCast]
  cases e:s.aF[m]? with
  | none=>rw[e] at h;cases h
  | some o=>rw[e] at h;exact congrArg some h
theorem j9{s:Spc}{w:Int}(h:0<dQ s w):∃ t,s.at w=some t∧t.cZ≠0∧t.cZ≠9:=by
 unfold dQ bO at h
 cases e:s.at w with
 | none=>rw[e] at h;exact absurd h (by simp)
 | some t =>
  rw[e] at h;simp only[bT] at h
  split at h
  ·exact absurd h (by simp)
  ·exact⟨t,rfl,by omega,by omega⟩
theorem Ha{s:Spc}{w:Int}:dQ s w≤1:=by
 unfold dQ bO
 split
 ·omega
 ·unfold bT;split <;> omega
theorem oK{t:bI}(h:t.cZ=0):bT t=0:=by unfold bT;rw[if_pos (.inl h)]
theorem kr{t:bI}(h:t.cZ≠0)(h9:t.cZ≠9):bT t=1:=by unfold bT;rw[if_neg (by omega)]
/-! steps that keep a space in order -/
section
variable{k:Nat}{s:Spc}{p q:List Int}
theorem Ok.aC(h:Ok k s p q)(l:List Rec):Ok k {s with aC:=l } p q:=⟨h.Dm,h.lt,h.ll,h.tk,h.us,h.th,h.me,h.gt,h.tb,h.dk,h.wl,h.sq⟩
theorem Ok.Lv(h:Ok k s p q){p' q':List Int}(e:∀ w,p'.count w+q.count w=p.count w+q'.count w):Ok k s p' q':=⟨h.Dm,h.lt,h.ll,h.tk,h.us,h.th,h.me,h.gt,h.tb,h.dk,h.wl,fun w=>by have:=h.sq w;have:=e w;omega⟩
theorem Ok.more(h:Ok k s p q){k':Nat}(hk:k≤k'):Ok k' s p q:=⟨h.Dm,h.lt,h.ll,fun o ho=>by have:=h.tk o ho;omega,h.us,h.th,h.me,h.gt,h.tb,h.dk,h.wl,h.sq⟩
theorem Ok.mem(h:Ok k s p q){m:List Int}(hl:m.length=s.mem.length)(hw:∀ x∈m,fj x):Ok k {s with mem:=m } p q:=⟨h.Dm,h.lt,h.ll,h.tk,h.us,h.th,⟨hl.trans h.me.1,hw⟩,h.gt,h.tb,h.dk,h.wl,h.sq⟩
theorem Ok.al(h:Ok k s p q){g:Gates}(hg:sH s.fa g){p' q':List Int}(e:∀ w,cG g w+p'.count w+q.count w=cG s.al w+p.count w+q'.count w):Ok k {s with al:=g } p' q' :=
 ⟨h.Dm,h.lt,h.ll,h.tk,h.us,h.th,h.me,hg,h.tb,h.dk,h.wl,fun w=>by
  have h1:=h.sq w;have h2:=e w
  have h3:dQ {s with al:=g } w=dQ s w:=rfl
  rw[h3];unfold n9 at h1 ⊢;simp only;omega⟩
theorem Ok.cb(h:Ok k s p q){l:List Tub}(hl:l.length=s.cb.length)(hu:∀ u∈l,KG u){p' q':List Int}(e:∀ w,cT l w+p'.count w+q.count w=cT s.cb w+p.count w+q'.count w):Ok k {s with cb:=l } p' q' :=
 ⟨h.Dm,h.lt,h.ll,h.tk,h.us,h.th,h.me,h.gt,⟨hl.trans h.tb.1,hu⟩,h.dk,h.wl,fun w=>by
  have h1:=h.sq w;have h2:=e w
  have h3:dQ {s with cb:=l } w=dQ s w:=rfl
  rw[h3];unfold n9 at h1 ⊢;simp only;omega⟩
theorem Ok.bZ(h:Ok k s p q){d:lg}(hd:BQ d){p' q':List Int}(e:∀ w,cD d w+p'.count w+q.count w=cD s.bZ w+p.count w+q'.count w):Ok k {s with bZ:=d } p' q' :=
 ⟨h.Dm,h.lt,h.ll,h.tk,h.us,h.th,h.me,h.gt,h.tb,hd,h.wl,fun w=>by
  have h1:=h.sq w;have h2:=e w
  have h3:dQ {s with bZ:=d } w=dQ s w:=rfl
  rw[h3];unfold n9 at h1 ⊢;simp only;omega⟩
theorem Ok.aT(h:Ok k s p q){u:mm}(hu:0≤u.now∧u.now≤1099511627776){p' q':List Int}(e:∀ w,cL u w+p'.count w+q.count w=cL s.aT w+p.count w+q'.count w):Ok k {s with aT:=u } p' q' :=
 ⟨h.Dm,h.lt,h.ll,h.tk,h.us,h.th,h.me,h.gt,h.tb,h.dk,hu,fun w=>by
  have h1:=h.sq w;have h2:=e w
  have h3:dQ {s with aT:=u } w=dQ s w:=rfl
  rw[h3];unfold n9 at h1 ⊢;simp only;omega⟩
theorem Ok.aZ(h:Ok k s p q){n:Nat}{t t':bI}(ht:s.aF[n]?=some (some t))(hh:Lu (s.table.getD n (false,0)) n t'){p' q':List Int}
  (e:∀ w,jn w (some t')+(if w=(n:Int) then bT t else 0)+p'.count w+q.count w=jn w (some t)+(if w=(n:Int) then bT t' else 0)+p.count w+q'.count w):Ok k (s.aZ n t') p' q':=by
 have hn:n<s.aF.length:=(List.getElem?_eq_some_iff.1 ht).1
 refine⟨h.Dm,?_,h.ll,h.tk,fun m hm=>?_,fun m u hu=>?_,h.me,h.gt,h.tb,h.dk,h.wl,fun w=>?_⟩
 ·show(s.aF.set n _).length=16;rw[List.length_set];exact h.lt
 ·refine(h.us m hm).trans ?_
  show(∃ t,s.aF[m]?=_)↔ ∃ t,(s.aF.set n (some t'))[m]?=_
  by_cases e:n=m
  ·subst e;rw[List.getElem?_set_self hn];exact⟨fun _=>⟨_,rfl⟩,fun _=>⟨_,ht⟩⟩
  ·rw[List.getElem?_set_ne e]
 ·have hu:(s.aF.set n (some t'))[m]?=some (some u):=hu
  by_cases e:n=m
  ·subst e;rw[List.getElem?_set_self hn] at hu;cases hu;exact hh
  ·rw[List.getElem?_set_ne e] at hu;exact h.th m u hu
 ·have h1:=h.sq w;have h2:=e w
  have h3:cJ (s.aZ n t').aF w+jn w (some t)=cJ s.aF w+jn w (some t'):=gp (f:=jn w) (some t') ht
  have h4:dQ (s.aZ n t') w+(if w=(n:Int) then bT t else 0)=dQ s w+(if w=(n:Int) then bT t' else 0):=by
   unfold dQ
   rw[show(s.aZ n t').at w=_ from oJ hn w]
   by_cases e:w=(n:Int)
   ·subst e;simp only[if_pos];rw[Dj ht];simp only[bO];omega
   ·simp only[if_neg e]
  have h5:n9 (s.aZ n t') w=cG s.al w+cT s.cb w+cD s.bZ w+cL s.aT w+cJ (s.aZ n t').aF w:=rfl
  rw[h5];unfold n9 at h1;omega
end
end Go.SLYthlllpngkljgfaaGreat
namespace Go.SLYthlllpngkljgfaaGreat
open Go Go.RowKit
section
variable{k:Nat}{s:Spc}{p q:List Int}
theorem Hb{l:List (Bool×Int)}{n:Nat}(hn:n<16)(hl:l.length=16)(h1:(l.getD n (false,0)).1=true)(_h0:0≤(l.getD n (false,0)).2):bC l (ek (l.getD n (false,0)).2 n)=some n:=by
 unfold bC
 have e:ek (l.getD n (false,0)).2 n % 65536=(n:Int)+1:=by unfold ek;omega
 rw[e,if_neg (by omega),show((n:Int)+1-1).toNat=n from by omega]
 have hx:=getD_some (d:=(false,(0:Int))) (show n<l.length by omega)
 rw[hx]
 simp only
 rw[if_pos (by simp only[and_true];exact h1)]
theorem Ok.Hc(h:Ok k s p q){n:Nat}{t:bI}(ht:s.aF[n]?=some (some t)):s.free n = {s with table:=s.table.set n (false,(s.table.getD n (false,0)).2),aF:=s.aF.set n none }:=by
 have hn:n<16:=h.lt ▸ (List.getElem?_eq_some_iff.1 ht).1
 have hx:=getD_some (d:=(false,(0:Int))) (show n<s.table.length by rw[h.ll];exact hn)
 have h0:=h.tk _ (List.mem_of_getElem? hx)
 unfold Spc.free
 rw[dO ht,(h.th n t ht).h,tH (Hb hn h.ll ((h.us n hn).2 ⟨t,ht⟩) h0.1)]
 rfl
theorem Ok.free(h:Ok k s p q){n:Nat}{t:bI}(ht:s.aF[n]?=some (some t)){p' q':List Int}
  (e:∀ w,(if w=(n:Int) then bT t else 0)+p'.count w+q.count w=jn w (some t)+p.count w+q'.count w):Ok k (s.free n) p' q':=by
 have hn:n<s.aF.length:=(List.getElem?_eq_some_iff.1 ht).1
 have hn16:n<16:=h.lt ▸ hn
 have hlt:n<s.table.length:=by rw[h.ll];exact hn16
 have hx:=getD_some (d:=(false,(0:Int))) hlt
 rw[h.Hc ht]
 refine⟨h.Dm,?_,?_,fun o ho=>?_,fun m hm=>?_,fun m u hu=>?_,h.me,h.gt,h.tb,h.dk,h.wl,fun w=>?_⟩
 ·show(s.aF.set n _).length=16;rw[List.length_set];exact h.lt
 ·show(s.table.set n _).length=16;rw[List.length_set];exact h.ll
 ·rcases List.mem_or_eq_of_mem_set ho with ho | rfl
  ·exact h.tk o ho
  ·show 0≤(s.table.getD n (false,0)).2∧_
   exact h.tk _ (List.mem_of_getElem? hx)
 ·show((s.table.set n _).getD m (false,0)).1=true↔ ∃ t,(s.aF.set n none)[m]?=_
  by_cases e:n=m
  ·subst e
   rw[List.getElem?_set_self hn,List.getD_eq_getElem?_getD,List.getElem?_set_self hlt]
   exact⟨fun h=>(by cases h),fun⟨t,h⟩=>(by cases h)⟩
  ·rw[List.getElem?_set_ne e,List.getD_eq_getElem?_getD,List.getElem?_set_ne e, ← List.getD_eq_getElem?_getD]
   exact h.us m hm
 ·have hu:(s.aF.set n none)[m]?=some (some u):=hu
  by_cases e:n=m
  ·subst e;rw[List.getElem?_set_self hn] at hu;cases hu
  ·rw[List.getElem?_set_ne e] at hu
   show Lu ((s.table.set n _).getD m (false,0)) m u
   rw[List.getD_eq_getElem?_getD,List.getElem?_set_ne e, ← List.getD_eq_getElem?_getD]
   exact h.th m u hu
 ·have h1:=h.sq w;have h2:=e w
  have h3:cJ (s.aF.set n none) w+jn w (some t)=cJ s.aF w+0:=gp (f:=jn w) none ht
  have h4:dQ {s with aF:=s.aF.set n none } w+(if w=(n:Int) then bT t else 0)=dQ s w:=by
   unfold dQ
   rw[oJ hn w]
   by_cases e:w=(n:Int)
   ·subst e;simp only[if_pos];rw[Dj ht];simp only[bO];omega
   ·simp only[if_neg e];omega
  have h5:dQ {s with table:=s.table.set n (false,(s.table.getD n (false,0)).2),aF:=s.aF.set n none } w=dQ {s with aF:=s.aF.set n none } w:=rfl
  rw[h5]
  unfold n9 at h1 ⊢
  simp only
  omega
theorem Ok.begin(h:Ok k s p q)(hk:k≤1000000){f arg:Int}(ha:fj arg):Ok (k+1) (s.begin f arg).2.2 p q:=by
 cases hf:slotFree? s.table 0 with
 | none=>rw[kD hf];exact h.more (Nat.le_succ _)
 | some n =>
  have hfr:∀ (l:List (Bool×Int)) (i n:Nat),slotFree? l i=some n→i≤n∧ ∃ o,l[n-i]?=some o∧o.1=false:=by
   intro l
   induction l with
   | nil=>intro i n h;cases h
   | cons o l ih =>
    intro i n h
    unfold slotFree? at h
    split at h
    ·obtain⟨a,o',b,c⟩:=ih (i+1) n h
     exact⟨by omega,o',by rw[show n-i=(n-(i+1))+1 from by omega];simpa using b,c⟩
    ·cases h;rename_i hb
     exact⟨Nat.le_refl _,o,by simp,by simpa using hb⟩
  obtain⟨-,o,ho,ho1⟩:=hfr _ _ _ hf
  rw[Nat.sub_zero] at ho
  have hlt:n<s.table.length:=(List.getElem?_eq_some_iff.1 ho).1
  have hn16:n<16:=h.ll ▸ hlt
  have hn:n<s.aF.length:=by rw[h.lt];exact hn16
  have hgd:s.table.getD n (false,0)=o:=by rw[List.getD_eq_getElem?_getD,ho];rfl
  have hno:s.aF[n]?=some none:=by
   obtain⟨x,hx⟩:=ak hn
   cases x with
   | none=>exact hx
   | some t=>have:=(h.us n hn16).2 ⟨t,hx⟩;rw[hgd,ho1] at this;cases this
  have htk:=h.tk o (List.mem_of_getElem? ho)
  rw[fb hf,hgd]
  refine⟨h.Dm,?_,?_,fun o' ho'=>?_,fun m hm=>?_,fun m u hu=>?_,h.me,h.gt,h.tb,h.dk,h.wl,fun w=>?_⟩
  ·show(s.aF.set n _).length=16;rw[List.length_set];exact h.lt
  ·show(s.table.set n _).length=16;rw[List.length_set];exact h.ll
  ·rcases List.mem_or_eq_of_mem_set ho' with ho' | rfl
   ·have:=h.tk o' ho';omega
   ·show 0≤o.2+1∧o.2+1≤((k+1:Nat):Int);omega
  ·show((s.table.set n _).getD m (false,0)).1=true↔ ∃ t,(s.aF.set n _)[m]?=_
   by_cases e:n=m
   ·subst e
    rw[List.getElem?_set_self hn,List.getD_eq_getElem?_getD,List.getElem?_set_self hlt]
    exact⟨fun _=>⟨_,rfl⟩,fun _=>rfl⟩
   ·rw[List.getElem?_set_ne e,List.getD_eq_getElem?_getD,List.getElem?_set_ne e, ← List.getD_eq_getElem?_getD]
    exact h.us m hm
  ·have hu:(s.aF.set n _)[m]?=some (some u):=hu
   by_cases e:n=m
   ·subst e;rw[List.getElem?_set_self hn] at hu;cases hu
    show Lu ((s.table.set n _).getD n (false,0)) n _
    rw[List.getD_eq_getElem?_getD,List.getElem?_set_self hlt]
    refine⟨rfl,⟨rfl,fun m=>?_,by show(-1:Int)≤ -1∧(-1:Int)<8;decide,by show(0:Int)≤0∧(0:Int)≤_;decide,?_⟩,by show(0:Int)≤0∧(0:Int)≤257;decide,fun h=>(by cases h),fun h=>rfl⟩
    ·have h0:(0:Int)≤0∧(0:Int)≤18446744073709551615:=by decide
     show 0≤([arg,0,0,0,0,0,0,0]:List Int).getD m 0∧_
     match m with
     | 0=>exact ha
     | 1=>exact h0
     | 2=>exact h0
     | 3=>exact h0
     | 4=>exact h0
     | 5=>exact h0
     | 6=>exact h0
     | 7=>exact h0
     | m+8=>exact h0
    ·show 0≤ek (o.2+1) n∧ek (o.2+1) n≤_;unfold ek;omega
   ·rw[List.getElem?_set_ne e] at hu
    show Lu ((s.table.set n _).getD m (false,0)) m u
    rw[List.getD_eq_getElem?_getD,List.getElem?_set_ne e, ← List.getD_eq_getElem?_getD]
    exact h.th m u hu
  ·have h1:=h.sq w
   have h3:cJ (s.aF.set n (some (sm f arg (ek (o.2+1) n)))) w+0=cJ s.aF w+jn w (some (sm f arg (ek (o.2+1) n))):=gp (f:=jn w) _ hno
   have hj:jn w (some (sm f arg (ek (o.2+1) n)))=0:=by unfold jn;exact if_neg (by rintro⟨a,b⟩;exact b a.symm)
   have h4:dQ {s with aF:=s.aF.set n (some (sm f arg (ek (o.2+1) n))) } w=dQ s w:=by
    unfold dQ
    rw[oJ hn w]
    by_cases e:w=(n:Int)
    ·subst e;simp only[if_pos];rw[oI,hno];rfl
    ·simp only[if_neg e]
   have h5:dQ {s with table:=s.table.set n (true,o.2+1),aF:=s.aF.set n (some (sm f arg (ek (o.2+1) n))) } w=dQ {s with aF:=s.aF.set n (some (sm f arg (ek (o.2+1) n))) } w:=rfl
   rw[h5]
   unfold n9 at h1 ⊢
   simp only
   omega
end
end Go.SLYthlllpngkljgfaaGreat
namespace Go.SLYthlllpngkljgfaaGreat
open Go Go.RowKit
def opn(V:List Rec)(h:Int):Option Int:=match (V.filter fun r=>decide (r.ab=h)).getLast? with | none=>none | some r=>if r.fin=true then none else some r.op
theorem Hd{V:List Rec}{r:Rec}{h:Int}(e:r.ab=h):opn (V++[r]) h=if r.fin=true then none else some r.op:=by
 unfold opn;rw[List.filter_append];simp[e]
theorem Eu{V:List Rec}{r:Rec}{h:Int}(e:r.ab≠h):opn (V++[r]) h=opn V h:=by
 unfold opn;rw[List.filter_append];simp[e]
def tU(V:List Rec):Prop:=∀ a r b,V=a++r::b→ ∀ op,opn a r.ab=some op→r.fin=true∧r.op=op∧r.x=0∧r.result=0
theorem tU.nil:tU []:=fun a r b e=>by cases a <;> cases e
theorem tU.snoc{V:List Rec}{r:Rec}(h:tU V)(hr:∀ op,opn V r.ab=some op→r.fin=true∧r.op=op∧r.x=0∧r.result=0):tU (V++[r]):=fun a q b e=>by
 rcases List.eq_nil_or_concat b with rfl | ⟨b',z,rfl⟩
 ·have:=List.append_inj' e rfl
  obtain⟨rfl,h2⟩:=this
  cases h2
  exact hr
 ·rw[List.concat_eq_append, ← List.cons_append, ← List.append_assoc] at e
  have:=List.append_inj' e rfl
  exact h a q b' this.1
structure dX(s:Spc)(V:List Rec):Prop where
 pr:tU V
 op:∀ (n:Nat) (t:bI),s.aF[n]?=some (some t)→opn V t.handle=if bT t=1 then some t.op else none
 hd:∀ r∈V, ∃ (n:Nat) (k:Int),n<16∧r.ab=ek k n∧k≤(s.table.getD n (false,0)).2
theorem wx{a b:Int}{n m:Nat}(hn:n<16)(hm:m<16)(h:ek a n=ek b m):n=m∧a=b:=by unfold ek at h;omega
section
variable{k:Nat}{s:Spc}{p q:List Int}{V:List Rec}{n:Nat}{t t':bI}
theorem dX.of(h:dX s V){s':Spc}(e1:s'.aF=s.aF)(e2:s'.table=s.table):dX s' V:=⟨h.pr,fun n t ht=>h.op n t (by rw[← e1];exact ht),fun r hr=>by rw[e2];exact h.hd r hr⟩
theorem Ew(hO:Ok k s p q){m:Nat}{u:bI}(ht:s.aF[n]?=some (some t))(hu:s.aF[m]?=some (some u))(hne:n≠m):t.handle≠u.handle:=fun e=>by
 rw[(hO.th n t ht).h,(hO.th m u hu).h] at e
 exact hne (wx (hO.lt ▸ (List.getElem?_eq_some_iff.1 ht).1) (hO.lt ▸ (List.getElem?_eq_some_iff.1 hu).1) e).1
theorem dX.yn(h:dX s V)(hO:Ok k s p q)(ht:s.aF[n]?=some (some t)){r:Rec}(hr:r.ab=t.handle)(hh:t'.handle=t.handle)(hp:∀ op,opn V t.handle=some op→r.fin=true∧r.op=op∧r.x=0∧r.result=0)
  (he:(if r.fin=true then none else some r.op)=if bT t'=1 then some t'.op else none):dX (s.aZ n t') (V++[r]):=by
 have hn:n<s.aF.length:=(List.getElem?_eq_some_iff.1 ht).1
 refine⟨h.pr.snoc (by rw[hr];exact hp),fun m u hu=>?_,fun x hx=>?_⟩
 ·have hu:(s.aF.set n (some t'))[m]?=some (some u):=hu
  by_cases e:n=m
  ·subst e;rw[List.getElem?_set_self hn] at hu;cases hu
   rw[hh,Hd hr];exact he
  ·rw[List.getElem?_set_ne e] at hu
   rw[Eu (by rw[hr];exact Ew hO ht hu e)]
   exact h.op m u hu
 ·rcases List.mem_append.1 hx with hx | hx
  ·exact h.hd x hx
  ·rw[List.mem_singleton] at hx
   rw[hx,hr,(hO.th n t ht).h]
   exact⟨n,_,hO.lt ▸ hn,rfl,Int.le_refl _⟩
theorem dX.aZ(h:dX s V)(ht:s.aF[n]?=some (some t))(hh:t'.handle=t.handle)(hb:bT t'=bT t)(ho:bT t=1→t'.op=t.op):dX (s.aZ n t') V:=by
 have hn:n<s.aF.length:=(List.getElem?_eq_some_iff.1 ht).1
 refine⟨h.pr,fun m u hu=>?_,h.hd⟩
 have hu:(s.aF.set n (some t'))[m]?=some (some u):=hu
 by_cases e:n=m
 ·subst e;rw[List.getElem?_set_self hn] at hu;cases hu
  rw[hh,h.op n t ht,hb]
  by_cases e:bT t=1
  ·rw[if_pos e,if_pos e,ho e]
  ·rw[if_neg e,if_neg e]
 ·rw[List.getElem?_set_ne e] at hu
  exact h.op m u hu
theorem dX.tell(h:dX s V)(hO:Ok k s p q)(ht:s.aF[n]?=some (some t))(hb:bT t=0){o x y e:Int}:dX s (V++[⟨t.handle,o,x,y,e,true⟩]):=by
 have h0:opn V t.handle=none:=by rw[h.op n t ht,hb];rfl
 have:=h.yn (t':=t) hO ht (r:=⟨t.handle,o,x,y,e,true⟩) rfl rfl (fun op e=>by rw[h0] at e;cases e) (by rw[hb];rfl)
 refine this.of ?_ rfl
 show s.aF=s.aF.set n (some t)
 rw[gP ht]
theorem dX.free(h:dX s V)(hO:Ok k s p q)(ht:s.aF[n]?=some (some t)):dX (s.free n) V:=by
 have hn:n<s.aF.length:=(List.getElem?_eq_some_iff.1 ht).1
 have hlt:n<s.table.length:=by rw[hO.ll, ← hO.lt];exact hn
 rw[hO.Hc ht]
 refine⟨h.pr,fun m u hu=>?_,fun r hr=>?_⟩
 ·have hu:(s.aF.set n none)[m]?=some (some u):=hu
  by_cases e:n=m
  ·subst e;rw[List.getElem?_set_self hn] at hu;cases hu
  ·rw[List.getElem?_set_ne e] at hu;exact h.op m u hu
 ·obtain⟨m,k,h1,h2,h3⟩:=h.hd r hr
  refine⟨m,k,h1,h2,?_⟩
  show k≤((s.table.set n (false,(s.table.getD n (false,0)).2)).getD m (false,0)).2
  by_cases e:n=m
  ·subst e;rw[List.getD_eq_getElem?_getD,List.getElem?_set_self hlt];exact h3
  ·rw[List.getD_eq_getElem?_getD,List.getElem?_set_ne e, ← List.getD_eq_getElem?_getD];exact h3
theorem He{V:List Rec}{h:Int}(e:∀ r∈V,r.ab≠h):opn V h=none:=by
 unfold opn
 rw[List.filter_eq_nil_iff.2 (fun r hr=>by simpa using e r hr)];rfl
theorem dX.begin(h:dX s V)(hO:Ok k s p q){f a:Int}:dX (s.begin f a).2.2 V:=by
 cases hf:slotFree? s.table 0 with
 | none=>rw[kD hf];exact h
 | some n =>
  have hn16:n<16:=by
   have hfr:∀ (l:List (Bool×Int)) (i n:Nat),slotFree? l i=some n→n<i+l.length:=by
    intro l
    induction l with
    | nil=>intro i n h;cases h
    | cons o l ih =>
     intro i n h
     unfold slotFree? at h
     split at h
     ·have:=ih (i+1) n h;simp only[List.length_cons];omega
     ·cases h;simp only[List.length_cons];omega
   have:=hfr _ _ _ hf
   have:=hO.ll
   omega
  have hn:n<s.aF.length:=by rw[hO.lt];exact hn16
  have hlt:n<s.table.length:=by rw[hO.ll];exact hn16
  rw[fb hf]
  refine⟨h.pr,fun m u hu=>?_,fun r hr=>?_⟩
  ·have hu:(s.aF.set n _)[m]?=some (some u):=hu
   by_cases e:n=m
   ·subst e;rw[List.getElem?_set_self hn] at hu;cases hu
    refine(He fun r hr e=>?_).trans rfl
    obtain⟨m,k,h1,h2,h3⟩:=h.hd r hr
    rw[h2] at e
    obtain⟨rfl,rfl⟩:=wx h1 hn16 e
    omega
   ·rw[List.getElem?_set_ne e] at hu;exact h.op m u hu
  ·obtain⟨m,k,h1,h2,h3⟩:=h.hd r hr
   refine⟨m,k,h1,h2,?_⟩
   show k≤((s.table.set n (true,(s.table.getD n (false,0)).2+1)).getD m (false,0)).2
   by_cases e:n=m
   ·subst e;rw[List.getD_eq_getElem?_getD,List.getElem?_set_self hlt];show k≤(s.table.getD n (false,0)).2+1;omega
   ·rw[List.getD_eq_getElem?_getD,List.getElem?_set_ne e, ← List.getD_eq_getElem?_getD];exact h3
theorem z8{u:bI}{y:Int}:(u.fJ y).handle=u.handle:=by show(if u.bY = -1 then u else u.put u.bY y).handle=_;split <;> rfl
theorem dX.dL(h:dX s V)(hO:Ok k s p q){w0:Int}{u:bI}(hu:s.at w0=some u)(hu0:u.cZ≠0)(hu9:u.cZ≠9){y:Int}:dX (s.dL w0.toNat y) (V++[u.ko y]):=by
 obtain⟨h0,hat⟩:=iI hu
 unfold Spc.dL
 rw[dO hat]
 have hb:bT u=1:=kr hu0 hu9
 refine h.yn hO hat rfl z8 (fun op e=>?_) ?_
 ·rw[h.op _ u hat,hb,if_pos rfl] at e
  cases e
  exact⟨rfl,rfl,rfl,rfl⟩
 ·rw[show bT (u.fJ y)=0 from oK rfl];rfl
end
end Go.SLYthlllpngkljgfaaGreat
namespace Go.SLYthlllpngkljgfaaGreat
open Go Go.RowKit
structure dH(k:Nat)(s0:Spc)(d:Dng)(p q:List Int):Prop where
 ok:Ok k d.s p q
 rd:∀ w,cS d.s w+(if (d.out.aR=true∨d.out.ended=true)∧w=(d.n:Int) then 1 else 0)=cS s0 w+d.out.av.count w
 wk:∀ w∈d.out.av,cS s0 w=0
 rc:dX d.s (d.s.aC++d.ends)
 px:s0.aC <+: d.s.aC
section
variable{k:Nat}{s0:Spc}{d:Dng}{p q:List Int}{t:bI}
theorem gQ{w:Int}{t:bI}:jn w (some t)=if t.aA=w∧¬w = -1 then 1 else 0:=rfl
theorem dz{t:bI}:rO (some t)=if t.cZ=0 then 1 else 0:=rfl
theorem mV{s:Spc}{n:Nat}{t t':bI}(ht:s.aF[n]?=some (some t))(w:Int):cS (s.aZ n t') w=if w=(n:Int) then rO (some t') else cS s w:=by
 unfold cS
 rw[show(s.aZ n t').at w=_ from oJ (List.getElem?_eq_some_iff.1 ht).1 w]
 split <;> rfl
theorem oL{s:Spc}{n:Nat}{t:bI}(ht:s.aF[n]?=some (some t)):cS s (n:Int)=rO (some t):=by unfold cS;rw[Dj ht]
theorem dH.sq(h:dH k s0 d p q){p' q':List Int}(e:∀ w,p'.count w+q.count w=p.count w+q'.count w):dH k s0 d p' q':=⟨h.ok.Lv e,h.rd,h.wk,h.rc,h.px⟩
theorem dH.tell(h:dH k s0 d p q)(ht:d.s.aF[d.n]?=some (some t))(hw:t.cZ=0)(hn:d.ends=[]){x y e:Int}:dH k s0 (d.tell x y e true) p q:=⟨h.ok.aC _,h.rd,h.wk,by
 have h1:=h.rc
 rw[hn,List.append_nil] at h1
 have h2:=h1.tell h.ok ht (oK hw) (o:=d.i.op) (x:=x) (y:=y) (e:=e)
 show dX (d.s.tell ⟨d.t.handle,d.i.op,x,y,e,true⟩) ((d.s.aC++[⟨d.t.handle,d.i.op,x,y,e,true⟩])++d.ends)
 rw[hn,List.append_nil,dq ht]
 exact h2.of rfl rfl,h.px.trans (List.prefix_append _ _)⟩
theorem dH.own(h:dH k s0 d p q)(ht:d.s.aF[d.n]?=some (some t)){t':bI}(hR:hG t')(hpc:0≤t'.pc∧t'.pc≤257)(e1:t'.handle=t.handle)(e2:t'.cZ=t.cZ)(e3:t'.aA=t.aA)(e4:t'.bJ=t.bJ)(e5:t'.op=t.op):dH k s0 (d.aZ t') p q:=by
 have ho:=h.ok.th d.n t ht
 refine⟨h.ok.aZ ht ⟨e1.trans ho.h,hR,hpc,fun a=>by rw[e3];exact ho.d (by rw[← e4];exact a),fun a=>by rw[e3];exact ho.f (by rw[← e2];exact a)⟩ (fun w=>?_),fun w=>?_,h.wk,h.rc.aZ ht e1 (by unfold bT;rw[e2]) (fun _=>e5),h.px⟩
 ·have hjj:jn w (some t')=jn w (some t):=by rw[gQ,gQ,e3]
  have hbb:bT t'=bT t:=by unfold bT;rw[e2]
  rw[hjj,hbb]
 ·have:=h.rd w
  have hr:cS (d.aZ t').s w=cS d.s w:=by
   show cS (d.s.aZ d.n t') w=_
   rw[mV ht]
   split
   ·rename_i e;rw[e,oL ht,dz,dz,e2]
   ·rfl
  rw[hr];exact this
theorem dH.pass(h:dH k s0 d p q)(ht:d.s.aF[d.n]?=some (some t))(hw:t.cZ=0)(hn:d.ends=[]){x y e:Int}(he:0≤e∧e≤11):dH k s0 (d.pass x y e) p q:=by
 have ho:=h.ok.th d.n t ht
 unfold Dng.pass
 rw[dq ht]
 exact dH.own (d:=d.tell x y e true) (h.tell ht hw hn) ht (ho.R.put (by omega)) ho.pc rfl rfl rfl rfl rfl
theorem dH.block(h:dH k s0 d p ((d.n:Int)::q))(ht:d.s.aF[d.n]?=some (some t))(hw:t.cZ=0)(hn:d.ends=[])(hs:d.out.aR=false)(hd:d.out.ended=false){a i x y:Int}(ha:a≠0∧a≠9)(hi : -1≤i∧i<8):dH k s0 (d.block a i x y) p q:=by
 have ho:=h.ok.th d.n t ht
 have hTo:Ok k (d.tell x y 0 false).s p ((d.n:Int)::q):=h.ok.aC _
 have ht2:(d.tell x y 0 false).s.aF[d.n]?=some (some t):=ht
 unfold Dng.block
 rw[dq ht]
 refine⟨hTo.aZ ht2 (t':={t with cZ:=a,op:=d.i.op,bY:=i }) ⟨ho.h,ho.R.with hi,ho.pc,ho.d,fun e=>absurd e ha.2⟩ (fun w=>?_),fun w=>?_,h.wk,?_,h.px.trans (List.prefix_append _ _)⟩
 ·have e1:bT t=0:=oK hw
  have e2:bT {t with cZ:=a,op:=d.i.op,bY:=i }=1:=kr ha.1 ha.2
  have e3:jn w (some {t with cZ:=a,op:=d.i.op,bY:=i })=jn w (some t):=rfl
  rw[e1,e2,e3,List.count_cons]
  simp only[beq_iff_eq]
  by_cases e:w=(d.n:Int)
  ·rw[if_pos e,if_pos e,if_pos e.symm];omega
  ·rw[if_neg e,if_neg e,if_neg (fun h=>e h.symm)];omega
 ·have h1:=h.rd w
  rw[if_neg (by rw[hs,hd];simp)] at h1
  show cS ((d.tell x y 0 false).s.aZ d.n {t with cZ:=a,op:=d.i.op,bY:=i }) w+(if (true=true∨d.out.ended=true)∧w=(d.n:Int) then 1 else 0)=cS s0 w+d.out.av.count w
  rw[mV ht2]
  by_cases e:w=(d.n:Int)
  ·rw[if_pos e,if_pos ⟨.inl rfl,e⟩]
   rw[e,oL ht] at h1
   have:rO (some t)=1:=by rw[dz,if_pos hw]
   have:rO (some {t with cZ:=a,op:=d.i.op,bY:=i })=0:=by rw[dz];exact if_neg ha.1
   rw[e];omega
  ·rw[if_neg e,if_neg (fun h=>e h.2)]
   exact h1
 ·have h1:=h.rc
  rw[hn,List.append_nil] at h1
  have e2:bT {t with cZ:=a,op:=d.i.op,bY:=i }=1:=kr ha.1 ha.2
  have h0:opn d.s.aC t.handle=none:=by rw[h1.op d.n t ht,oK hw];rfl
  have h2:=h1.yn (t':={t with cZ:=a,op:=d.i.op,bY:=i }) h.ok ht (r:=⟨t.handle,d.i.op,x,y,0,false⟩) rfl rfl (fun op e=>by rw[h0] at e;cases e) (by rw[e2];rfl)
  show dX ((d.tell x y 0 false).s.aZ d.n {t with cZ:=a,op:=d.i.op,bY:=i }) ((d.s.aC++[⟨d.t.handle,d.i.op,x,y,0,false⟩])++d.ends)
  rw[hn,List.append_nil,dq ht]
  exact h2.of rfl rfl
theorem pT{u:bI}{y:Int}:(u.fJ y).aA=u.aA:=by show(if u.bY = -1 then u else u.put u.bY y).aA=_;split <;> rfl
theorem Ok.dL{s:Spc}(h:Ok k s p q){w0:Int}{u:bI}(hu:s.at w0=some u)(hu0:u.cZ≠0)(hu9:u.cZ≠9){y:Int}(hy:fj y):Ok k (s.dL w0.toNat y) p (w0::q):=by
 obtain⟨h0,hat⟩:=iI hu
 have ho:=h.th _ u hat
 have hc:((w0.toNat:Nat):Int)=w0:=by omega
 unfold Spc.dL
 rw[dO hat]
 refine h.aZ hat ⟨?_,ho.R.fJ hy,?_,?_,?_⟩ (fun w=>?_)
 ·rw[← ho.h];show(if u.bY = -1 then u else u.put u.bY y).handle=_;split <;> rfl
 ·show 0≤(if u.bY = -1 then u else u.put u.bY y).pc∧(if u.bY = -1 then u else u.put u.bY y).pc≤257;split <;> exact ho.pc
 ·intro e
  rw[pT];refine ho.d ?_
  rw[← e];show _=(if u.bY = -1 then u else u.put u.bY y).bJ;split <;> rfl
 ·intro e;exact absurd (show(0:Int)=9 from e) (by decide)
 ·have e1:bT u=1:=kr hu0 hu9
  have e2:bT (u.fJ y)=0:=oK rfl
  have e3:jn w (some (u.fJ y))=jn w (some u):=by rw[gQ,gQ,pT]
  rw[e1,e2,e3,List.count_cons,hc]
  simp only[beq_iff_eq]
  by_cases e:w=w0
  ·rw[if_pos e,if_pos e,if_pos e.symm];omega
  ·rw[if_neg e,if_neg e,if_neg (fun h=>e h.symm)];omega
theorem pU{s:Spc}{w0:Int}{u:bI}(hu:s.at w0=some u){y:Int}(w:Int):cS (s.dL w0.toNat y) w=if w=w0 then 1 else cS s w:=by
 obtain⟨h0,hat⟩:=iI hu
 unfold Spc.dL
 rw[dO hat,mV hat,show((w0.toNat:Nat):Int)=w0 from by omega]
 rfl
theorem dH.MN(h:dH k s0 d p q){w0:Int}{u:bI}(hu:d.s.at w0=some u)(hu0:u.cZ≠0)(hu9:u.cZ≠9){y:Int}(hy:fj y)(hne:w0=(d.n:Int)→d.out.aR=false∧d.out.ended=false):dH k s0 (d.cj w0.toNat y) p (w0::q):=by
 have h0:=(iI hu).1
 have hr:cS d.s w0=0:=by unfold cS;rw[hu,dz];exact if_neg hu0
 refine⟨h.ok.dL hu hu0 hu9 hy,fun w=>?_,fun w hw=>?_,?_,h.px⟩
 ·have h1:=h.rd w
  show cS (d.s.dL w0.toNat y) w+(if (d.out.aR=true∨d.out.ended=true)∧w=(d.n:Int) then 1 else 0)=cS s0 w+(d.out.av++[((w0.toNat:Nat):Int)]).count w
  rw[pU hu,List.count_append,List.count_singleton,show((w0.toNat:Nat):Int)=w0 from by omega]
  simp only[beq_iff_eq]
  generalize (if (d.out.aR=true∨d.out.ended=true)∧w=(d.n:Int) then 1 else 0)=B at h1 ⊢
  by_cases e:w=w0
  ·rw[if_pos e,if_pos e.symm]
   rw[e] at h1 ⊢
   omega
  ·rw[if_neg e,if_neg (fun h=>e h.symm)];omega
 ·have hw:w∈d.out.av++[((w0.toNat:Nat):Int)]:=hw
  rcases List.mem_append.1 hw with hw | hw
  ·exact h.wk w hw
  ·rw[List.mem_singleton,show((w0.toNat:Nat):Int)=w0 from by omega] at hw
   subst hw
   have h1:=h.rd w
   by_cases e:w=(d.n:Int)
   ·obtain⟨e1,e2⟩:=hne e
    rw[if_neg (by rw[e1,e2];simp)] at h1;omega
   ·rw[if_neg (fun h=>e h.2)] at h1;omega
 ·have h2:=h.rc.dL h.ok hu hu0 hu9 (y:=y)
  show dX (d.s.dL w0.toNat y) (d.s.aC++(d.ends++[(d.s.t w0.toNat).ko y]))
  rw[← List.append_assoc,dO (iI hu).2]
  exact h2
theorem dH.cj(h:dH k s0 d p q){w0:Int}(hpq:q.count w0<p.count w0){y:Int}(hy:fj y)(hne:w0=(d.n:Int)→d.out.aR=false∧d.out.ended=false):dH k s0 (d.cj w0.toNat y) p (w0::q):=by
 have hb:=h.ok.sq w0
 obtain⟨u,hu,hu0,hu9⟩:=j9 (show 0<dQ d.s w0 by omega)
 exact h.MN hu hu0 hu9 hy hne
theorem dH.bH(h:dH k s0 d p q){g:Gates}(hg:sH d.s.fa g){p' q':List Int}(e:∀ w,cG g w+p'.count w+q.count w=cG d.s.al w+p.count w+q'.count w):dH k s0 (d.bH g) p' q':=⟨h.ok.al hg e,h.rd,h.wk,h.rc.of rfl rfl,h.px⟩
theorem dH.eQ(h:dH k s0 d p q){i:Nat}{u v:Tub}(hi:d.s.cb[i]?=some u)(hv:KG v){p' q':List Int}(e:∀ w,cU w v+p'.count w+q.count w=cU w u+p.count w+q'.count w):dH k s0 (d.eQ i v) p' q':=by
 refine⟨h.ok.cb (by rw[List.length_set]) (fun x hx=>?_) (fun w=>?_),h.rd,h.wk,h.rc.of rfl rfl,h.px⟩
 ·rcases List.mem_or_eq_of_mem_set hx with hx | rfl
  ·exact h.ok.tb.2 x hx
  ·exact hv
 ·have h1:cT (d.s.cb.set i v) w+cU w u=cT d.s.cb w+cU w v:=gp (f:=cU w) v hi
  have:=e w;omega
theorem dH.di(h:dH k s0 d p q){u:lg}(hu:BQ u){p' q':List Int}(e:∀ w,cD u w+p'.count w+q.count w=cD d.s.bZ w+p.count w+q'.count w):dH k s0 (d.di u) p' q':=⟨h.ok.bZ hu e,h.rd,h.wk,h.rc.of rfl rfl,h.px⟩
theorem dH.vV(h:dH k s0 d p q){u:mm}(hu:0≤u.now∧u.now≤1099511627776){p' q':List Int}(e:∀ w,cL u w+p'.count w+q.count w=cL d.s.aT w+p.count w+q'.count w):dH k s0 (d.vV u) p' q':=⟨h.ok.aT hu e,h.rd,h.wk,h.rc.of rfl rfl,h.px⟩
theorem tV(h:Ok k d.s p q){n:Nat}(ht:d.s.aF[n]?=some (some t))(w:Int):cS (d.s.free n) w=if w=(n:Int) then 0 else cS d.s w:=by
 rw[h.Hc ht]
 unfold cS
 rw[show({d.s with table:=d.s.table.set n (false,(d.s.table.getD n (false,0)).2),aF:=d.s.aF.set n none }:Spc).at w=({d.s with aF:=d.s.aF.set n none }:Spc).at w from rfl,oJ (List.getElem?_eq_some_iff.1 ht).1 w]
 split <;> rfl
theorem dH.free(h:dH k s0 d p q){m:Nat}(ht:d.s.aF[m]?=some (some t))(h9:t.cZ=9):dH k s0 (d.free m) p q:=by
 have ho:=h.ok.th m t ht
 refine⟨h.ok.free ht (fun w=>?_),fun w=>?_,h.wk,h.rc.free h.ok ht,h.px⟩
 ·have e1:bT t=0:=by unfold bT;rw[if_pos (.inr h9)]
  have e2:jn w (some t)=0:=by rw[gQ,ho.f h9];exact if_neg (by rintro⟨a,b⟩;exact b a.symm)
  rw[e1,e2];split <;> omega
 ·have h1:=h.rd w
  show cS (d.s.free m) w+_=_
  rw[tV h.ok ht]
  by_cases e:w=(m:Int)
  ·have h2:cS d.s w=0:=by rw[e,oL ht,dz];exact if_neg (by omega)
   rw[if_pos e];rw[h2] at h1;exact h1
  ·rw[if_neg e];exact h1
theorem dH.fin(h:dH k s0 d [] [])(ht:d.s.aF[d.n]?=some (some t))(hw:t.cZ=0)(hs:d.out.aR=false)(hd:d.out.ended=false){v:Int}(hv:fj v):dH k s0 (d.fin v) [] []:=by
 have ho:=h.ok.th d.n t ht
 have hr0:rO (some t)=1:=by rw[dz];exact if_pos hw
 have hbt:bT t=0:=oK hw
 have h1:=h.rd
 have hend:∀ w,(if (d.ended.out.aR=true∨d.ended.out.ended=true)∧w=(d.ended.n:Int) then 1 else 0)=if w=(d.n:Int) then 1 else 0:=fun w=>by
  by_cases e:w=(d.n:Int)
  ·rw[if_pos (show(d.ended.out.aR=true∨d.ended.out.ended=true)∧w=(d.ended.n:Int) from⟨.inr rfl,e⟩),if_pos e]
  ·rw[if_neg (show ¬((d.ended.out.aR=true∨d.ended.out.ended=true)∧w=(d.ended.n:Int)) from fun h=>e h.2),if_neg e]
 have hrd:∀ w,cS d.s w=cS s0 w+d.out.av.count w:=fun w=>by
  have:=h1 w;rw[if_neg (by rw[hs,hd];simp)] at this;exact this
 cases hdt:t.bJ with
 | true =>
  rw[Da ht hdt]
  refine⟨h.ok.free ht (fun w=>?_),fun w=>?_,h.wk,h.rc.free h.ok ht,h.px⟩
  ·have e2:jn w (some t)=0:=by rw[gQ,ho.d hdt];exact if_neg (by rintro⟨a,b⟩;exact b a.symm)
   rw[hbt,e2];split <;> omega
  ·show cS (d.s.free d.n) w+(if (d.ended.out.aR=true∨d.ended.out.ended=true)∧w=(d.ended.n:Int) then 1 else 0)=cS s0 w+d.out.av.count w
   rw[hend,tV h.ok ht, ← hrd]
   by_cases e:w=(d.n:Int)
   ·rw[if_pos e,if_pos e,e,oL ht,hr0]
   ·rw[if_neg e,if_neg e];rfl
 | false =>
  by_cases hj:t.aA = -1
  ·rw[zQ ht hdt hj]
   refine⟨h.ok.aZ (s:=d.s) (t':={t with cZ:=9,value:=v }) ht ⟨ho.h,⟨ho.R.l,ho.R.r,ho.R.i,hv,ho.R.h⟩,ho.pc,ho.d,fun _=>hj⟩ (fun w=>?_),fun w=>?_,h.wk,h.rc.aZ (s:=d.s) (t':={t with cZ:=9,value:=v }) ht rfl (by rw[hbt];try rfl) (fun e=>absurd e (by rw[hbt];decide)),h.px⟩
   ·have e1:bT {t with cZ:=9,value:=v }=0:=by unfold bT;exact if_pos (.inr rfl)
    have e3:jn w (some {t with cZ:=9,value:=v })=jn w (some t):=rfl
    rw[hbt,e1,e3]
   ·show cS (d.s.aZ d.n {t with cZ:=9,value:=v }) w+(if (d.ended.out.aR=true∨d.ended.out.ended=true)∧w=(d.ended.n:Int) then 1 else 0)=cS s0 w+d.out.av.count w
    rw[hend,mV ht, ← hrd]
    by_cases e:w=(d.n:Int)
    ·rw[if_pos e,if_pos e,e,oL ht,hr0,dz,if_neg (by show(9:Int)≠0;decide)]
    ·rw[if_neg e,if_neg e];rfl
  ·rw[zR ht hdt hj]
   -- who joined cj on: it is counted by this thread's own word
   have hcj:1≤n9 d.s t.aA:=by
    have:jn t.aA (some t)=1:=by rw[gQ];exact if_pos ⟨rfl,hj⟩
    have h2:jn t.aA (some t)≤cJ d.s.aF t.aA:=eJ (f:=jn t.aA) (List.mem_of_getElem? ht)
    unfold n9;omega
   have hb:=h.ok.sq t.aA
   obtain⟨u,hu,hu0,hu9⟩:=j9 (s:=d.s) (w:=t.aA) (by simp at hb;omega)
   obtain⟨h0,hat⟩:=iI hu
   have hne:t.aA.toNat≠d.n:=fun e=>by rw[e,ht] at hat;cases hat;exact hu0 hw
   have hc:((t.aA.toNat:Nat):Int)=t.aA:=by omega
   have hk:=h.ok.dL hu hu0 hu9 hv
   have ht2:(d.s.dL t.aA.toNat v).aF[d.n]?=some (some t):=by
    unfold Spc.dL;exact fM ht hne
   refine⟨hk.free (n:=d.n) ht2 (fun w=>?_),fun w=>?_,fun w hw=>?_,?_,h.px⟩
   ·rw[hbt,gQ,List.count_cons]
    simp only[beq_iff_eq,List.count_nil]
    by_cases e:t.aA=w
    ·rw[if_pos (show t.aA=w∧¬w = -1 from⟨e,by rw[← e];exact hj⟩),if_pos e];split <;> omega
    ·rw[if_neg (show ¬(t.aA=w∧¬w = -1) from fun h=>e h.1),if_neg e];split <;> omega
   ·show cS ((d.s.dL t.aA.toNat v).free d.n) w+(if (d.ended.out.aR=true∨d.ended.out.ended=true)∧w=(d.ended.n:Int) then 1 else 0)=cS s0 w+(d.out.av++[((t.aA.toNat:Nat):Int)]).count w
    rw[hend,tV (d:={d with s:=d.s.dL t.aA.toNat v }) hk ht2,hc,List.count_append,List.count_singleton]
    simp only[beq_iff_eq]
    rw[pU hu]
    have h2:=hrd w
    by_cases e:w=(d.n:Int)
    ·rw[if_pos e,if_pos e,if_neg (show ¬t.aA=w by rw[e];omega)]
     rw[e,oL ht,hr0] at h2
     rw[e];omega
    ·rw[if_neg e,if_neg e]
     by_cases e2:w=t.aA
     ·rw[if_pos e2,if_pos e2.symm]
      have:cS d.s w=0:=by rw[e2];unfold cS;rw[hu,dz];exact if_neg hu0
      omega
     ·rw[if_neg e2,if_neg (fun h=>e2 h.symm)];omega
   ·have hw:w∈d.out.av++[((t.aA.toNat:Nat):Int)]:=hw
    rcases List.mem_append.1 hw with hw | hw
    ·exact h.wk w hw
    ·rw[List.mem_singleton,hc] at hw
     have h2:=hrd w
     have:cS d.s w=0:=by rw[hw];unfold cS;rw[hu,dz];exact if_neg hu0
     omega
   ·have h2:=h.rc.dL h.ok hu hu0 hu9 (y:=v)
    have h3:=h2.free hk (n:=d.n) ht2
    show dX ((d.s.dL t.aA.toNat v).free d.n) (d.s.aC++(d.ends++[(d.s.t t.aA.toNat).ko v]))
    rw[← List.append_assoc,dO hat]
    exact h3
end
end Go.SLYthlllpngkljgfaaGreat
namespace Go.SLYthlllpngkljgfaaGreat
open Go Go.RowKit
theorem Dk{n:Int}:fj (Bm n):=by unfold Bm fj;omega
theorem yo:fj nY:=by unfold nY fj;decide
theorem sI{n:Int}(h:fj n):fj (jG n):=by unfold jG;split;exact yo;exact h
theorem Dl{o:Option Nat}(h:∀ r,o=some r→r<18446744073709551616):fj (Ef o):=by
 cases o with
 | none=>exact yo
 | some r=>have:=h r rfl;exact sI ⟨by omega,by omega⟩
theorem gH{c:Prop}[Decidable c]{a b:Int}(h1:fj a)(h2:fj b):fj (if c then a else b):=by split;exact h1;exact h2
theorem KH{b:Bool}:fj (BA b):=by unfold BA;exact gH ⟨by decide,by decide⟩ ⟨by decide,by decide⟩
theorem Hf{neg:Bool}{win:Ordering}{x y:Nat}(hx:x<18446744073709551616)(hy:y<18446744073709551616):fj ((kH neg win x y:Nat):Int):=by
 have h1:Go.FloatKind.f64.encode (.infinity neg)<18446744073709551616:=by cases neg <;> decide +kernel
 unfold kH
 simp only
 unfold fj
 repeat' split
 all_goals omega
theorem Jv{op a b:Int}(ha:fj a)(hb:fj b):fj (cq op a b):=by
 have hx:a.toNat<18446744073709551616:=by have:=ha.1;have:=ha.2;omega
 have hy:b.toNat<18446744073709551616:=by have:=hb.1;have:=hb.2;omega
 have h0:fj 0:=⟨by decide,by decide⟩
 have hmin:fj (zG a b):=by unfold zG;exact gH yo (sI (Hf hx hy))
 have hmax:fj (zH a b):=by unfold zH;exact gH yo (sI (Hf hx hy))
 have hti:fj (lC a):=by unfold lC;exact gH h0 (gH ⟨by decide,by decide⟩ (gH ⟨by decide,by decide⟩ Dk))
 have htf:fj (mN a):=by
  unfold mN
  refine sI ⟨by omega,?_⟩
  have:Go.FloatKind.f64.nearest (Go.IntKind.i64.wrap a)<18446744073709551616:=(Ieee.Format.write_lt Ieee.double (.number (decide (Go.IntKind.i64.wrap a<0)) (Go.IntKind.i64.wrap a).natAbs 0):_)
  omega
 unfold cq
 refine gH ha (gH Dk (gH Dk (gH Dk (gH KH (gH (Dl fun r h=>Ieee.Format.add_lt _ h) (gH (Dl fun r h=>Ieee.Format.sub_lt _ h) (gH (Dl fun r h=>Ieee.Format.mul_lt _ h) (gH (Dl fun r h=>Ieee.Format.div_lt _ h) (gH hmin (gH hmax (gH KH (gH hti (gH htf h0)))))))))))))
end Go.SLYthlllpngkljgfaaGreat
namespace Go.SLYthlllpngkljgfaaGreat
open Go Go.RowKit
def b2(p:Prop)[Decidable p]:Nat:=if p then 1 else 0
theorem mW{w:Int}{l:List eZ}{a b:Int}:dM w (l++[⟨a,b⟩])=dM w l+b2 (a=w):=by
 unfold dM b2 KF;rw[List.countP_append];simp[List.countP_cons]
theorem q3{w:Int}{l:List eZ}{c:Int}:dM w (aP l c).2.2+b2 ((aP l c).2.1=true∧(aP l c).1.who=w)=dM w l:=by
 by_cases h0:l.length=0
 ·rw[xU h0];unfold b2;rw[if_neg (by rintro⟨a,b⟩;cases a)];rfl
 ·rw[sC h0]
  have hp:=ly (t:=c) (n:=l.length) (by omega)
  have hx:l[pick c l.length]?=some (l.getD (pick c l.length) ⟨0,0⟩):=getD_some hp
  have:=lI (P:=KF w) hx
  unfold dM b2
  rw[← this]
  simp only[true_and,KF,decide_eq_true_eq]
theorem q4{w:Int}{l:List eZ}(h:dM w l=0):mj l w=false:=by
 unfold mj
 rw[List.any_eq_false]
 intro x hx e
 have:0<dM w l:=List.countP_pos_iff.2 ⟨x,hx,e⟩
 omega
theorem BR{g:Gates}{w:Int}(h:cG g w=0):g.waits w=false:=by
 unfold cG at h
 unfold Gates.waits
 rw[Bool.or_eq_false_iff,Bool.or_eq_false_iff,List.any_eq_false,List.any_eq_false,List.any_eq_false]
 refine⟨⟨fun x hx=>?_,fun x hx=>?_⟩,fun x hx=>?_⟩
 ·have:=eJ (f:=fun m:eN=>dM w m.wait) hx
  rw[q4 (by omega)];simp
 ·have:=eJ (f:=dM w) hx
  rw[q4 (by omega)];simp
 ·have:=eJ (f:=fun m:k5=>dM w m.wait) hx
  rw[q4 (by omega)];simp
theorem d1:(1:Int)≠0:=by decide
theorem d4:(4:Int)≠0:=by decide
theorem d5:(5:Int)≠0:=by decide
section
variable{g:Gates}{p:gY}
theorem yp{i:Nat}{x y:eN}(h:g.du[i]?=some x)(w:Int):cG {g with du:=g.du.set i y } w+dM w x.wait=cG g w+dM w y.wait:=by
 have:=gp (f:=fun m:eN=>dM w m.wait) y h
 unfold cG;simp only at this ⊢;omega
theorem Hg{i:Nat}{x y:List eZ}(h:g.hU[i]?=some x)(w:Int):cG {g with hU:=g.hU.set i y } w+dM w x=cG g w+dM w y:=by
 have:=gp (f:=dM w) y h
 unfold cG;simp only at this ⊢;omega
theorem yq{i:Nat}{x y:k5}(h:g.ew[i]?=some x)(w:Int):cG {g with ew:=g.ew.set i y } w+dM w x.wait=cG g w+dM w y.wait:=by
 have:=gp (f:=fun m:k5=>dM w m.wait) y h
 unfold cG;simp only at this ⊢;omega
theorem sH.du(h:sH p g){i:Nat}{y:eN}:sH p {g with du:=g.du.set i y }:=⟨by simp only[List.length_set];exact h.m,h.c,h.s,h.sc,fun r hr w hw=>by simp only[List.length_set];exact h.cm r hr w hw⟩
theorem sH.hU(h:sH p g){i:Nat}{y:List eZ}(hy:∀ w∈y,0≤w.mutex∧w.mutex<(g.du.length:Int)):sH p {g with hU:=g.hU.set i y }:=⟨h.m,by simp only[List.length_set];exact h.c,h.s,h.sc,fun r hr w hw=>by
 rcases List.mem_or_eq_of_mem_set hr with hr | rfl
 ·exact h.cm r hr w hw
 ·exact hy w hw⟩
theorem sH.ew(h:sH p g){i:Nat}{y:k5}(hy:0≤y.count∧y.count≤1048576):sH p {g with ew:=g.ew.set i y }:=⟨h.m,h.c,by simp only[List.length_set];exact h.s,fun x hx=>by
 rcases List.mem_or_eq_of_mem_set hx with hx | rfl
 ·exact h.sc x hx
 ·exact hy,h.cm⟩
theorem et{q:Prop}[Decidable q](h:¬q):b2 q=0:=if_neg h
theorem lJ{q:Prop}[Decidable q](h:q):b2 q=1:=if_pos h
theorem Lw(h:sH p g){n m:Int}:sH p (g.lock n m).2.2∧ ∀ w,cG (g.lock n m).2.2 w=cG g w+b2 (((g.lock n m).2.1=0∧(g.lock n m).1=false)∧n=w):=by
 have nope:∀ (b:Bool) (e:Int),(e≠0∨b=true)→ ∀ w,cG g w=cG g w+b2 ((e=0∧b=false)∧n=w):=fun b e he w=>by
  rw[et (by rintro⟨⟨a,c⟩, -⟩;rcases he with he | he;exact he a;rw[he] at c;cases c)];rfl
 by_cases hm:0≤m∧m<(g.du.length:Int)
 ·obtain⟨x,hx,hgx⟩:=cR hm
  cases hb:(g.waits n || x.is n) with
  | true=>rw[rF hgx hb];exact⟨h,nope _ _ (.inl d4)⟩
  | false =>
   rw[wb hgx hb]
   cases hh:x.held with
   | true =>
    rw[xV hh]
    refine⟨h.du,fun w=>?_⟩
    have:=yp (y:={x with wait:=x.wait++[⟨n,0⟩] }) hx w
    rw[mW] at this
    have e:b2 (((0:Int)=0∧false=false)∧n=w)=b2 (n=w):=by unfold b2;simp
    rw[e];simp only at this ⊢;omega
   | false =>
    rw[xW hh]
    refine⟨h.du,fun w=>?_⟩
    have:=yp (y:={x with held:=true,owner:=n }) hx w
    rw[et (by rintro⟨⟨a,c⟩, -⟩;cases c)]
    simp only at this ⊢;omega
 ·rw[wa hm];exact⟨h,nope _ _ (.inl d1)⟩
theorem rP{x:eN}{c w:Int}:dM w (x.unlock c).2.2.wait+b2 ((x.unlock c).2.1=true∧(x.unlock c).1=w)=dM w x.wait:=q3
theorem Hh(h:sH p g){n m c:Int}:sH p (g.unlock n m c).2.2.2∧ ∀ w,cG (g.unlock n m c).2.2.2 w+b2 ((g.unlock n m c).2.1=true∧(g.unlock n m c).1=w)=cG g w:=by
 have nope:∀ w,cG g w+b2 (false=true∧(0:Int)=w)=cG g w:=fun w=>by rw[et (by rintro⟨a, -⟩;cases a)];rfl
 by_cases hm:0≤m∧m<(g.du.length:Int)
 ·obtain⟨x,hx,hgx⟩:=cR hm
  cases hb:x.is n with
  | false=>rw[pG hgx hb];exact⟨h,nope⟩
  | true =>
   rw[rH hgx hb]
   refine⟨h.du,fun w=>?_⟩
   have:=yp (y:=(x.unlock c).2.2) hx w
   have:=rP (x:=x) (c:=c) (w:=w)
   simp only at *;omega
 ·rw[rG hm];exact⟨h,nope⟩
theorem Ly(h:sH p g){n c m ch:Int}(hw0:g.waits n=false):sH p (g.wait n c m ch).2.2.2∧ ∀ w,cG (g.wait n c m ch).2.2.2 w+b2 ((g.wait n c m ch).2.1=true∧(g.wait n c m ch).1=w)=cG g w+b2 ((g.wait n c m ch).2.2.1=0∧n=w):=by
 have nope:∀ e:Int,e≠0→ ∀ w,cG g w+b2 (false=true∧(0:Int)=w)=cG g w+b2 (e=0∧n=w):=fun e he w=>by rw[et (by rintro⟨a, -⟩;cases a),et (fun h=>he h.1)]
 by_cases hm:0≤m∧m<(g.du.length:Int)
 ·by_cases hc:0≤c∧c<(g.hU.length:Int)
  ·obtain⟨x,hx,hgx⟩:=cR hm
   obtain⟨r,hr,hgr⟩:=cR hc
   cases hb:x.is n with
   | false=>rw[oB hgx hgr hw0 hb];exact⟨h,nope _ d5⟩
   | true =>
    rw[qR hgx hgr hw0 hb]
    have h1:=h.du (i:=m.toNat) (y:=(x.unlock ch).2.2)
    refine⟨h1.hU (i:=c.toNat) (y:=r++[⟨n,m⟩]) (fun w hw=>?_),fun w=>?_⟩
    ·simp only[List.length_set]
     rcases List.mem_append.1 hw with hw | hw
     ·exact h.cm r (List.mem_of_getElem? hr) w hw
     ·rw[List.mem_singleton] at hw;rw[hw];exact hm
    ·have a1:=yp (y:=(x.unlock ch).2.2) hx w
     have a2:=rP (x:=x) (c:=ch) (w:=w)
     have a3:=Hg (g:={g with du:=g.du.set m.toNat (x.unlock ch).2.2 }) (y:=r++[⟨n,m⟩]) hr w
     rw[mW] at a3
     have e:b2 ((0:Int)=0∧n=w)=b2 (n=w):=by unfold b2;simp
     simp only[] at *
     omega
  ·rw[oA hc];exact⟨h,nope _ d1⟩
 ·rw[oz hm];exact⟨h,nope _ d1⟩
theorem Lz(h:sH p g){n s:Int}(hw0:g.waits n=false):sH p (g.down n s).2.2∧ ∀ w,cG (g.down n s).2.2 w=cG g w+b2 (((g.down n s).2.1=0∧(g.down n s).1=false)∧n=w):=by
 by_cases hs:0≤s∧s<(g.ew.length:Int)
 ·obtain⟨x,hx,hgx⟩:=cR hs
  have hxc:=h.sc x (List.mem_of_getElem? hx)
  by_cases hc:0<x.count
  ·rw[we hgx hw0 hc]
   refine⟨h.ew (by simp only;omega),fun w=>?_⟩
   have:=yq (y:={x with count:=x.count-1 }) hx w
   rw[et (by rintro⟨⟨a,c⟩, -⟩;cases c)]
   simp only at this ⊢;omega
  ·rw[rK hgx hw0 hc]
   refine⟨h.ew hxc,fun w=>?_⟩
   have:=yq (y:={x with wait:=x.wait++[⟨n,0⟩] }) hx w
   rw[mW] at this
   have e:b2 (((0:Int)=0∧false=false)∧n=w)=b2 (n=w):=by unfold b2;simp
   rw[e];simp only at this ⊢;omega
 ·rw[wc hs]
  exact⟨h,fun w=>by rw[et (by rintro⟨⟨a,c⟩, -⟩;exact d1 a)];rfl⟩
theorem ND(h:sH p g){s c:Int}:sH p (g.up s c).2.2.2∧ ∀ w,cG (g.up s c).2.2.2 w+b2 ((g.up s c).2.1=true∧(g.up s c).1=w)=cG g w:=by
 have no:∀ w,b2 (false=true∧(0:Int)=w)=0:=fun w=>et (by rintro⟨a, -⟩;cases a)
 by_cases hs:0≤s∧s<(g.ew.length:Int)
 ·obtain⟨x,hx,hgx⟩:=cR hs
  have hxc:=h.sc x (List.mem_of_getElem? hx)
  cases ht:(aP x.wait c).2.1 with
  | true =>
   rw[wg hgx ht]
   refine⟨h.ew hxc,fun w=>?_⟩
   have a1:=yq (y:={x with wait:=(aP x.wait c).2.2 }) hx w
   have a2:=q3 (w:=w) (l:=x.wait) (c:=c)
   rw[ht] at a2
   simp only at *;omega
  | false =>
   by_cases hc:1048576≤x.count
   ·rw[wh hgx ht hc];exact⟨h,fun w=>by rw[no];rfl⟩
   ·rw[C7 hgx ht hc]
    refine⟨h.ew (by simp only;omega),fun w=>?_⟩
    have:=yq (y:={x with count:=x.count+1 }) hx w
    rw[no];simp only at this ⊢;omega
 ·rw[C6 hs];exact⟨h,fun w=>by rw[no];rfl⟩
theorem KI:∀ (n:Nat) (c:Int) (r:List eZ) (ms:List eN) (out:List Int) (w:Int),n≤r.length→(∀ y∈r,0≤y.mutex∧y.mutex<(ms.length:Int))→
  dM w (sigLoop n c r ms out).1+mU (fun m:eN=>dM w m.wait) (sigLoop n c r ms out).2.1+(sigLoop n c r ms out).2.2.count w=dM w r+mU (fun m:eN=>dM w m.wait) ms+out.count w∧ ∀ y∈(sigLoop n c r ms out).1,y∈r
 | 0,_,_,_,_,_,_,_=>⟨rfl,fun _ h=>h⟩
 | n+1,c,r,ms,out,w,hn,hr=>by
  obtain⟨h1,h2,h3⟩:=kJ (l:=r) (c:=c) (by omega)
  have hm:=hr _ h1
  obtain⟨x,hx⟩:=ak (show(aP r c).1.mutex.toNat<ms.length by omega)
  have ht:(aP r c).2.1=true:=by rw[sC (by omega)]
  have hgx:ms.getD (aP r c).1.mutex.toNat ⟨[],false,0⟩=x:=by rw[List.getD_eq_getElem?_getD,hx];rfl
  unfold sigLoop
  simp only
  rw[hgx]
  obtain⟨a1,a2⟩:=KI n c (aP r c).2.2 (ms.set (aP r c).1.mutex.toNat (x.lock (aP r c).1.who).2) (if (x.lock (aP r c).1.who).1=true then out++[(aP r c).1.who] else out) w (by omega) (fun y hy=>by rw[List.length_set];exact hr y (h3 y hy))
  refine⟨a1.trans ?_,fun y hy=>h3 y (a2 y hy)⟩
  have b1:=q3 (w:=w) (l:=r) (c:=c)
  have b3:=gp (f:=fun m:eN=>dM w m.wait) (x.lock (aP r c).1.who).2 hx
  have e:b2 ((aP r c).2.1=true∧(aP r c).1.who=w)=b2 ((aP r c).1.who=w):=by unfold b2;simp[ht]
  rw[e] at b1
  cases hh:x.held with
  | true =>
   rw[xV hh] at b3 ⊢
   simp only[Bool.false_eq_true,if_false] at b3 ⊢
   rw[mW] at b3
   omega
  | false =>
   rw[xW hh] at b3 ⊢
   simp only[if_true] at b3 ⊢
   rw[List.count_append,List.count_singleton]
   have e2:(if ((aP r c).1.who == w)=true then 1 else 0)=b2 ((aP r c).1.who=w):=by unfold b2;simp
   rw[e2];omega
theorem Hi(h:sH p g){c ch:Int}{all:Bool}:sH p (g.signal c ch all).2.2∧ ∀ w,cG (g.signal c ch all).2.2 w+(g.signal c ch all).1.count w=cG g w:=by
 by_cases hc:0≤c∧c<(g.hU.length:Int)
 ·obtain⟨r,hr,hgr⟩:=cR hc
  have hrm:=h.cm r (List.mem_of_getElem? hr)
  rw[rJ hgr rfl]
  have hs:=fun w=>KI (if all=true then r.length else min r.length 1) (if all=true then 0 else ch) r g.du [] w (by split <;> omega) hrm
  refine⟨⟨?_,?_,h.s,h.sc,fun y hy w hw=>?_⟩,fun w=>?_⟩
  ·rw[pQ];exact h.m
  ·simp only[List.length_set];exact h.c
  ·rw[pQ]
   rcases List.mem_or_eq_of_mem_set hy with hy | rfl
   ·exact h.cm y hy w hw
   ·exact hrm w ((hs 0).2 w hw)
  ·have a1:=(hs w).1
   have a2:=gp (f:=dM w) (sigLoop (if all=true then r.length else min r.length 1) (if all=true then 0 else ch) r g.du []).1 hr
   unfold cG
   simp only[List.count_nil] at *
   omega
 ·rw[rI hc];exact⟨h,fun w=>rfl⟩
end
end Go.SLYthlllpngkljgfaaGreat
namespace Go.SLYthlllpngkljgfaaGreat
open Go Go.RowKit
theorem oM{n w:Int}:[n].count w=b2 (n=w):=by rw[List.count_singleton];unfold b2;simp
theorem Aa{ok:Bool}{n w:Int}:(if ok=true then [n] else []).count w=b2 (ok=true∧n=w):=by
 cases ok
 ·simp[b2]
 ·simp only[if_true,oM,true_and]
structure St(k:Nat)(s0:Spc)(d:Dng)(t:bI):Prop where
 h:dH k s0 d [] []
 ht:d.s.aF[d.n]?=some (some t)
 hw:t.cZ=0
 hs:d.out.aR=false
 he:d.out.ended=false
 I:n8 d.i
 hn:d.ends=[]
section
variable{k:Nat}{s0:Spc}{d:Dng}{p q:List Int}{t:bI}
theorem St.o(S:St k s0 d t):Lu (d.s.table.getD d.n (false,0)) d.n t:=S.h.ok.th d.n t S.ht
theorem St.zero(S:St k s0 d t):n9 d.s d.n=0:=by
 have:=S.h.ok.sq d.n
 have e:dQ d.s d.n=0:=by unfold dQ;rw[Dj S.ht];exact oK S.hw
 simp at this;omega
theorem St.a(S:St k s0 d t):fj d.a:=by unfold Dng.a;rw[dq S.ht];exact S.o.R.r _
theorem St.b(S:St k s0 d t):fj d.b:=by unfold Dng.b;rw[dq S.ht];exact S.o.R.r _
theorem St.pass(S:St k s0 d t){x y e:Int}(he:0≤e∧e≤11):dH k s0 (d.pass x y e) [] []:=S.h.pass S.ht S.hw S.hn he
theorem dH.given{ok:Bool}{n:Int}(h:dH k s0 d (if ok=true then [n] else []) [])(hne:ok=true→n=(d.n:Int)→d.out.aR=false∧d.out.ended=false):dH k s0 (d.given n ok) [] []:=by
 unfold Dng.given
 cases ok with
 | false=>exact h
 | true =>
  have:=dH.cj (y:=0) h (w0:=n) (by simp) ⟨by decide,by decide⟩ (hne rfl)
  exact this.sq (fun w=>by simp)
theorem Hj{g:Gates}{n c m ch:Int}(h:(g.wait n c m ch).2.2.1≠0):(g.wait n c m ch).2.1=false:=by
 unfold Gates.wait at h ⊢
 repeat' split
 all_goals first | rfl | skip
 rename_i h1 h2 h3 h4
 rw[h1,h2] at h
 simp only at h
 rw[if_neg h3,if_pos h4] at h
 exact absurd rfl h
theorem St.waits(S:St k s0 d t):d.s.al.waits d.n=false:=BR (by have:=S.zero;unfold n9 at this;omega)
theorem Hk{g:Gates}{n c m ch:Int}(hw0:g.waits n=false)(h:(g.wait n c m ch).2.2.1=0):1≤cG (g.wait n c m ch).2.2.2 n:=by
 by_cases hm:0≤m∧m<(g.du.length:Int)
 ·by_cases hc:0≤c∧c<(g.hU.length:Int)
  ·obtain⟨x,hx,hgx⟩:=cR hm
   obtain⟨r,hr,hgr⟩:=cR hc
   cases hb:x.is n with
   | false=>rw[oB hgx hgr hw0 hb] at h;exact absurd h d5
   | true =>
    rw[qR hgx hgr hw0 hb]
    have a3:=Hg (g:={g with du:=g.du.set m.toNat (x.unlock ch).2.2 }) (y:=r++[⟨n,m⟩]) hr n
    have a4:dM n r≤cG {g with du:=g.du.set m.toNat (x.unlock ch).2.2 } n:=by
     have:=eJ (f:=dM n) (List.mem_of_getElem? hr)
     unfold cG;simp only;omega
    rw[mW,lJ rfl] at a3
    simp only at a3 ⊢
    omega
  ·rw[oA hc] at h;exact absurd h d1
 ·rw[oz hm] at h;exact absurd h d1
theorem St.mutex(S:St k s0 d t):dH k s0 d.mutex [] []:=by
 unfold Dng.mutex
 simp only
 split
 ·obtain⟨hg,hc⟩:=Lw (n:=d.n) (m:=d.i.n) S.h.ok.gt
  split
  ·rename_i hb
   have h1:=S.h.bH hg (p':=[]) (q':=[(d.n:Int)]) (fun w=>by
    rw[hc w,oM]
    have:b2 (((d.s.al.lock d.n d.i.n).2.1=0∧(d.s.al.lock d.n d.i.n).1=false)∧(d.n:Int)=w)=b2 ((d.n:Int)=w):=by unfold b2;simp[hb]
    rw[this];simp)
   exact h1.block S.ht S.hw S.hn S.hs S.he ⟨by decide,by decide⟩ (by decide)
  ·rename_i hb
   have h1:=S.h.bH hg (p':=[]) (q':=[]) (fun w=>by rw[hc w,et (fun h=>hb h.1)];rfl)
   exact h1.pass S.ht S.hw S.hn Db
 ·split
  ·obtain⟨hg,hc⟩:=Hh (n:=d.n) (m:=d.i.n) (c:=d.choice) S.h.ok.gt
   have h1:=S.h.bH hg (p':=if (d.s.al.unlock d.n d.i.n d.choice).2.1=true then [(d.s.al.unlock d.n d.i.n d.choice).1] else []) (q':=[]) (fun w=>by rw[Aa];have:=hc w;simp;omega)
   exact(h1.pass S.ht S.hw S.hn qW).given (fun _ _=>⟨S.hs,S.he⟩)
  ·obtain⟨hg,hc⟩:=Ly (n:=d.n) (c:=d.i.n) (m:=d.i.c) (ch:=d.choice) S.h.ok.gt S.waits
   have hc2:=fun w=>hc w
   split
   ·rename_i he
    have h1:=S.h.bH hg (p':=[]) (q':=[]) (fun w=>by
     have:=hc w
     rw[et (fun h=>by rw[Hj he] at h;exact absurd h.1 (by simp)),et (fun h=>he h.1)] at this
     simp;omega)
    exact h1.pass S.ht S.hw S.hn Dc
   ·rename_i he
    have he:(d.s.al.wait d.n d.i.n d.i.c d.choice).2.2.1=0:=Decidable.not_not.mp he
    have hno:(d.s.al.wait d.n d.i.n d.i.c d.choice).2.1=true→¬(d.s.al.wait d.n d.i.n d.i.c d.choice).1=(d.n:Int):=fun ho hn=>by
     have h1:=hc d.n
     have h2:cG d.s.al d.n=0:=by have:=S.zero;unfold n9 at this;omega
     have h3:=Hk (g:=d.s.al) (n:=d.n) (c:=d.i.n) (m:=d.i.c) (ch:=d.choice) S.waits he
     rw[lJ ⟨ho,hn⟩,lJ ⟨he,rfl⟩] at h1
     omega
    have h1:=S.h.bH hg (p':=if (d.s.al.wait d.n d.i.n d.i.c d.choice).2.1=true then [(d.s.al.wait d.n d.i.n d.i.c d.choice).1] else []) (q':=[(d.n:Int)]) (fun w=>by
     rw[Aa,oM]
     have:=hc w
     have e:b2 ((d.s.al.wait d.n d.i.n d.i.c d.choice).2.2.1=0∧(d.n:Int)=w)=b2 ((d.n:Int)=w):=by unfold b2;simp[he]
     rw[e] at this
     simp;omega)
    exact(h1.block S.ht S.hw S.hn S.hs S.he ⟨by decide,by decide⟩ (by decide)).given (fun ho hn=>absurd hn (hno ho))
theorem St.ew(S:St k s0 d t):dH k s0 d.ew [] []:=by
 unfold Dng.ew
 simp only
 split
 ·obtain⟨hg,hc⟩:=ND (s:=d.i.n) (c:=d.choice) S.h.ok.gt
  have h1:=S.h.bH hg (p':=if (d.s.al.up d.i.n d.choice).2.1=true then [(d.s.al.up d.i.n d.choice).1] else []) (q':=[]) (fun w=>by rw[Aa];have:=hc w;simp;omega)
  exact(h1.pass S.ht S.hw S.hn GY).given (fun _ _=>⟨S.hs,S.he⟩)
 ·obtain⟨hg,hc⟩:=Lz (n:=d.n) (s:=d.i.n) S.h.ok.gt S.waits
  split
  ·rename_i hb
   have h1:=S.h.bH hg (p':=[]) (q':=[(d.n:Int)]) (fun w=>by
    rw[hc w,oM]
    have:b2 (((d.s.al.down d.n d.i.n).2.1=0∧(d.s.al.down d.n d.i.n).1=false)∧(d.n:Int)=w)=b2 ((d.n:Int)=w):=by unfold b2;simp[hb]
    rw[this];simp)
   exact h1.block S.ht S.hw S.hn S.hs S.he ⟨by decide,by decide⟩ (by decide)
  ·rename_i hb
   have h1:=S.h.bH hg (p':=[]) (q':=[]) (fun w=>by rw[hc w,et (fun h=>hb h.1)];rfl)
   exact h1.pass S.ht S.hw S.hn Dd
/-! those who go on by a signal -/
theorem Ok.NF{s:Spc}(h:Ok k s p q){w0:Int}{u:bI}(hu:s.at w0=some u)(hu0:u.cZ≠0)(hu9:u.cZ≠9):Ok k (s.aZ w0.toNat {u with cZ:=1 }) p q:=by
 obtain⟨h0,hat⟩:=iI hu
 have ho:=h.th _ u hat
 refine h.aZ (t':={u with cZ:=1 }) hat ⟨ho.h,⟨ho.R.l,ho.R.r,ho.R.i,ho.R.v,ho.R.h⟩,ho.pc,ho.d,fun e=>absurd (show(1:Int)=9 from e) (by decide)⟩ (fun w=>?_)
 have e1:bT u=1:=kr hu0 hu9
 have e2:bT {u with cZ:=1 }=1:=kr (t:={u with cZ:=1 }) (by show(1:Int)≠0;decide) (by show(1:Int)≠9;decide)
 have e3:jn w (some {u with cZ:=1 })=jn w (some u):=rfl
 rw[e1,e2,e3]
theorem Hl{s:Spc}{w0:Int}{u:bI}(hu:s.at w0=some u)(hu0:u.cZ≠0)(hu9:u.cZ≠9)(w:Int):dQ (s.aZ w0.toNat {u with cZ:=1 }) w=dQ s w∧cS (s.aZ w0.toNat {u with cZ:=1 }) w=cS s w:=by
 obtain⟨h0,hat⟩:=iI hu
 have hc:((w0.toNat:Nat):Int)=w0:=by omega
 have e:(s.aZ w0.toNat {u with cZ:=1 }).at w=if w=w0 then some {u with cZ:=1 } else s.at w:=by
  have:=oJ (s:=s) (n:=w0.toNat) (o:=some {u with cZ:=1 }) (List.getElem?_eq_some_iff.1 hat).1 w
  rw[hc] at this;exact this
 unfold dQ cS
 rw[e]
 by_cases hw:w=w0
 ·rw[if_pos hw,hw,hu]
  refine⟨?_,?_⟩
  ·show bT {u with cZ:=1 }=bT u
   exact(kr (t:={u with cZ:=1 }) (by show(1:Int)≠0;decide) (by show(1:Int)≠9;decide)).trans (kr hu0 hu9).symm
  ·rw[dz,dz,if_neg (by show ¬(1:Int)=0;decide),if_neg hu0]
 ·rw[if_neg hw];exact⟨rfl,rfl⟩
theorem dH.cO:∀ (l:List Int) (d:Dng),dH k s0 d p q→(∀ w∈l,0<dQ d.s w)→dH k s0 {d with s:=cO d.s l } p q
 | [],_,h,_=>h
 | w::l,d,h,hl=>by
  obtain⟨u,hu,hu0,hu9⟩:=j9 (hl w List.mem_cons_self)
  have hat:=(iI hu).2
  have hk:=Hl hu hu0 hu9
  have h2:dH k s0 {d with s:=d.s.aZ w.toNat {u with cZ:=1 } } p q:=⟨h.ok.NF hu hu0 hu9,fun w'=>by
   have:=h.rd w'
   show cS (d.s.aZ w.toNat {u with cZ:=1 }) w'+_=_
   rw[(hk w').2];exact this,h.wk,h.rc.aZ hat rfl (by rw[kr hu0 hu9];exact kr (t:={u with cZ:=1 }) (by show(1:Int)≠0;decide) (by show(1:Int)≠9;decide)) (fun _=>rfl),h.px⟩
  have h3:=dH.cO l _ h2 (fun w' hw'=>by
   show 0<dQ (d.s.aZ w.toNat {u with cZ:=1 }) w'
   rw[(hk w').1];exact hl w' (List.mem_cons_of_mem _ hw'))
  show dH k s0 {d with s:=Go.SLYthlllpngkljgfaaGreat.cO (d.s.aZ w.toNat {d.s.t w.toNat with cZ:=1 }) l } p q
  rw[show d.s.t w.toNat=u from dO hat]
  exact h3
theorem dH.dF:∀ (l:List Int) (d:Dng),dH k s0 d l []→d.out.aR=false∧d.out.ended=false→dH k s0 (d.dF l) [] []
 | [],_,h,_=>h
 | w::l,d,h,hs=>by
  have h1:=h.cj (w0:=w) (y:=0) (by simp) ⟨by decide,by decide⟩ (fun _=>hs)
  refine dH.dF l _ ?_ hs
  exact(h1.sq (fun w'=>by simp[List.count_cons]))
theorem dH.mb{l:List Int}(h:dH k s0 d l [])(hs:d.out.aR=false∧d.out.ended=false):dH k s0 (d.mb l) [] []:=by
 unfold Dng.mb
 refine dH.dF l _ (dH.cO d.waits d h (fun w hw=>?_)) hs
 have:=h.ok.sq w
 have h1:0<cG d.s.al w:=by
  obtain⟨x,hx,hw⟩:=List.mem_flatMap.1 hw
  obtain⟨y,hy,rfl⟩:=List.mem_map.1 hw
  have h2:=eJ (f:=fun m:eN=>dM y.who m.wait) (List.mem_of_mem_take hx)
  have h3:0<dM y.who x.wait:=List.countP_pos_iff.2 ⟨y,hy,by simp[KF]⟩
  unfold cG;omega
 unfold n9 at this
 simp at this;omega
theorem St.signal(S:St k s0 d t){all:Bool}:dH k s0 (((d.bH (d.s.al.signal d.i.n d.choice all).2.2).pass d.i.n 0 (d.s.al.signal d.i.n d.choice all).2.1).mb (d.s.al.signal d.i.n d.choice all).1) [] []:=by
 obtain⟨hg,hc⟩:=Hi (c:=d.i.n) (ch:=d.choice) (all:=all) S.h.ok.gt
 have h1:=S.h.bH hg (p':=(d.s.al.signal d.i.n d.choice all).1) (q':=[]) (fun w=>by have:=hc w;simp;omega)
 exact(h1.pass S.ht S.hw S.hn il).mb ⟨S.hs,S.he⟩
end
end Go.SLYthlllpngkljgfaaGreat
