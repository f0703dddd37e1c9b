/- Walks of functions, and what they compute. Conditions: none, this text proves no statement. -/
import Derived.Test.YthlllpngkljgfaaGreatH03
import Derived.Laws.FloatBits
namespace Go.SLYthlllpngkljgfaaGreat
open Go Go.RowKit
def ee(b p:Nat)(d:Dng)(vw ve:Value):List Value:=[ptr b,.int .i64 (d.n:Int),ptr p,.int .i64 d.i.op,.int .i64 d.i.a,.int .i64 d.i.b,.int .i64 d.i.c,.int .u64 d.i.n,.int .i64 d.choice,vw,.bool d.out.aR,.bool d.out.ended,.bool d.out.yielded,ve]
def bq(bd b p:Nat)(ps:List (Option Nat))(d:Dng):aa:=nI (fun _ _=>True) fun vw ve=>[arr bd 0 (ee b p d vw ve),sl au 1 vw d.out.ar,sl cP 6 ve d.ends,cB b ps d.s]
def Oy(bd b p:Nat)(d:Dng):aa:=iS (fun _=>True) fun ps=>[bq bd b p ps d]
def nS(v:Value)(e:kO):List Value:=[v,.bool e.aR,.bool e.ended,.bool e.yielded]
theorem bQ{ps:List (Option Nat)}{ts:List (Option bE)}{n p:Nat}{t:bE}(hp:ps[n]?=some (some p))(ht:ts[n]?=some (some t)):∀ h,aA ps ts h→seps [arr p 0 (bj t),aA (ps.set n none) (ts.set n none)] h:=fun h a=>by
 obtain⟨q,hq,a'⟩:=lW ht h a
 rw[hp] at hq;cases hq
 exact jE.2 a'
theorem bP{ps:List (Option Nat)}{ts:List (Option bE)}{n p:Nat}{t:bE}(hp:ps[n]?=some (some p))(ht:ts[n]?=some (some t)):∀ h,seps [arr p 0 (bj t),aA (ps.set n none) (ts.set n none)] h→aA ps ts h:=fun h a=>by
 have:=cx (List.getElem?_eq_some_iff.1 ht).1 hp h a
 rwa [fA ht] at this
theorem mY{t:bE}:∀ {n:Nat} (_:n<8),(bj t)[2+n * 1]?=some (.int .u64 (t.aI.getD n 0))
 | 0,_=>rfl
 | 1,_=>rfl
 | 2,_=>rfl
 | 3,_=>rfl
 | 4,_=>rfl
 | 5,_=>rfl
 | 6,_=>rfl
 | 7,_=>rfl
 | n+8,h=>absurd h (by omega)
theorem GX{fn pc handle cQ value ay op bY:Int}{det:Bool}{a0 a1 a2 a3 a4 a5 a6 a7:Int}(x:Int):∀ {n:Nat} (_:n<8),(bj ⟨fn,pc,[a0,a1,a2,a3,a4,a5,a6,a7],handle,cQ,value,det,ay,op,bY⟩).set (2+n * 1) (.int .u64 x)=bj ⟨fn,pc,[a0,a1,a2,a3,a4,a5,a6,a7].set n x,handle,cQ,value,det,ay,op,bY⟩
 | 0,_=>rfl
 | 1,_=>rfl
 | 2,_=>rfl
 | 3,_=>rfl
 | 4,_=>rfl
 | 5,_=>rfl
 | 6,_=>rfl
 | 7,_=>rfl
 | n+8,h=>absurd h (by omega)
theorem rX{t:bE}(x:Int){n:Nat}(hn:n<8)(hl:t.aI.length=8):(bj t).set (2+n * 1) (.int .u64 x)=bj (t.put (n:Int) x):=by
 obtain⟨fn,pc,aI,handle,cQ,value,det,ay,op,bY⟩:=t
 match aI,hl with
 | [a0,a1,a2,a3,a4,a5,a6,a7],_=>exact GX x hn
theorem ju{t:bE}(x:Int){i:Int}(h0:0≤i)(hn:i<8)(hl:t.aI.length=8):(bj t).set (2+i.toNat * 1) (.int .u64 x)=bj (t.put i x):=by
 rw[rX x (by omega) hl,show((i.toNat:Nat):Int)=i from by omega]
theorem oY(t:bE)(x:Int):(bj t).set 11 (.int .i64 x)=bj {t with cQ:=x }:=rfl
theorem Eu(t:bE)(x:Int):(bj t).set 12 (.int .u64 x)=bj {t with value:=x }:=rfl
theorem JE(t:bE)(x:Bool):(bj t).set 13 (.bool x)=bj {t with bK:=x }:=rfl
theorem Br(t:bE)(x:Int):(bj t).set 14 (.int .i64 x)=bj {t with ay:=x }:=rfl
theorem Lz(t:bE)(x:Int):(bj t).set 15 (.int .i64 x)=bj {t with op:=x }:=rfl
theorem tv(t:bE)(x:Int):(bj t).set 16 (.int .i64 x)=bj {t with bY:=x }:=rfl
theorem jL{t:bE}{i x:Int}:(t.put i x).aI.length=t.aI.length:=by unfold bE.put;simp
section
variable{fv sv pv:Value}{p:fM}{bt:Nat}{ps:List (Option Nat)}{vm:Value}{bg:Nat}{vt:Value}{bk bw:Nat}{vr u:Value}
theorem oZ:(fo fv sv pv p bt ps vm bg vt bk bw vr).set 30 u=fo fv sv pv p bt ps vm bg vt bk bw u:=rfl
theorem xO:(fo fv sv pv p bt ps vm bg vt bk bw vr).set 25 u=fo fv sv pv p bt ps u bg vt bk bw vr:=rfl
end
structure gV(t:bE):Prop where
 l:t.aI.length=8
 r:∀ n,0≤t.aI.getD n 0∧t.aI.getD n 0≤18446744073709551615
 i : -1≤t.bY∧t.bY<8
 v:0≤t.value∧t.value≤18446744073709551615
 h:0≤t.handle∧t.handle≤18446744073709551615
theorem dM{s:Spc}{n:Nat}{t:bE}(h:s.aF[n]?=some (some t)):s.t n=t:=by unfold Spc.t;rw[List.getD_eq_getElem?_getD,h];rfl
theorem dc{d:Dng}{t:bE}(h:d.s.aF[d.n]?=some (some t)):d.t=t:=dM h
def Bt(ps:List (Option Nat))(n:Int):Option Nat:=if 0≤n∧n<16 then ps.getD n.toNat none else none
theorem C3{t:bE}{y:Int}(t1:bE)(h:t1=if t.bY = -1 then t else t.put t.bY y):t.fy y = {t1.put 7 0 with cQ:=0,bY := -1 }:=by unfold bE.fy;rw[h]
section
variable{P:Program}{W:World}{N:Nat}{T:TypeId}{L:List (Nat×Option Value)}{H:List aa}{α:Type}
theorem af.JF{E:TypeId}{x y:Operand}{pos:String}{after:Array Edge}{guard:Option (Nat×Bool)}{b o:Nat}{v:Value}{vs cs:List Value}{H':List aa}{enc:α→List Value}{k:Nat}{xs:List α}(hz:∀ w,(sizeOf E).run P w = .ok (vs.length+1) w)(hx:ev L x=some (.pointer (some ⟨b,o,none⟩)))(hy:ev L y=some (.agg (v::vs).toArray))[hv:aw W H v enc k xs](hvs:vs.all (·.oneCell')=true)
  [_h0:bX H b o cs] [hr:cE H b o cs (v::vs) H'] (hi:cs.length=vs.length+1) :
  af P W N ⟨none,.store E x y,T,pos,after,guard⟩ L H (fun L1 H1=>L1=L∧H1=H'):=fun a w ha hs Kp hK=>af.storeAll hx hy hz (fun c hc=>by
   rcases List.mem_cons.1 hc with rfl | hc
   ·exact hv.rd.one w hs
   ·exact List.all_eq_true.1 hvs c hc) hr.oF hi a w ha hs Kp hK
end
end Go.SLYthlllpngkljgfaaGreat
namespace Go.SLYthlllpngkljgfaaGreat
open Go Go.RowKit
def bM(ps:List (Option Nat))(s:Spc)(n:Nat):Prop:=n<16∧ ∃ q t,ps[n]?=some (some q)∧s.aF[n]?=some (some t)∧gV t
theorem Ew{b p:Nat}{d:Dng}{vw ve:Value}:(ee b p d vw ve).set 11 (.bool true)=ee b p d.ended vw ve:=rfl
theorem JG{b p:Nat}{d:Dng}{vw ve:Value}:(ee b p d vw ve).set 12 (.bool true)=ee b p {d with out:={d.out with yielded:=true } } vw ve:=rfl
theorem fC{s:Spc}{n m:Nat}{t t':bE}(h:s.aF[m]?=some (some t))(hne:n≠m):(s.aV n t').aF[m]?=some (some t):=by
 unfold Spc.aV;simp only;rw[List.getElem?_set_ne hne];exact h
theorem di{s:Spc}{n:Nat}{t t':bE}(h:s.aF[n]?=some (some t)):(s.aV n t').aF[n]?=some (some t'):=by
 unfold Spc.aV;simp only;exact List.getElem?_set_self (List.getElem?_eq_some_iff.1 h).1
theorem GY{d:Dng}{n:Nat}{y:Int}{m:Nat}{t:bE}(h:d.s.aF[m]?=some (some t))(hne:n≠m):(d.cj n y).s.aF[m]?=some (some t):=fC h hne
theorem C4{d:Dng}{t:bE}{v:Int}(ht:d.s.aF[d.n]?=some (some t))(h:t.bK=true):d.fin v=d.ended.free d.n:=by
 unfold Dng.fin;rw[dc ht,if_pos h]
theorem zA{d:Dng}{t:bE}{v:Int}(ht:d.s.aF[d.n]?=some (some t))(h:t.bK=false)(hj:t.ay = -1):d.fin v=d.ended.aV {t with cQ:=9,value:=v }:=by
 unfold Dng.fin;rw[dc ht,if_neg (by rw[h];simp),if_pos hj]
theorem zB{d:Dng}{t:bE}{v:Int}(ht:d.s.aF[d.n]?=some (some t))(h:t.bK=false)(hj:¬t.ay = -1):d.fin v=(d.ended.cj t.ay.toNat v).free d.n:=by
 unfold Dng.fin;rw[dc ht,if_neg (by rw[h];simp),if_neg hj]
theorem tz{t:bE}{f:iP}:setFrom (bj t) 0 (iM f)=bj (t.nM f):=rfl
theorem kR{f:iP}{m:List Int}{i:Ins}{z:iP×List Int}(h:lN f m i=some z):fX f m i=(z.1,z.2,0):=by unfold fX;rw[h]
theorem tA{f:iP}{m:List Int}{i:Ins}(h:lN f m i=none):fX f m i=(iP.z,[],6):=by unfold fX;rw[h]
theorem nT{f:iP}{m:List Int}{i:Ins}(h:(fX f m i).2.2=0):∃ z,lN f m i=some z:=by
 unfold fX at h
 cases e:lN f m i with
 | none=>rw[e] at h;cases h
 | some z=>exact⟨z,rfl⟩
theorem qy{f:iP}{m:List Int}{i:Ins}(h:¬(fX f m i).2.2=0):lN f m i=none:=by
 cases e:lN f m i with
 | none=>rfl
 | some z=>rw[kR e] at h;exact absurd rfl h
theorem GZ{f:iP}{m:List Int}{i:Ins}(h:lN f m i=none):i.op=18∨i.op=19:=by
 unfold lN at h
 repeat' split at h
 all_goals first | (cases h;done) | omega
theorem G0{f:iP}{m:List Int}{i:Ins}{z:iP×List Int}(h:lN f m i=some z)(ho:i.op=18):f.tg i.b<m.length:=by
 unfold lN at h
 rw[if_neg (by omega),if_neg (by omega),if_neg (by omega),if_pos ho] at h
 split at h
 ·assumption
 ·cases h
def Dng.told(d:Dng):Dng:=if d.i.op=18 then d.tell d.b (d.s.mem.getD d.b.toNat 0) 0 true else if d.i.op=19 then d.tell d.a d.b 0 true else d
theorem jM{d:Dng}{t:bE}{z:iP×List Int}(ht:d.s.aF[d.n]?=some (some t))(h:lN t.mX d.s.mem d.i=some z):d.plain = {d.told with s:={d.told.s.aV d.n (t.nM z.1) with mem:=z.2 } }:=by
 unfold Dng.plain;rw[dc ht,h];rfl
theorem l9{d:Dng}{t:bE}(ht:d.s.aF[d.n]?=some (some t))(h:lN t.mX d.s.mem d.i=none):d.plain=(if d.i.op=18 then d.tell d.b 0 6 true else d.tell d.a d.b 6 true).fin 18446744073709551615:=by
 unfold Dng.plain;rw[dc ht,h]
theorem tB{d:Dng}{h:Int}(e:bz d.s.table h=none):d.other h=(0,3):=by unfold Dng.other;rw[e]
theorem kS{d:Dng}{h:Int}{n:Nat}{t:bE}(e:bz d.s.table h=some n)(ht:d.s.aF[n]?=some (some t))(hn:n=d.n∨t.bK=true):d.other h=(0,3):=by unfold Dng.other;rw[e];simp only;rw[dM ht,if_pos hn]
theorem tC{d:Dng}{h:Int}{n:Nat}{t:bE}(e:bz d.s.table h=some n)(ht:d.s.aF[n]?=some (some t))(hn:¬(n=d.n∨t.bK=true))(hj:t.ay = -1):d.other h=(n,0):=by unfold Dng.other;rw[e];simp only;rw[dM ht,if_neg hn,if_pos hj]
theorem nU{d:Dng}{h:Int}{n:Nat}{t:bE}(e:bz d.s.table h=some n)(ht:d.s.aF[n]?=some (some t))(hn:¬(n=d.n∨t.bK=true))(hj:¬t.ay = -1):d.other h=(0,4):=by unfold Dng.other;rw[e];simp only;rw[dM ht,if_neg hn,if_neg hj]
section
variable{P:Program}{W:World}{N:Nat}{Q:Exit→Act→World→Prop}{O:Array Oper}{L:List (Nat×Option Value)}{H K:List aa}
theorem bC.LA{ks rest:List Nat}{i:Nat}{E T:TypeId}{x y:Operand}{pos:String}{after:Array Edge}{b o:Nat}{vs cs:List Value}{H':List aa}(ho:O[i]?=some ⟨none,.store E x y,T,pos,after,none⟩)(hk:ks.getD i 1=2)
  (hz:∀ w,(sizeOf E).run P w = .ok vs.length w) (hx:ev L x=some (.pointer (some ⟨b,o,none⟩))) (hy:ev L y=some (.agg vs.toArray)) (hv:vs.all (·.oneCell')=true) [_h0:bX H b o cs] [hr:cE H b o cs vs H'] (hi:cs.length=vs.length)
  (hK:∀ w,Sat W w (seps H)→Sat W w (seps K)) (hK':∀ w,Sat W w (seps H')→Sat W w (seps K)) (h:bC P W N K O Q ks rest L H'):bC P W N K O Q ks (i::rest) L H :=
 bC.d (X:=Unit) (Lx:=fun _=>L) (Hx:=fun _=>H') ho rfl (.inl hk) (fun _=>hK) (fun E=>(by
  intro a w ha hs Kp hK
  exact af.storeAll hx hy hz (List.all_eq_true.1 hv) (gp.app E hr.oF) hi a w ha hs Kp (fun L1 H1 ⟨e1,e2⟩=>hK L1 H1 ⟨(),e1,e2⟩))) (fun _ _=>hK') (fun _=>h)
end
end Go.SLYthlllpngkljgfaaGreat
namespace Go.SLYthlllpngkljgfaaGreat
open Go Go.RowKit
theorem tD{α:Type}{f:α→aa}{xs:List α}{i:Nat}{x:α}(h:xs[i]?=some x):∀ g,aD f xs g→seps [f x,aD f (xs.eraseIdx i)] g:=fun g a=>by rw[jl f h] at a;exact jE.2 a
theorem xP{v:Value}{l:List Tub}{xs:List (Nat×Tub)}{i:Nat}{x:Nat×Tub}(hx:xs[i]?=some x)(hxs:xs.map (·.2)=l)(u:Tub):∀ h,seps [sl bH 1 v xs,iv x.1 u,aD (fun x:Nat×Tub=>iv x.1 x.2) (xs.eraseIdx i)] h→oG v (l.set i u) h:=fun h a=>by
 refine⟨xs.set i (x.1,u),by show(xs.set i (x.1,u)).map (·.2)=_;rw[List.map_set,hxs],?_⟩
 have hi:=(List.getElem?_eq_some_iff.1 hx).1
 rw[jE,gL _ _ hi]
 exact ba (fun g b=>oO (x':=(x.1,u)) hi rfl g (xF hx g b)) (fun g b=>jE.1 b) h a
theorem bM.aV{ps:List (Option Nat)}{s:Spc}{n m:Nat}{t:bE}(h:bM ps s m)(ht:gV t):bM ps (s.aV n t) m:=by
 obtain⟨hm,q,u,hq,hu,hR⟩:=h
 rcases Decidable.em (n=m) with rfl | hne
 ·exact⟨hm,q,t,hq,di hu,ht⟩
 ·exact⟨hm,q,u,hq,fC hu hne,hR⟩
theorem bM.of{ps:List (Option Nat)}{s s':Spc}{m:Nat}(h:bM ps s m)(e:s'.aF=s.aF):bM ps s' m:=by
 obtain⟨hm,q,u,hq,hu,hR⟩:=h
 exact⟨hm,q,u,hq,by rw[e];exact hu,hR⟩
theorem o0{l:List Int}{i n:Nat}{x:Int}(hx:0≤x∧x≤18446744073709551615)(h:∀ n,0≤l.getD n 0∧l.getD n 0≤18446744073709551615):0≤(l.set i x).getD n 0∧(l.set i x).getD n 0≤18446744073709551615:=by
 have hn:=h n
 rw[List.getD_eq_getElem?_getD] at hn ⊢
 rw[List.getElem?_set]
 split
 ·split
  ·exact hx
  ·exact⟨Int.le_refl _,by decide⟩
 ·exact hn
theorem gV.put{t:bE}(h:gV t){i x:Int}(hx:0≤x∧x≤18446744073709551615):gV (t.put i x):=⟨by rw[jL];exact h.l,fun n=>o0 hx h.r,h.i,h.v,h.h⟩
theorem gV.with{t:bE}(h:gV t){a b c:Int}(hc : -1≤c∧c<8):gV {t with cQ:=a,op:=b,bY:=c }:=⟨h.l,h.r,hc,h.v,h.h⟩
def Gates.has(g:Gates)(w:Int):Prop:=(∃ x∈g.dh, ∃ y∈x.wait,y.who=w)∨(∃ r∈g.gZ, ∃ y∈r,y.who=w)∨(∃ x∈g.er, ∃ y∈x.wait,y.who=w)
structure iN(ps:List (Option Nat))(d:Dng)(t:bE):Prop where
 nb:d.n<16
 R:gV t
 lt:d.s.aF.length=16
 lp:ps.length=16
 T:jo d.s.table
 slot:∀ h m,bz d.s.table h=some m→bM ps d.s m
 free:∀ n,slotFree? d.s.table 0=some n→d.s.aF[n]?=some none
 join:¬t.ay = -1→0≤t.ay∧t.ay.toNat≠d.n∧bM ps d.s t.ay.toNat
 I:nw d.i
 nn:d.i.n≤1099511627776
 av:d.s.av.length≤900000000
 ends:d.ends.length≤500000
 AW:d.out.ar.length≤500000
 mem:d.s.mem.length≤1000000
 gl:gO d.s.al
 JJ:∀ x∈d.s.al.er,0≤x.count∧x.count≤1048576
 JK:∀ r∈d.s.al.gZ, ∀ w∈r,0≤w.mutex∧w.mutex<(d.s.al.dh.length:Int)
 iR:∀ w,d.s.al.has w→0≤w∧bM ps d.s w.toNat
 JL:d.s.eT.bu≤(d.s.al.dh.length:Int)
 BE:(∀ x∈d.s.al.dh,x.wait.length≤400000)∧ ∀ r∈d.s.al.gZ,r.length≤400000
 Nj:(d.i.op=35∨d.i.op=36)→d.i.n<(d.s.cc.length:Int)
 tl:∀ u∈d.s.cc,tu u
 zN:∀ u∈d.s.cc,(∀ w∈u.gM,0≤w∧bM ps d.s w.toNat)∧(∀ x∈u.hM,0≤x.who∧bM ps d.s x.who.toNat)
 tw:∀ u∈d.s.cc, ∀ w∈u.words,0≤w∧w≤18446744073709551615
 dw:d.s.bZ.wait.length≤1000000
 wn:0≤d.s.aT.now∧d.s.aT.now≤1099511627776
theorem tE{ps:List (Option Nat)}{d:Dng}{h:Int}(hs:∀ n,bz d.s.table h=some n→bM ps d.s n)(e:(d.other h).2=0) :
  ∃ m q u,bz d.s.table h=some m∧(d.other h).1=m∧m≠d.n∧m<16∧ps[m]?=some (some q)∧d.s.aF[m]?=some (some u)∧gV u∧u.bK=false∧u.ay = -1:=by
 cases hf:bz d.s.table h with
 | none=>rw[tB hf] at e;cases e
 | some m =>
  obtain⟨hm,q,u,hq,hu,hR⟩:=hs m hf
  by_cases h1:m=d.n∨u.bK=true
  ·rw[kS hf hu h1] at e;cases e
  ·by_cases h2:u.ay = -1
   ·exact⟨m,q,u,rfl,by rw[tC hf hu h1 h2],fun h=>h1 (.inl h),hm,hq,hu,hR,by cases hd:u.bK with | false=>rfl | true=>exact absurd (.inr hd) h1,h2⟩
   ·rw[nU hf hu h1 h2] at e;cases e
theorem pd{d:Dng}{h:Int}:0≤(d.other h).2∧(d.other h).2≤11:=by
 unfold Dng.other
 repeat' split
 all_goals (dsimp only;omega)
theorem G3{d:kF}{r:vC}:0≤(d.ask r).1∧(d.ask r).1≤11:=by
 unfold kF.ask
 repeat' split
 all_goals (dsimp only;omega)
theorem C5{g:Gates}{w m:Int}:0≤(g.lock w m).2.1∧(g.lock w m).2.1≤11:=by
 unfold Gates.lock
 repeat' split
 all_goals (dsimp only;omega)
theorem qz{g:Gates}{w m c:Int}:0≤(g.unlock w m c).2.2.1∧(g.unlock w m c).2.2.1≤11:=by
 unfold Gates.unlock
 repeat' split
 all_goals (dsimp only;omega)
theorem C6{g:Gates}{w c m ch:Int}:0≤(g.wait w c m ch).2.2.1∧(g.wait w c m ch).2.2.1≤11:=by
 unfold Gates.wait
 repeat' split
 all_goals (dsimp only;omega)
theorem G4{g:Gates}{s c:Int}:0≤(g.up s c).2.2.1∧(g.up s c).2.2.1≤11:=by
 unfold Gates.up
 repeat' split
 all_goals (dsimp only;omega)
theorem C7{g:Gates}{w s:Int}:0≤(g.down w s).2.1∧(g.down w s).2.1≤11:=by
 unfold Gates.down
 repeat' split
 all_goals (dsimp only;omega)
theorem ia{g:Gates}{c ch:Int}{a:Bool}:0≤(g.signal c ch a).2.1∧(g.signal c ch a).2.1≤11:=by
 unfold Gates.signal
 repeat' split
 all_goals (dsimp only;omega)
theorem qA{l:List eS}{c:Int}(h:(aP l c).2.1=true):(aP l c).1∈l:=by
 by_cases h0:l.length=0
 ·rw[xI h0] at h;cases h
 ·exact(kl h0).1
theorem tF{g:Gates}{w m c:Int}(h:(g.unlock w m c).2.1=true):g.has (g.unlock w m c).1:=by
 unfold Gates.unlock at h ⊢
 split
 ·rename_i e;rw[e] at h;cases h
 ·rename_i x e
  rw[e] at h;simp only at h ⊢
  split
  ·rename_i hi;rw[if_pos hi] at h
   exact .inl ⟨x,List.mem_of_getElem? (bF e).2.2,_,qA h,rfl⟩
  ·rename_i hi;rw[if_neg hi] at h;cases h
theorem zC{g:Gates}{w c m ch:Int}(h:(g.wait w c m ch).2.1=true):g.has (g.wait w c m ch).1:=by
 unfold Gates.wait at h ⊢
 split
 ·rename_i x r e1 e2
  rw[e1,e2] at h;simp only at h ⊢
  repeat' split at h
  all_goals first | (cases h;done) | skip
  rename_i h1 h2
  rw[if_neg h1,if_pos h2]
  exact .inl ⟨x,List.mem_of_getElem? (bF e1).2.2,_,qA h,rfl⟩
 ·rename_i hn
  split at h
  ·rename_i x r e1 e2;exact absurd e2 (hn x r e1)
  ·cases h
theorem G5{g:Gates}{s c:Int}(h:(g.up s c).2.1=true):g.has (g.up s c).1:=by
 unfold Gates.up at h ⊢
 split
 ·rename_i e;rw[e] at h;cases h
 ·rename_i x e
  rw[e] at h;simp only at h ⊢
  split
  ·rename_i hi
   exact .inr (.inr ⟨x,List.mem_of_getElem? (bF e).2.2,_,qA hi,rfl⟩)
  ·rename_i hi;rw[if_neg hi] at h
   split at h <;> cases h
end Go.SLYthlllpngkljgfaaGreat
namespace Go.SLYthlllpngkljgfaaGreat
open Go Go.RowKit
theorem bM.pass{ps:List (Option Nat)}{d:Dng}{t:bE}{m:Nat}{x y e:Int}(h:bM ps d.s m)(ht:d.s.aF[d.n]?=some (some t))(hR:gV t)(he:0≤e∧e≤11):bM ps (d.pass x y e).s m:=by
 have:bM ps (d.tell x y e true).s m:=h.of rfl
 have h2:=this.aV (n:=d.n) (hR.put (i:=7) (x:=e) (by omega))
 unfold Dng.pass;rw[dc ht];exact h2
theorem bM.block{ps:List (Option Nat)}{d:Dng}{t:bE}{m:Nat}{w i x y:Int}(h:bM ps d.s m)(ht:d.s.aF[d.n]?=some (some t))(hR:gV t)(hi : -1≤i∧i<8):bM ps (d.block w i x y).s m:=by
 have:bM ps (d.tell x y 0 false).s m:=h.of rfl
 have h2:=this.aV (n:=d.n) (hR.with (a:=w) (b:=d.i.op) hi)
 unfold Dng.block;rw[dc ht];exact h2
theorem LB{c:Int}(h:0≤c∧c<8):A9 c=c:=by unfold A9;omega
theorem G6{u:Tub}{who x:Int}(h:(u.put who x).2.2.1=true):(u.put who x).2.1∈u.gM:=by
 cases hw:u.waits who with
 | true=>rw[vT hw] at h;cases h
 | false =>
  cases hg:u.gM with
  | cons w r=>rw[rW hw hg];exact List.mem_cons_self
  | nil =>
   by_cases hr:(u.words.length:Int)<u.room
   ·rw[oU hw hg hr] at h;cases h
   ·rw[oV hw hg hr] at h;cases h
theorem G7{u:Tub}{who:Int}(h:(u.get who).2.2.2.1=true):∃ x∈u.hM,x.who=(u.get who).2.2.1:=by
 cases hw:u.waits who with
 | true=>rw[qv hw] at h;cases h
 | false =>
  cases hg:u.words with
  | nil=>rw[get_none hw hg] at h;cases h
  | cons w r =>
   cases hp:u.hM with
   | nil=>rw[oW hw hg hp] at h;cases h
   | cons q r2=>rw[oX hw hg hp];exact⟨q,List.mem_cons_self,rfl⟩
theorem G8{u:Tub}{who:Int}(h:∀ w∈u.words,0≤w∧w≤18446744073709551615):0≤(u.get who).1∧(u.get who).1≤18446744073709551615:=by
 have h0:(0:Int)≤0∧(0:Int)≤18446744073709551615:=by decide
 cases hw:u.waits who with
 | true=>rw[qv hw];exact h0
 | false =>
  cases hg:u.words with
  | nil=>rw[get_none hw hg];exact h0
  | cons w r =>
   have:=h w (by rw[hg];exact List.mem_cons_self)
   cases hp:u.hM with
   | nil=>rw[oW hw hg hp];exact this
   | cons q r2=>rw[oX hw hg hp];exact this
theorem C8{d:Dng}{xs:List (Nat×Tub)}(hxs:xs.map (·.2)=d.s.cc)(h0:0≤d.i.n)(h:d.i.n<(d.s.cc.length:Int)):∃ q,xs[d.i.n.toNat]?=some (q,d.bV)∧d.bV∈d.s.cc:=by
 have hl:xs.length=d.s.cc.length:=by rw[← hxs,List.length_map]
 obtain⟨⟨q,u⟩,hx⟩:=ak (show d.i.n.toNat<xs.length by omega)
 have hu:=eQ hxs hx
 have:d.bV=u:=by unfold Dng.bV;rw[List.getD_eq_getElem?_getD,hu];rfl
 exact⟨q,by rw[this];exact hx,by rw[this];exact List.mem_of_getElem? hu⟩
theorem vU{s:Spc}{f arg:Int}{n:Nat}(h:slotFree? s.table 0=some n)(hl:n<s.aF.length):∃ t,(s.begin f arg).2.2.aF[n]?=some (some t)∧t=rG f arg (ei ((s.table.getD n (false,0)).2+1) n):=by
 rw[eU h]
 exact⟨_,List.getElem?_set_self hl,rfl⟩
end Go.SLYthlllpngkljgfaaGreat
namespace Go.SLYthlllpngkljgfaaGreat
open Go Go.RowKit
theorem Bu(s:Spc)(a b:List Int):cM s (a++b)=cM (cM s a) b:=by
 induction a generalizing s with
 | nil=>rfl
 | cons x l ih=>exact ih _
theorem xQ(s:Spc)(a:List Int):(cM s a).al=s.al:=by
 induction a generalizing s with
 | nil=>rfl
 | cons x l ih=>exact(ih _).trans rfl
theorem tG{ps:List (Option Nat)}{s:Spc}(m:Nat)(a:List Int)(h:bM ps s m):bM ps (cM s a) m:=by
 induction a generalizing s with
 | nil=>exact h
 | cons x l ih =>
  refine ih ?_
  by_cases hx:∃ t,s.aF[x.toNat]?=some (some t)
  ·obtain⟨t,ht⟩:=hx
   rw[show s.t x.toNat=t from dM ht]
   obtain⟨hm,q,u,hq,hu,hR⟩:=h
   rcases Decidable.em (x.toNat=m) with e | hne
   ·subst e
    rw[ht] at hu;cases hu
    exact⟨hm,q,_,hq,di ht,⟨hR.l,hR.r,hR.i,hR.v,hR.h⟩⟩
   ·exact⟨hm,q,u,hq,fC hu hne,hR⟩
  ·obtain⟨hm,q,u,hq,hu,hR⟩:=h
   exact⟨hm,q,u,hq,fC hu (fun e=>hx ⟨u,by rw[e];exact hu⟩),hR⟩
theorem gV.fy{t:bE}(h:gV t){y:Int}(hy:0≤y∧y≤18446744073709551615):gV (t.fy y):=by
 have h1:gV (if t.bY = -1 then t else t.put t.bY y):=by split;exact h;exact h.put hy
 have h2:=h1.put (i:=7) (x:=0) (by decide)
 exact⟨h2.l,h2.r,by show(-1:Int)≤ -1∧(-1:Int)<8;decide,h2.v,h2.h⟩
theorem xR(d:Dng)(a:List Int)(n:Int):d.dz (a++[n])=(d.dz a).cj n.toNat 0:=by
 induction a generalizing d with
 | nil=>rfl
 | cons x l ih=>exact ih _
theorem rh(d:Dng)(a:List Int):(d.dz a).ends.length=d.ends.length+a.length∧(d.dz a).out.ar.length=d.out.ar.length+a.length:=by
 induction a generalizing d with
 | nil=>exact⟨rfl,rfl⟩
 | cons x l ih =>
  have:=ih (d.cj x.toNat 0)
  simp only[Dng.cj,List.length_append,List.length_cons,List.length_nil] at this
  show(Dng.dz (d.cj x.toNat 0) l).ends.length=_∧(Dng.dz (d.cj x.toNat 0) l).out.ar.length=_
  rw[List.length_cons]
  exact⟨by have:=this.1;simp only[Dng.cj] at this ⊢;omega,by have:=this.2;simp only[Dng.cj] at this ⊢;omega⟩
theorem vV{ps:List (Option Nat)}{d:Dng}{m n:Nat}(h:bM ps d.s m)(hn:bM ps d.s n):bM ps (d.cj n 0).s m:=by
 obtain⟨hn16,q,u,hq,hu,hR⟩:=hn
 have:=h.aV (n:=n) (hR.fy (y:=0) (by decide))
 unfold Dng.cj Spc.dI
 simp only
 rw[dM hu];exact this
theorem xS{ps:List (Option Nat)}(m:Nat)(a:List Int):∀ (d:Dng),bM ps d.s m→(∀ w∈a,bM ps d.s w.toNat)→bM ps (d.dz a).s m:=by
 induction a with
 | nil=>intro d h _;exact h
 | cons x l ih =>
  intro d h ha
  have hx:=ha x List.mem_cons_self
  exact ih _ (vV h hx) (fun w hw=>vV (ha w (List.mem_cons_of_mem _ hw)) hx)
def eC(d:Dng)(k:Nat):List Int:=(d.s.al.dh.take k).flatMap fun m=>m.wait.map (·.who)
theorem xU{d:Dng}{k:Nat}{x:eI}(h:d.s.al.dh[k]?=some x):eC d (k+1)=eC d k++x.wait.map (·.who):=by
 unfold eC
 rw[aX h,List.flatMap_append];simp
theorem C9:∀ (n:Nat) (c:Int) (r:List eS) (ms:List eI) (out:List Int),n≤r.length→ ∀ w∈(sigLoop n c r ms out).2.2,w∈out∨ ∃ y∈r,y.who=w
 | 0,_,_,_,_,_,_,h=>.inl h
 | n+1,c,r,ms,out,hn,w,h=>by
  unfold sigLoop at h
  simp only at h
  obtain⟨h1,h2,h3⟩:=kl (l:=r) (c:=c) (by omega)
  rcases C9 n c _ _ _ (by omega) w h with h | ⟨y,hy,e⟩
  ·split at h
   ·rcases List.mem_append.1 h with h | h
    ·exact .inl h
    ·rw[List.mem_singleton] at h;exact .inr ⟨_,h1,h.symm⟩
   ·exact .inl h
  ·exact .inr ⟨y,h3 y hy,e⟩
theorem Da:∀ (n:Nat) (c:Int) (r:List eS) (ms:List eI) (out:List Int),(sigLoop n c r ms out).2.2.length≤out.length+n
 | 0,_,_,_,_=>by simp[sigLoop]
 | n+1,c,r,ms,out=>by
  unfold sigLoop
  simp only
  refine Nat.le_trans (Da n c _ _ _) ?_
  split
  ·rw[List.length_append];simp;omega
  ·omega
theorem kT{g:Gates}{c ch:Int}{all:Bool}:∀ w∈(g.signal c ch all).1,g.has w:=fun w h=>by
 unfold Gates.signal at h
 split at h
 ·cases h
 ·rename_i r e
  rcases C9 _ _ _ _ _ (by split <;> omega) w h with h | ⟨y,hy,e2⟩
  ·cases h
  ·exact .inr (.inl ⟨r,List.mem_of_getElem? (bF e).2.2,y,hy,e2⟩)
theorem nV{g:Gates}{c ch:Int}{all:Bool}(hg:∀ r∈g.gZ,r.length≤400000):(g.signal c ch all).1.length≤400000:=by
 unfold Gates.signal
 split
 ·simp
 ·rename_i r e
  have:=hg r (List.mem_of_getElem? (bF e).2.2)
  refine Nat.le_trans (Da _ _ _ _ _) ?_
  simp only[List.length_nil]
  split <;> omega
theorem pe:∀ (n:Nat) (c:Int) (r:List eS) (ms:List eI) (out:List Int),(sigLoop n c r ms out).2.1.length=ms.length
 | 0,_,_,_,_=>rfl
 | n+1,c,r,ms,out=>by unfold sigLoop;simp only;rw[pe n,List.length_set]
theorem jN{g:Gates}{c ch:Int}{all:Bool}:(g.signal c ch all).2.2.dh.length=g.dh.length:=by
 unfold Gates.signal
 split
 ·rfl
 ·exact pe _ _ _ _ _
theorem vW:∀ (n:Nat) (c:Int) (r:List eS) (ms:List eI) (out:List Int) (N:Nat),n≤r.length→(∀ x∈ms,x.wait.length≤N)→ ∀ x∈(sigLoop n c r ms out).2.1,x.wait.length≤N+n∧ ∀ y∈x.wait,(∃ x'∈ms,y∈x'.wait)∨ ∃ z∈r,z.who=y.who
 | 0,_,_,_,_,_,_,hN,x,h=>⟨hN x h,fun y hy=>.inl ⟨x,h,hy⟩⟩
 | n+1,c,r,ms,out,N,hn,hN,x,h=>by
  unfold sigLoop at h
  simp only at h
  obtain⟨h1,h2,h3⟩:=kl (l:=r) (c:=c) (by omega)
  have hl:∀ x∈ms.set (aP r c).1.mutex.toNat ((ms.getD (aP r c).1.mutex.toNat ⟨[],false,0⟩).lock (aP r c).1.who).2,x.wait.length≤N+1∧ ∀ y∈x.wait,(∃ x'∈ms,y∈x'.wait)∨y.who=(aP r c).1.who:=by
   intro x hx
   rcases List.mem_or_eq_of_mem_set hx with hx | rfl
   ·exact⟨by have:=hN x hx;omega,fun y hy=>.inl ⟨x,hx,hy⟩⟩
   ·have hg:∀ (z:eI),(z∈ms∨z=⟨[],false,0⟩)→(z.lock (aP r c).1.who).2.wait.length≤N+1∧ ∀ y∈(z.lock (aP r c).1.who).2.wait,(∃ x'∈ms,y∈x'.wait)∨y.who=(aP r c).1.who:=by
     intro z hz
     have hzl:z.wait.length≤N:=by
      rcases hz with hz | rfl
      ·exact hN z hz
      ·exact Nat.zero_le _
     unfold eI.lock
     split
     ·refine⟨by rw[List.length_append];simp;omega,fun y hy=>?_⟩
      rcases List.mem_append.1 hy with hy | hy
      ·rcases hz with hz | rfl
       ·exact .inl ⟨z,hz,hy⟩
       ·cases hy
      ·rw[List.mem_singleton] at hy;exact .inr (by rw[hy])
     ·refine⟨by show z.wait.length≤_;omega,fun y hy=>?_⟩
      rcases hz with hz | rfl
      ·exact .inl ⟨z,hz,hy⟩
      ·cases hy
    refine hg _ ?_
    rw[List.getD_eq_getElem?_getD]
    cases e:ms[(aP r c).1.mutex.toNat]? with
    | none=>exact .inr rfl
    | some z=>exact .inl (List.mem_of_getElem? e)
  obtain⟨g1,g2⟩:=vW n c _ _ _ (N+1) (by omega) (fun x hx=>(hl x hx).1) x h
  refine⟨by omega,fun y hy=>?_⟩
  rcases g2 y hy with ⟨x',hx',hy'⟩ | ⟨z,hz,e⟩
  ·rcases(hl x' hx').2 y hy' with hh | hh
   ·exact .inl hh
   ·exact .inr ⟨_,h1,hh.symm⟩
  ·exact .inr ⟨z,h3 z hz,e⟩
theorem kU{g:Gates}{c ch:Int}{all:Bool}(h1:∀ x∈g.dh,x.wait.length≤400000)(h2:∀ r∈g.gZ,r.length≤400000):∀ x∈(g.signal c ch all).2.2.dh,x.wait.length≤1000000∧ ∀ y∈x.wait,g.has y.who:=by
 intro x hx
 unfold Gates.signal at hx
 split at hx
 ·exact⟨Nat.le_trans (h1 x hx) (by decide),fun y hy=>.inl ⟨x,hx,y,hy,rfl⟩⟩
 ·rename_i r e
  have hr:=List.mem_of_getElem? (bF e).2.2
  have hrl:=h2 r hr
  obtain⟨a,b⟩:=vW _ _ _ _ _ 400000 (by split <;> omega) h1 x hx
  have hif:(if all=true then r.length else min r.length 1)≤r.length:=by split <;> omega
  refine⟨by omega,fun y hy=>?_⟩
  rcases b y hy with ⟨x',hx',hy'⟩ | ⟨z,hz,e2⟩
  ·exact .inl ⟨x',hx',y,hy',rfl⟩
  ·exact .inr (.inl ⟨r,hr,z,hz,e2⟩)
end Go.SLYthlllpngkljgfaaGreat
namespace Go.SLYthlllpngkljgfaaGreat
open Go Go.RowKit
structure fj(s:Spc):Prop where
 lt:s.aF.length=16
 T:jo s.table
 R:∀ (n:Nat) (t:bE),s.aF[n]?=some (some t)→gV t∧0≤t.pc∧t.pc≤257
 slot:∀ (h:Int) (m:Nat),bz s.table h=some m→ ∃ t,s.aF[m]?=some (some t)
 free:∀ n:Nat,slotFree? s.table 0=some n→s.aF[n]?=some none
 join:∀ (n:Nat) (t:bE),s.aF[n]?=some (some t)→t.cQ=0→¬t.ay = -1→0≤t.ay∧t.ay.toNat≠n∧ ∃ u,s.aF[t.ay.toNat]?=some (some u)
 av:s.av.length≤800000000
 mem:s.mem.length≤1000000
 gl:gO s.al
 JJ:∀ x∈s.al.er,0≤x.count∧x.count≤1048576
 JK:∀ r∈s.al.gZ, ∀ w∈r,0≤w.mutex∧w.mutex<(s.al.dh.length:Int)
 iR:∀ w,s.al.has w→0≤w∧ ∃ u,s.aF[w.toNat]?=some (some u)
 JL:s.eT.bu≤(s.al.dh.length:Int)
 BE:(∀ x∈s.al.dh,x.wait.length≤400000)∧ ∀ r∈s.al.gZ,r.length≤400000
 code:∀ f∈s.eT.funcs, ∀ i∈f,nw i∧(cls i.op≠1→i.n≤1099511627776)∧(i.op=35∨i.op=36→i.n<(s.cc.length:Int))
 zO:s.eT.funcs.length≤1000000∧ ∀ f∈s.eT.funcs,f.length≤256
 tl:∀ u∈s.cc,tu u
 zN:∀ u∈s.cc,(∀ w∈u.gM,0≤w∧ ∃ v,s.aF[w.toNat]?=some (some v))∧(∀ x∈u.hM,0≤x.who∧ ∃ v,s.aF[x.who.toNat]?=some (some v))
 tw:∀ u∈s.cc, ∀ w∈u.words,0≤w∧w≤18446744073709551615
 dw:s.bZ.wait.length≤1000000
 db:∀ r∈s.bZ.wait,0≤r.block∧r.block<(s.bZ.blocks.length:Int)
 MS:∀ r∈s.bZ.wait,0≤r.who∧ ∃ v,s.aF[r.who.toNat]?=some (some v)
 wn:0≤s.aT.now∧s.aT.now≤1099511627776
 wl:s.aT.hU.length≤1000000
 MT:∀ x∈s.aT.hU,0≤x.1∧ ∃ v,s.aF[x.1.toNat]?=some (some v)
theorem fj.live{s:Spc}(h:fj s){ps:List (Option Nat)}(hs:xx ps s.aF){m:Nat}{t:bE}(e:s.aF[m]?=some (some t)):bM ps s m:=by
 obtain⟨q,hq⟩:=hs.2.1 m t e
 exact⟨h.lt ▸ (List.getElem?_eq_some_iff.1 e).1,q,t,hq,e,(h.R m t e).1⟩
theorem gV.mX{t:bE}(h:gV t)(hp:0≤t.pc∧t.pc≤257):CX t.mX:=⟨h.l,by show 0≤t.pc∧t.pc≤_;omega,h.r⟩
theorem fj.call{s:Spc}(h:fj s){ps:List (Option Nat)}(hs:xx ps s.aF){k:Nat}{t:bE}{i:Ins}{choice:Int}(ht:s.aF[k]?=some (some t))(hw:t.cQ=0)(hI:nw i)(hn:i.n≤1099511627776)(htub:i.op=35∨i.op=36→i.n<(s.cc.length:Int)) :
  iN ps ((s.dL k i choice).aV {t with pc:=t.pc+1 }) {t with pc:=t.pc+1 }:=by
 have hk16:k<16:=h.lt ▸ (List.getElem?_eq_some_iff.1 ht).1
 have hR:=(h.R k t ht).1
 have hR2:gV {t with pc:=t.pc+1 }:=⟨hR.l,hR.r,hR.i,hR.v,hR.h⟩
 have lv:∀ {m:Nat} {u:bE},s.aF[m]?=some (some u)→bM ps (s.aV k {t with pc:=t.pc+1 }) m:=fun e=>(h.live hs e).aV hR2
 refine⟨hk16,hR2,?_,hs.1.trans h.lt,h.T,fun x m e=>?_,fun n e=>?_,fun hj=>?_,hI,hn,Nat.le_trans h.av (by decide),Nat.zero_le _,Nat.zero_le _,h.mem,h.gl,h.JJ,h.JK,fun w hw=>?_,h.JL,h.BE,htub,h.tl,fun u hu=>⟨fun w hw=>?_,fun x hx=>?_⟩,h.tw,h.dw,h.wn⟩
 ·show(s.aF.set k _).length=16
  rw[List.length_set];exact h.lt
 ·obtain⟨u,hu⟩:=h.slot x m e;exact lv hu
 ·have:=h.free n e
  show(s.aF.set k _)[n]?=_
  rw[List.getElem?_set_ne (fun e=>by rw[e,this] at ht;cases ht)];exact this
 ·obtain⟨a,b,u,hu⟩:=h.join k t ht hw hj
  exact⟨a,b,lv hu⟩
 ·obtain⟨a,u,hu⟩:=h.iR w hw;exact⟨a,lv hu⟩
 ·obtain⟨a,u,hu⟩:=(h.zN u hu).1 w hw;exact⟨a,lv hu⟩
 ·obtain⟨a,u,hu⟩:=(h.zN u hu).2 x hx;exact⟨a,lv hu⟩
theorem fj.KL{s:Spc}(h:fj s){ps:List (Option Nat)}(hs:xx ps s.aF){k:Nat}{t:bE}(ht:s.aF[k]?=some (some t))(hw:t.cQ=0):¬t.ay = -1→0≤t.ay∧t.ay.toNat≠k∧bM ps s t.ay.toNat:=fun hj=>by
 obtain⟨a,b,u,hu⟩:=h.join k t ht hw hj
 exact⟨a,b,h.live hs hu⟩
theorem vX{s:Spc}(h:fj s){f:iP}{i:Ins}(e:dT s.eT f=some i):nw i∧(cls i.op≠1→i.n≤1099511627776)∧(i.op=35∨i.op=36→i.n<(s.cc.length:Int)):=by
 unfold dT at e
 split at e
 ·cases e
 ·have hi:=List.mem_of_getElem? e
  cases hf:s.eT.funcs[f.fn.toNat]? with
  | none=>rw[List.getD_eq_getElem?_getD,hf] at hi;cases hi
  | some g=>rw[List.getD_eq_getElem?_getD,hf] at hi;exact h.code g (List.mem_of_getElem? hf) i hi
theorem KM{s:Spc}{ps:List (Option Nat)}(hs:xx ps s.aF){n:Int}(h:Bt ps n=none)(hl:s.aF.length=16):s.at n=none:=by
 unfold Bt at h
 unfold Spc.at aB
 split
 ·rfl
 ·rename_i h0
  by_cases hn:n<16
  ·rw[if_pos ⟨by omega,hn⟩] at h
   obtain⟨x,hx⟩:=ak (show n.toNat<s.aF.length by omega)
   rw[hx]
   cases x with
   | none=>rfl
   | some t=>obtain⟨q,hq⟩:=hs.2.1 _ t hx;rw[bA hq] at h;cases h
  ·rw[List.getElem?_eq_none (by omega)];rfl
theorem G9{s:Spc}{ps:List (Option Nat)}(hs:xx ps s.aF){n:Int}{p:Nat}(h:Bt ps n=some p)(hl:s.aF.length=16):∃ k:Nat, ∃ t,n=(k:Int)∧k<16∧ps[k]?=some (some p)∧s.aF[k]?=some (some t)∧s.at n=some t:=by
 unfold Bt at h
 split at h
 ·rename_i h0
  have hp:ps[n.toNat]?=some (some p):=by
   rw[List.getD_eq_getElem?_getD] at h
   cases e:ps[n.toNat]? with
   | none=>rw[e] at h;cases h
   | some x=>rw[e] at h;simp only[Option.getD_some] at h;rw[h]
  obtain⟨x,hx⟩:=ak (show n.toNat<s.aF.length by omega)
  cases x with
  | none=>have:=hs.2.2 _ hx;rw[hp] at this;cases this
  | some t=>exact⟨n.toNat,t,by omega,by omega,hp,hx,by unfold Spc.at aB;rw[if_neg (by omega),hx];rfl⟩
 ·cases h
section
variable{P:Program}{W:World}
theorem Fn.NB{f:FuncId}{args:List Value}{X X1:Type}{val:X→Value}{fact:X→Prop}{p:X1→Prop}{A:X1→List aa}(h:∀ x,p x→Fn P W f args [seps (A x)] X val fact (fun _=>[seps (A x)])):Fn P W f args [iS p A] X val fact (fun _=>[iS p A]):=fun F w hs=>by
 have h1:Sat W w (sep (ex fun x:{x // p x }=>seps (A x.1)) F):=hs.mono (ba (fun g b=>by
  obtain⟨x,hx,b⟩:iS p A g:=by simpa only[seps,aJ] using b
  exact⟨⟨x,hx⟩,b⟩) (fun g b=>b))
 obtain⟨x,h2⟩:=h1.exists
 refine(h x.1 x.2 F w (by simpa only[seps,aJ] using h2)).mono ?_
 rintro e w' ⟨y,e1,e2,s⟩
 exact⟨y,e1,e2,s.mono (ba (fun g b=>by
  have b':seps (A x.1) g:=by simpa only[seps,aJ] using b
  show seps [iS p A] g
  simp only[seps,aJ]
  exact⟨x.1,x.2,b'⟩) (fun g b=>b))⟩
end
theorem zD{s:Spc}{n c:Int}(h:s.at n=none):s.run n c=(kO.z,1,s):=by unfold Spc.run;rw[h]
theorem zE{s:Spc}{n c:Int}{t:bE}(h:s.at n=some t)(hw:t.cQ≠0):s.run n c=(kO.z,4,s):=by unfold Spc.run;rw[h];simp only;rw[if_pos hw]
theorem Db{s:Spc}{k:Nat}{c:Int}{t:bE}(h:s.at (k:Int)=some t)(hw:¬t.cQ≠0)(hn:dT s.eT t.mX=none){z:Dng}(hz:z=((s.dL k ⟨23,0,0,0,0⟩ c).tell 0 0 0 true).fin 0):s.run (k:Int) c=(z.finish.1,0,z.finish.2):=by
 unfold Spc.run;rw[h];simp only;rw[if_neg hw,hn];subst hz;rfl
theorem vY{s:Spc}{k:Nat}{c:Int}{t:bE}{i:Ins}(h:s.at (k:Int)=some t)(hw:¬t.cQ≠0)(hn:dT s.eT t.mX=some i)(hc:cls i.op=1){z:Dng}(hz:z=(s.dL k i c).plain):s.run (k:Int) c=(z.finish.1,0,z.finish.2):=by
 unfold Spc.run;rw[h];simp only;rw[if_neg hw,hn];simp only;rw[if_pos hc];subst hz;rfl
theorem zF{s:Spc}{k:Nat}{c:Int}{t:bE}{i:Ins}(h:s.at (k:Int)=some t)(hw:¬t.cQ≠0)(hn:dT s.eT t.mX=some i)(hc:¬cls i.op=1){z:Dng}(hz:z=((s.dL k i c).aV {t with pc:=t.pc+1 }).call):s.run (k:Int) c=(z.finish.1,0,z.finish.2):=by
 unfold Spc.run;rw[h];simp only;rw[if_neg hw,hn];simp only;rw[if_neg hc];subst hz;rfl
theorem LC(t:bE)(x:Int):(bj t).set 1 (.int .i64 x)=bj {t with pc:=x }:=rfl
def zG(fv sv pv:Value)(p:fM):List Value:=[fv,.int .i64 p.words,.int .i64 p.bu,.int .i64 p.conds,sv,pv,.int .i64 p.blocks,.int .i64 p.prio]
end Go.SLYthlllpngkljgfaaGreat
namespace Go.SLYthlllpngkljgfaaGreat
open Go Go.RowKit
def eA(d e:Dng)(a n:Nat):Prop:=e.s.av.length≤d.s.av.length+a∧e.ends.length≤d.ends.length+n
theorem eA.refl{d:Dng}:eA d d 0 0:=⟨Nat.le_refl _,Nat.le_refl _⟩
theorem eA.up{d e:Dng}{a n a' n':Nat}(h:eA d e a n)(ha:a≤a')(hn:n≤n'):eA d e a' n':=⟨Nat.le_trans h.1 (by omega),Nat.le_trans h.2 (by omega)⟩
theorem eA.trans{d e f:Dng}{a n a' n':Nat}(h:eA d e a n)(k:eA e f a' n'):eA d f (a+a') (n+n'):=⟨by have:=h.1;have:=k.1;omega,by have:=h.2;have:=k.2;omega⟩
theorem eA.same{d e:Dng}(h1:e.s.av=d.s.av)(h2:e.ends=d.ends):eA d e 0 0:=⟨by rw[h1];exact Nat.le_refl _,by rw[h2];exact Nat.le_refl _⟩
theorem gC{d:Dng}{x y e:Int}{f:Bool}:eA d (d.tell x y e f) 1 0:=⟨by simp[Dng.tell,Spc.tell],Nat.le_refl _⟩
theorem bW{d:Dng}{x y e:Int}:eA d (d.pass x y e) 1 0:=⟨by simp[Dng.pass,Dng.aV,Spc.aV,Dng.tell,Spc.tell],Nat.le_refl _⟩
theorem fD{d:Dng}{w i x y:Int}:eA d (d.block w i x y) 1 0:=⟨by simp[Dng.block,Dng.aV,Spc.aV,Dng.tell,Spc.tell],Nat.le_refl _⟩
theorem mZ{d:Dng}{n:Nat}{y:Int}:eA d (d.cj n y) 0 1:=⟨by simp[Dng.cj,Spc.dI,Spc.aV],by simp[Dng.cj]⟩
theorem km{d:Dng}{v:Int}:eA d (d.fin v) 0 1:=by
 unfold Dng.fin
 split
 ·exact(eA.same rfl rfl).up (Nat.le_refl _) (by decide)
 ·split
  ·exact(eA.same rfl rfl).up (Nat.le_refl _) (by decide)
  ·exact(eA.same (d:=d) (e:=d.ended) rfl rfl).trans (mZ.trans (eA.same rfl rfl))
theorem nW{d:Dng}:eA d d.plain 1 1:=by
 unfold Dng.plain
 split
 ·have:∀ e:Dng,eA d e 1 0→ ∀ s:Spc,s.av=e.s.av→eA d {e with s:=s } 1 1:=fun e h s hs=>⟨by show s.av.length≤_;rw[hs];exact h.1,Nat.le_trans h.2 (by omega)⟩
  simp only
  refine this _ ?_ _ rfl
  split
  ·exact gC
  ·split
   ·exact gC
   ·exact eA.refl.up (by decide) (by decide)
 ·split
  ·exact gC.trans km
  ·exact gC.trans km
theorem nX{d:Dng}{n:Int}{ok:Bool}:eA d (d.given n ok) 0 1:=by
 unfold Dng.given
 split
 ·exact mZ
 ·exact eA.refl.up (by decide) (by decide)
theorem cy{d e f:Dng}{a n:Nat}(h:eA e f a n)(h1:e.s.av=d.s.av)(h2:e.ends=d.ends):eA d f a n:=⟨by rw[← h1];exact h.1,by rw[← h2];exact h.2⟩
theorem jv{s:Spc}{f a:Int}:(s.begin f a).2.2.av=s.av:=by
 unfold Spc.begin
 split <;> rfl
theorem Bv{d:Dng}:eA d d.spawn 1 1:=by
 unfold Dng.spawn
 refine eA.up (a:=1) (n:=0) ?_ (Nat.le_refl _) (by decide)
 exact cy bW (jv (s:=d.s) (f:=d.i.n) (a:=d.b)) rfl
theorem Ex{d:Dng}:eA d d.join 1 1:=by
 unfold Dng.join
 simp only
 repeat' split
 ·exact bW.up (Nat.le_refl _) (by decide)
 ·exact(cy bW rfl rfl).up (Nat.le_refl _) (by decide)
 ·exact(cy fD rfl rfl).up (Nat.le_refl _) (by decide)
theorem zH{d:Dng}:eA d d.fW 1 1:=by
 unfold Dng.fW
 simp only
 repeat' split
 ·exact bW.up (Nat.le_refl _) (by decide)
 ·exact(cy bW rfl rfl).up (Nat.le_refl _) (by decide)
 ·exact(cy bW rfl rfl).up (Nat.le_refl _) (by decide)
theorem Bw{d:Dng}:eA d d.mutex 1 1:=by
 unfold Dng.mutex
 simp only
 repeat' split
 ·exact(cy fD rfl rfl).up (Nat.le_refl _) (by decide)
 ·exact(cy bW rfl rfl).up (Nat.le_refl _) (by decide)
 ·exact cy (bW.trans nX) rfl rfl
 ·exact(cy bW rfl rfl).up (Nat.le_refl _) (by decide)
 ·exact cy (fD.trans nX) rfl rfl
theorem Ha{d:Dng}:eA d d.er 1 1:=by
 unfold Dng.er
 simp only
 repeat' split
 ·exact cy (bW.trans nX) rfl rfl
 ·exact(cy fD rfl rfl).up (Nat.le_refl _) (by decide)
 ·exact(cy bW rfl rfl).up (Nat.le_refl _) (by decide)
theorem zI{d:Dng}{b y i:Int}:eA d (d.ask b y i) 1 1:=by
 unfold Dng.ask
 simp only
 repeat' split
 ·exact(cy bW rfl rfl).up (Nat.le_refl _) (by decide)
 ·exact(cy fD rfl rfl).up (Nat.le_refl _) (by decide)
 ·exact bW.up (Nat.le_refl _) (by decide)
theorem Hb{d:Dng}:eA d d.put 1 1:=by
 unfold Dng.put
 simp only
 repeat' split
 ·exact(cy fD rfl rfl).up (Nat.le_refl _) (by decide)
 ·exact cy (bW.trans mZ) rfl rfl
 ·exact(cy bW rfl rfl).up (Nat.le_refl _) (by decide)
theorem Hc{d:Dng}:eA d d.get 1 1:=by
 unfold Dng.get
 simp only
 repeat' split
 ·exact(cy fD rfl rfl).up (Nat.le_refl _) (by decide)
 ·exact cy (bW.trans mZ) rfl rfl
 ·exact(cy bW rfl rfl).up (Nat.le_refl _) (by decide)
theorem Bx{d:Dng}:eA d d.sleep 1 1:=by
 unfold Dng.sleep
 simp only
 repeat' split
 ·exact bW.up (Nat.le_refl _) (by decide)
 ·exact bW.up (Nat.le_refl _) (by decide)
 ·exact(cy fD rfl rfl).up (Nat.le_refl _) (by decide)
theorem zJ{d:Dng}:eA d d.kernel 1 1:=by
 unfold Dng.kernel
 repeat' split
 ·exact zI
 ·exact zI
 ·exact Hb
 ·exact Hc
 ·exact Bx
 ·exact bW.up (Nat.le_refl _) (by decide)
theorem zK(s:Spc)(a:List Int):(cM s a).av=s.av:=by
 induction a generalizing s with
 | nil=>rfl
 | cons x l ih=>exact(ih _).trans rfl
theorem xV(d:Dng)(a:List Int):(d.dz a).s.av=d.s.av:=by
 induction a generalizing d with
 | nil=>rfl
 | cons x l ih=>exact(ih _).trans rfl
theorem By{d:Dng}{l:List Int}:eA d (d.lF l) 0 l.length:=by
 unfold Dng.lF
 refine⟨?_,?_⟩
 ·rw[xV];show(cM d.s d.waits).av.length≤_;rw[zK];exact Nat.le_refl _
 ·rw[(rh _ _).1];exact Nat.le_refl _
theorem qB{d:Dng}(h:∀ r∈d.s.al.gZ,r.length≤400000):eA d d.call 1 400001:=by
 unfold Dng.call
 simp only
 repeat' split
 ·exact Bv.up (Nat.le_refl _) (by decide)
 ·exact(cy bW rfl rfl).up (Nat.le_refl _) (by decide)
 ·exact(bW (d:=d)).up (Nat.le_refl _) (by decide)
 ·exact Ex.up (Nat.le_refl _) (by decide)
 ·exact zH.up (Nat.le_refl _) (by decide)
 ·exact(gC.trans km).up (Nat.le_refl _) (by decide)
 ·exact Bw.up (Nat.le_refl _) (by decide)
 ·exact(cy (bW.trans By) rfl rfl).up (Nat.le_refl _) (by have:=nV (c:=d.i.n) (ch:=d.choice) (all:=decide (d.i.op=29)) h;omega)
 ·exact Ha.up (Nat.le_refl _) (by decide)
 ·exact zJ.up (Nat.le_refl _) (by decide)
end Go.SLYthlllpngkljgfaaGreat
namespace Go.SLYthlllpngkljgfaaGreat
open Go Go.RowKit
section
variable{P:Program}
theorem fa {d : Nat} {xs ys : Array Value} {f : Field} {fs : List Field} {a b : Value} {r : Bool} {w : World} (hn : (f.name != "_") = true) (pa : Part P f.type xs f.offset a) (pb : Part P f.type ys f.offset b) (h : (Op.equalIn d f.type a b).run P w = .ok r w) :
  (Op.eqFields d xs ys (f::fs)).run P w=if r=true then (Op.eqFields d xs ys fs).run P w else .ok false w:=by
 simp only[Op.eqFields,Sem.run_bind,Sem.run_ite,pa w,pb w,Result.andThen_ok,h]
 cases r
 ·simp;intro e;simp[e] at hn
 ·simp
end
def Oz(t:bE):List Value:=[.int .u64 t.handle,.int .i64 t.cQ,.int .i64 t.fn,.int .i64 t.pc,.int .u64 (t.aI.getD 0 0),.int .u64 (t.aI.getD 1 0),.int .u64 (t.aI.getD 2 0),.int .u64 (t.aI.getD 3 0),.int .u64 (t.aI.getD 4 0),.int .u64 (t.aI.getD 5 0),.int .u64 (t.aI.getD 6 0),.int .u64 (t.aI.getD 7 0),.int .u64 t.value]
def OA:bE:=⟨0,0,[],0,0,0,false,0,0,0⟩
theorem Bz{s:Spc}{n:Int}(h:s.at n=none):s.class n=0:=by unfold Spc.class;rw[h]
theorem BA{s:Spc}{n:Int}{t:bE}(h:s.at n=some t)(hw:t.cQ≠0):s.class n=0:=by unfold Spc.class;rw[h];simp only;rw[if_pos hw]
theorem Ey{s:Spc}{n:Int}{t:bE}(h:s.at n=some t)(hw:¬t.cQ≠0)(hn:dT s.eT t.mX=none):s.class n=2:=by unfold Spc.class;rw[h];simp only;rw[if_neg hw,hn]
theorem BB{s:Spc}{n:Int}{t:bE}{i:Ins}(h:s.at n=some t)(hw:¬t.cQ≠0)(hn:dT s.eT t.mX=some i):s.class n=cls i.op:=by unfold Spc.class;rw[h];simp only;rw[if_neg hw,hn]
theorem Hd{d:kF}{k:Int}(h:(d.done k).2.2.1=true):(d.done k).1∈d.wait∧(d.done k).2.2.2.wait.length≤d.wait.length:=by
 unfold kF.done at h ⊢
 split at h
 ·cases h
 ·rename_i h0
  rw[if_neg h0]
  simp only
  have hm:d.wait.getD (pick k d.wait.length) ⟨0,0,false,0⟩∈d.wait:=by
   have:=kN (t:=k) (n:=d.wait.length) (by omega)
   rw[List.getD_eq_getElem?_getD,List.getElem?_eq_getElem this];exact List.getElem_mem _
  split
  ·exact⟨hm,by simp only;rw[List.length_eraseIdx];split <;> omega⟩
  ·exact⟨hm,by simp only;rw[List.length_eraseIdx];split <;> omega⟩
theorem LD{b:Nat}{x:Int}:∀ h,seps [arr b 0 [.int .i64 x]] h→sl au 1 (.slice (some ⟨b,0,none⟩) 1 1) [x] h:=fun h a=>by
 have a:arr b 0 [.int .i64 x] h:=by simpa only[seps,aJ] using a
 exact .inr ⟨b,1,[],rfl,Nat.le_refl _,fun _ _=>rfl,rfl,a⟩
theorem Ez{d:kF}{k:Int}(h:(d.done k).2.2.1=false):(d.done k).2.2.2=d:=by
 by_cases h0:d.wait.length=0
 ·rw[qw h0]
 ·cases hw:(d.wait.getD (pick k d.wait.length) xN).write with
  | true=>rw[nR h0 rfl hw] at h;cases h
  | false=>rw[qx h0 rfl hw] at h;cases h
theorem ri{s:Spc}{k:Int}(h:(s.bZ.done k).2.2.1=false):s.done k=(kO.z,3,s):=by unfold Spc.done;simp only;rw[if_pos h]
theorem rj{s:Spc}{k:Int}{t:bE}(h:(s.bZ.done k).2.2.1=true)(ht:s.aF[(s.bZ.done k).1.who.toNat]?=some (some t)) :
  s.done k=(⟨[(s.bZ.done k).1.who],false,false,false⟩,0,(({s with bZ:=(s.bZ.done k).2.2.2 }:Spc).dI (s.bZ.done k).1.who.toNat (s.bZ.done k).2.1).tell (t.jV (s.bZ.done k).2.1)):=by
 unfold Spc.done;simp only;rw[if_neg (by rw[h];simp),show({s with bZ:=(s.bZ.done k).2.2.2 }:Spc).t (s.bZ.done k).1.who.toNat=t from dM ht]
theorem xW(s:Spc)(a:List Int)(n:Int):cI s (a++[n])=((cI s a).dI n.toNat 0).tell (((cI s a).t n.toNat).jV 0):=by
 induction a generalizing s with
 | nil=>rfl
 | cons x l ih=>exact ih _
theorem xX{ps:List (Option Nat)}(m:Nat)(a:List Int):∀ (s:Spc),bM ps s m→(∀ w∈a,bM ps s w.toNat)→bM ps (cI s a) m:=by
 induction a with
 | nil=>intro d h _;exact h
 | cons x l ih =>
  intro s h ha
  obtain⟨hn16,q,u,hq,hu,hR⟩:=ha x List.mem_cons_self
  have key:∀ {k:Nat},bM ps s k→bM ps ((s.dI x.toNat 0).tell ((s.t x.toNat).jV 0)) k:=fun hk=>by
   have:=hk.aV (n:=x.toNat) (hR.fy (y:=0) (by decide))
   refine bM.of (s:=s.aV x.toNat (u.fy 0)) this ?_
   unfold Spc.tell Spc.dI;rw[dM hu]
  exact ih _ (key h) (fun w hw=>key (ha w (List.mem_cons_of_mem _ hw)))
theorem pf(s:Spc)(a:List Int):(cI s a).av.length=s.av.length+a.length:=by
 induction a generalizing s with
 | nil=>rfl
 | cons x l ih =>
  show(cI _ l).av.length=_
  rw[ih];simp[Spc.tell,Spc.dI,Spc.aV];omega
theorem JH{w:lJ}{x:Int}(h:x∈w.due):∃ y∈w.hU,y.1=x:=by
 unfold lJ.due at h
 have hs:∀ (l:List Int),x∈gy l→x∈l:=by
  intro l
  induction l with
  | nil=>exact fun h=>h
  | cons a l ih =>
   intro h
   have hi:∀ (m:List Int),x∈cX a m→x=a∨x∈m:=by
    intro m
    induction m with
    | nil=>intro h;rcases List.mem_singleton.1 h with rfl;exact .inl rfl
    | cons b m ihm =>
     intro h
     unfold cX at h
     split at h
     ·rcases List.mem_cons.1 h with h | h
      ·exact .inl h
      ·exact .inr h
     ·rcases List.mem_cons.1 h with h | h
      ·exact .inr (h ▸ List.mem_cons_self)
      ·rcases ihm h with h | h
       ·exact .inl h
       ·exact .inr (List.mem_cons_of_mem _ h)
   rcases hi _ h with h | h
   ·rw[h];exact List.mem_cons_self
   ·exact List.mem_cons_of_mem _ (ih h)
 obtain⟨y,hy,e⟩:=List.mem_map.1 (hs _ h)
 exact⟨y,(List.mem_filter.1 hy).1,e⟩
theorem EA(l:List Int):(gy l).length=l.length:=by
 induction l with
 | nil=>rfl
 | cons a l ih =>
  have hi:∀ (m:List Int),(cX a m).length=m.length+1:=by
   intro m
   induction m with
   | nil=>rfl
   | cons b m ihm=>unfold cX;split <;> simp[ihm]
  show(cX a (gy l)).length=_
  rw[hi,ih,List.length_cons]
theorem pg(w:lJ):w.due.length≤w.hU.length:=by
 unfold lJ.due;rw[EA,List.length_map];exact List.length_filter_le ..
end Go.SLYthlllpngkljgfaaGreat
namespace Go.SLYthlllpngkljgfaaGreat
open Go Go.RowKit
def ma{α:Type}(f:α→Nat)(l:List α):Nat:=(l.map f).sum
theorem gh{α:Type}{f:α→Nat}:∀ {l:List α} {i:Nat} {x:α} (y:α),l[i]?=some x→ma f (l.set i y)+f x=ma f l+f y
 | a::l,0,x,y,h=>by
  obtain rfl:a=x:=by simpa using h
  simp[ma];omega
 | a::l,i+1,x,y,h=>by
  have:=gh (f:=f) (l:=l) (i:=i) y (by simpa using h)
  simp[ma] at this ⊢;omega
theorem eD{α:Type}{f:α→Nat}:∀ {l:List α} {x:α},x∈l→f x≤ma f l
 | a::l,x,h=>by
  rcases List.mem_cons.1 h with rfl | h
  ·simp[ma]
  ·have:=eD (f:=f) h
   simp[ma] at this ⊢;omega
theorem qC{α:Type}{f:α→Nat}{l:List α}(h:∀ x∈l,f x=0):ma f l=0:=by
 induction l with
 | nil=>rfl
 | cons a l ih =>
  have:=ih (fun x hx=>h x (List.mem_cons_of_mem _ hx))
  have:=h a List.mem_cons_self
  simp[ma] at *;omega
theorem kV{α:Type}{P:α→Bool}:∀ {l:List α} {i:Nat} {x:α},l[i]?=some x→(l.eraseIdx i).countP P+(if P x=true then 1 else 0)=l.countP P
 | a::l,0,x,h=>by
  obtain rfl:a=x:=by simpa using h
  simp[List.countP_cons]
 | a::l,i+1,x,h=>by
  have:=kV (P:=P) (l:=l) (i:=i) (x:=x) (by simpa using h)
  simp[List.countP_cons] at this ⊢;omega
def KN(w:Int)(x:eS):Bool:=decide (x.who=w)
def dK(w:Int)(l:List eS):Nat:=l.countP (KN w)
def cG(g:Gates)(w:Int):Nat:=ma (fun m:eI=>dK w m.wait) g.dh+ma (dK w) g.gZ+ma (fun m:kz=>dK w m.wait) g.er
def cU(w:Int)(u:Tub):Nat:=u.gM.count w+u.hM.countP fun x=>decide (x.who=w)
def cT(l:List Tub)(w:Int):Nat:=ma (cU w) l
def cD(d:kF)(w:Int):Nat:=d.wait.countP fun r=>decide (r.who=w)
def cL(u:lJ)(w:Int):Nat:=u.hU.countP fun x=>decide (x.1=w)
def jn(w:Int):Option bE→Nat
 | none=>0
 | some t=>if t.ay=w∧¬w = -1 then 1 else 0
def cJ(l:List (Option bE))(w:Int):Nat:=ma (jn w) l
def ny(s:Spc)(w:Int):Nat:=cG s.al w+cT s.cc w+cD s.bZ w+cL s.aT w+cJ s.aF w
def bT(t:bE):Nat:=if t.cQ=0∨t.cQ=9 then 0 else 1
def bO:Option bE→Nat
 | none=>0
 | some t=>bT t
def rO:Option bE→Nat
 | none=>0
 | some t=>if t.cQ=0 then 1 else 0
def dP(s:Spc)(w:Int):Nat:=bO (s.at w)
def cY(s:Spc)(w:Int):Nat:=rO (s.at w)
def fL(x:Int):Prop:=0≤x∧x≤18446744073709551615
structure rY(p:fM)(g:Gates):Prop where
 m:g.dh.length=p.bu.toNat
 c:g.gZ.length=p.conds.toNat
 s:g.er.length=p.bI.length
 sc:∀ x∈g.er,0≤x.count∧x.count≤1048576
 cm:∀ r∈g.gZ, ∀ w∈r,0≤w.mutex∧w.mutex<(g.dh.length:Int)
structure KO(u:Tub):Prop where
 r:u.room≤8
 l:u.words.length≤8
 w:∀ x∈u.words,fL x
 p:∀ x∈u.hM,fL x.x
structure BC(d:kF):Prop where
 l:d.blocks.length≤64
 b:∀ x∈d.blocks,fL x
 w:∀ r∈d.wait,0≤r.block∧r.block<(d.blocks.length:Int)∧fL r.x
structure LF(o:Bool×Int)(n:Nat)(t:bE):Prop where
 h:t.handle=ei o.2 n
 R:gV t
 pc:0≤t.pc∧t.pc≤257
 d:t.bK=true→t.ay = -1
 f:t.cQ=9→t.ay = -1
def He(p:fM):Prop:=de p=0∧ ∀ f∈p.funcs, ∀ i∈f,fL i.n
structure Ok(k:Nat)(s:Spc)(p q:List Int):Prop where
 Df:He s.eT
 lt:s.aF.length=16
 ll:s.table.length=16
 tk:∀ o∈s.table,0≤o.2∧o.2≤(k:Int)
 us:∀ n:Nat,n<16→((s.table.getD n (false,0)).1=true↔ ∃ t,s.aF[n]?=some (some t))
 th:∀ (n:Nat) (t:bE),s.aF[n]?=some (some t)→LF (s.table.getD n (false,0)) n t
 me:s.mem.length=s.eT.words.toNat∧ ∀ x∈s.mem,fL x
 gt:rY s.eT s.al
 tb:s.cc.length=s.eT.aZ.length∧ ∀ u∈s.cc,KO u
 dk:BC s.bZ
 wl:0≤s.aT.now∧s.aT.now≤1099511627776
 rI:∀ w,ny s w+p.count w=dP s w+q.count w
/-! who is at a place -/
theorem nY{s:Spc}{n:Nat}:s.at (n:Int)=(s.aF[n]?).getD none:=by
 unfold Spc.at aB;rw[if_neg (by omega),Int.toNat_natCast]
theorem xY{s:Spc}{w:Int}(h:w<0):s.at w=none:=by unfold Spc.at aB;rw[if_pos h];rfl
theorem nZ{s:Spc}{n:Nat}{o:Option bE}(hn:n<s.aF.length)(w:Int):({s with aF:=s.aF.set n o }:Spc).at w=if w=(n:Int) then o else s.at w:=by
 by_cases h0:w<0
 ·rw[xY h0,xY h0,if_neg (by omega)]
 ·obtain⟨m,rfl⟩:∃ m:Nat,w=(m:Int):=⟨w.toNat,by omega⟩
  rw[nY,nY]
  simp only
  by_cases e:m=n
  ·subst e;rw[List.getElem?_set_self hn,if_pos rfl];rfl
  ·rw[List.getElem?_set_ne (fun h=>e h.symm),if_neg (by omega)]
theorem Dc{s:Spc}{n:Nat}{t:bE}(h:s.aF[n]?=some (some t)):s.at (n:Int)=some t:=by rw[nY,h];rfl
theorem iQ{s:Spc}{w:Int}{t:bE}(h:s.at w=some t):0≤w∧s.aF[w.toNat]?=some (some t):=by
 by_cases h0:w<0
 ·rw[xY h0] at h;cases h
 ·obtain⟨m,rfl⟩:∃ m:Nat,w=(m:Int):=⟨w.toNat,by omega⟩
  rw[nY] at h
  refine⟨by omega,?_⟩
  rw[Int.toNat_natCast]
  cases e:s.aF[m]? with
  | none=>rw[e] at h;cases h
  | some o=>rw[e] at h;exact congrArg some h
theorem jO{s:Spc}{w:Int}(h:0<dP s w):∃ t,s.at w=some t∧t.cQ≠0∧t.cQ≠9:=by
 unfold dP bO at h
 cases e:s.at w with
 | none=>rw[e] at h;exact absurd h (by simp)
 | some t =>
  rw[e] at h;simp only[bT] at h
  split at h
  ·exact absurd h (by simp)
  ·exact⟨t,rfl,by omega,by omega⟩
theorem Hf{s:Spc}{w:Int}:dP s w≤1:=by
 unfold dP bO
 split
 ·omega
 ·unfold bT;split <;> omega
theorem n8{t:bE}(h:t.cQ=0):bT t=0:=by unfold bT;rw[if_pos (.inl h)]
theorem jX{t:bE}(h:t.cQ≠0)(h9:t.cQ≠9):bT t=1:=by unfold bT;rw[if_neg (by omega)]
/-! steps that keep a space in order -/
section
variable{k:Nat}{s:Spc}{p q:List Int}
theorem Ok.av(h:Ok k s p q)(l:List Rec):Ok k {s with av:=l } p q:=⟨h.Df,h.lt,h.ll,h.tk,h.us,h.th,h.me,h.gt,h.tb,h.dk,h.wl,h.rI⟩
theorem Ok.LG(h:Ok k s p q){p' q':List Int}(e:∀ w,p'.count w+q.count w=p.count w+q'.count w):Ok k s p' q':=⟨h.Df,h.lt,h.ll,h.tk,h.us,h.th,h.me,h.gt,h.tb,h.dk,h.wl,fun w=>by have:=h.rI w;have:=e w;omega⟩
theorem Ok.more(h:Ok k s p q){k':Nat}(hk:k≤k'):Ok k' s p q:=⟨h.Df,h.lt,h.ll,fun o ho=>by have:=h.tk o ho;omega,h.us,h.th,h.me,h.gt,h.tb,h.dk,h.wl,h.rI⟩
theorem Ok.mem(h:Ok k s p q){m:List Int}(hl:m.length=s.mem.length)(hw:∀ x∈m,fL x):Ok k {s with mem:=m } p q:=⟨h.Df,h.lt,h.ll,h.tk,h.us,h.th,⟨hl.trans h.me.1,hw⟩,h.gt,h.tb,h.dk,h.wl,h.rI⟩
theorem Ok.al(h:Ok k s p q){g:Gates}(hg:rY s.eT g){p' q':List Int}(e:∀ w,cG g w+p'.count w+q.count w=cG s.al w+p.count w+q'.count w):Ok k {s with al:=g } p' q' :=
 ⟨h.Df,h.lt,h.ll,h.tk,h.us,h.th,h.me,hg,h.tb,h.dk,h.wl,fun w=>by
  have h1:=h.rI w;have h2:=e w
  have h3:dP {s with al:=g } w=dP s w:=rfl
  rw[h3];unfold ny at h1 ⊢;simp only;omega⟩
theorem Ok.cc(h:Ok k s p q){l:List Tub}(hl:l.length=s.cc.length)(hu:∀ u∈l,KO u){p' q':List Int}(e:∀ w,cT l w+p'.count w+q.count w=cT s.cc w+p.count w+q'.count w):Ok k {s with cc:=l } p' q' :=
 ⟨h.Df,h.lt,h.ll,h.tk,h.us,h.th,h.me,h.gt,⟨hl.trans h.tb.1,hu⟩,h.dk,h.wl,fun w=>by
  have h1:=h.rI w;have h2:=e w
  have h3:dP {s with cc:=l } w=dP s w:=rfl
  rw[h3];unfold ny at h1 ⊢;simp only;omega⟩
theorem Ok.bZ(h:Ok k s p q){d:kF}(hd:BC d){p' q':List Int}(e:∀ w,cD d w+p'.count w+q.count w=cD s.bZ w+p.count w+q'.count w):Ok k {s with bZ:=d } p' q' :=
 ⟨h.Df,h.lt,h.ll,h.tk,h.us,h.th,h.me,h.gt,h.tb,hd,h.wl,fun w=>by
  have h1:=h.rI w;have h2:=e w
  have h3:dP {s with bZ:=d } w=dP s w:=rfl
  rw[h3];unfold ny at h1 ⊢;simp only;omega⟩
theorem Ok.aT(h:Ok k s p q){u:lJ}(hu:0≤u.now∧u.now≤1099511627776){p' q':List Int}(e:∀ w,cL u w+p'.count w+q.count w=cL s.aT w+p.count w+q'.count w):Ok k {s with aT:=u } p' q' :=
 ⟨h.Df,h.lt,h.ll,h.tk,h.us,h.th,h.me,h.gt,h.tb,h.dk,hu,fun w=>by
  have h1:=h.rI w;have h2:=e w
  have h3:dP {s with aT:=u } w=dP s w:=rfl
  rw[h3];unfold ny at h1 ⊢;simp only;omega⟩
theorem Ok.aV(h:Ok k s p q){n:Nat}{t t':bE}(ht:s.aF[n]?=some (some t))(hh:LF (s.table.getD n (false,0)) n t'){p' q':List Int}
  (e:∀ w,jn w (some t')+(if w=(n:Int) then bT t else 0)+p'.count w+q.count w=jn w (some t)+(if w=(n:Int) then bT t' else 0)+p.count w+q'.count w):Ok k (s.aV n t') p' q':=by
 have hn:n<s.aF.length:=(List.getElem?_eq_some_iff.1 ht).1
 refine⟨h.Df,?_,h.ll,h.tk,fun m hm=>?_,fun m u hu=>?_,h.me,h.gt,h.tb,h.dk,h.wl,fun w=>?_⟩
 ·show(s.aF.set n _).length=16;rw[List.length_set];exact h.lt
 ·refine(h.us m hm).trans ?_
  show(∃ t,s.aF[m]?=_)↔ ∃ t,(s.aF.set n (some t'))[m]?=_
  by_cases e:n=m
  ·subst e;rw[List.getElem?_set_self hn];exact⟨fun _=>⟨_,rfl⟩,fun _=>⟨_,ht⟩⟩
  ·rw[List.getElem?_set_ne e]
 ·have hu:(s.aF.set n (some t'))[m]?=some (some u):=hu
  by_cases e:n=m
  ·subst e;rw[List.getElem?_set_self hn] at hu;cases hu;exact hh
  ·rw[List.getElem?_set_ne e] at hu;exact h.th m u hu
 ·have h1:=h.rI w;have h2:=e w
  have h3:cJ (s.aV n t').aF w+jn w (some t)=cJ s.aF w+jn w (some t'):=gh (f:=jn w) (some t') ht
  have h4:dP (s.aV n t') w+(if w=(n:Int) then bT t else 0)=dP s w+(if w=(n:Int) then bT t' else 0):=by
   unfold dP
   rw[show(s.aV n t').at w=_ from nZ hn w]
   by_cases e:w=(n:Int)
   ·subst e;simp only[if_pos];rw[Dc ht];simp only[bO];omega
   ·simp only[if_neg e]
  have h5:ny (s.aV n t') w=cG s.al w+cT s.cc w+cD s.bZ w+cL s.aT w+cJ (s.aV n t').aF w:=rfl
  rw[h5];unfold ny at h1;omega
end
end Go.SLYthlllpngkljgfaaGreat
namespace Go.SLYthlllpngkljgfaaGreat
open Go Go.RowKit
section
variable{k:Nat}{s:Spc}{p q:List Int}
theorem Hg{l:List (Bool×Int)}{n:Nat}(hn:n<16)(hl:l.length=16)(h1:(l.getD n (false,0)).1=true)(_h0:0≤(l.getD n (false,0)).2):bz l (ei (l.getD n (false,0)).2 n)=some n:=by
 unfold bz
 have e:ei (l.getD n (false,0)).2 n % 65536=(n:Int)+1:=by unfold ei;omega
 rw[e,if_neg (by omega),show((n:Int)+1-1).toNat=n from by omega]
 have hx:=getD_some (d:=(false,(0:Int))) (show n<l.length by omega)
 rw[hx]
 simp only
 rw[if_pos (by simp only[and_true];exact h1)]
theorem Ok.Hh(h:Ok k s p q){n:Nat}{t:bE}(ht:s.aF[n]?=some (some t)):s.free n = {s with table:=s.table.set n (false,(s.table.getD n (false,0)).2),aF:=s.aF.set n none }:=by
 have hn:n<16:=h.lt ▸ (List.getElem?_eq_some_iff.1 ht).1
 have hx:=getD_some (d:=(false,(0:Int))) (show n<s.table.length by rw[h.ll];exact hn)
 have h0:=h.tk _ (List.mem_of_getElem? hx)
 unfold Spc.free
 rw[dM ht,(h.th n t ht).h,tn (Hg hn h.ll ((h.us n hn).2 ⟨t,ht⟩) h0.1)]
 rfl
theorem Ok.free(h:Ok k s p q){n:Nat}{t:bE}(ht:s.aF[n]?=some (some t)){p' q':List Int}
  (e:∀ w,(if w=(n:Int) then bT t else 0)+p'.count w+q.count w=jn w (some t)+p.count w+q'.count w):Ok k (s.free n) p' q':=by
 have hn:n<s.aF.length:=(List.getElem?_eq_some_iff.1 ht).1
 have hn16:n<16:=h.lt ▸ hn
 have hlt:n<s.table.length:=by rw[h.ll];exact hn16
 have hx:=getD_some (d:=(false,(0:Int))) hlt
 rw[h.Hh ht]
 refine⟨h.Df,?_,?_,fun o ho=>?_,fun m hm=>?_,fun m u hu=>?_,h.me,h.gt,h.tb,h.dk,h.wl,fun w=>?_⟩
 ·show(s.aF.set n _).length=16;rw[List.length_set];exact h.lt
 ·show(s.table.set n _).length=16;rw[List.length_set];exact h.ll
 ·rcases List.mem_or_eq_of_mem_set ho with ho | rfl
  ·exact h.tk o ho
  ·show 0≤(s.table.getD n (false,0)).2∧_
   exact h.tk _ (List.mem_of_getElem? hx)
 ·show((s.table.set n _).getD m (false,0)).1=true↔ ∃ t,(s.aF.set n none)[m]?=_
  by_cases e:n=m
  ·subst e
   rw[List.getElem?_set_self hn,List.getD_eq_getElem?_getD,List.getElem?_set_self hlt]
   exact⟨fun h=>(by cases h),fun⟨t,h⟩=>(by cases h)⟩
  ·rw[List.getElem?_set_ne e,List.getD_eq_getElem?_getD,List.getElem?_set_ne e, ← List.getD_eq_getElem?_getD]
   exact h.us m hm
 ·have hu:(s.aF.set n none)[m]?=some (some u):=hu
  by_cases e:n=m
  ·subst e;rw[List.getElem?_set_self hn] at hu;cases hu
  ·rw[List.getElem?_set_ne e] at hu
   show LF ((s.table.set n _).getD m (false,0)) m u
   rw[List.getD_eq_getElem?_getD,List.getElem?_set_ne e, ← List.getD_eq_getElem?_getD]
   exact h.th m u hu
 ·have h1:=h.rI w;have h2:=e w
  have h3:cJ (s.aF.set n none) w+jn w (some t)=cJ s.aF w+0:=gh (f:=jn w) none ht
  have h4:dP {s with aF:=s.aF.set n none } w+(if w=(n:Int) then bT t else 0)=dP s w:=by
   unfold dP
   rw[nZ hn w]
   by_cases e:w=(n:Int)
   ·subst e;simp only[if_pos];rw[Dc ht];simp only[bO];omega
   ·simp only[if_neg e];omega
  have h5:dP {s with table:=s.table.set n (false,(s.table.getD n (false,0)).2),aF:=s.aF.set n none } w=dP {s with aF:=s.aF.set n none } w:=rfl
  rw[h5]
  unfold ny at h1 ⊢
  simp only
  omega
theorem Ok.begin(h:Ok k s p q)(hk:k≤1000000){f arg:Int}(ha:fL arg):Ok (k+1) (s.begin f arg).2.2 p q:=by
 cases hf:slotFree? s.table 0 with
 | none=>rw[j9 hf];exact h.more (Nat.le_succ _)
 | some n =>
  have hfr:∀ (l:List (Bool×Int)) (i n:Nat),slotFree? l i=some n→i≤n∧ ∃ o,l[n-i]?=some o∧o.1=false:=by
   intro l
   induction l with
   | nil=>intro i n h;cases h
   | cons o l ih =>
    intro i n h
    unfold slotFree? at h
    split at h
    ·obtain⟨a,o',b,c⟩:=ih (i+1) n h
     exact⟨by omega,o',by rw[show n-i=(n-(i+1))+1 from by omega];simpa using b,c⟩
    ·cases h;rename_i hb
     exact⟨Nat.le_refl _,o,by simp,by simpa using hb⟩
  obtain⟨-,o,ho,ho1⟩:=hfr _ _ _ hf
  rw[Nat.sub_zero] at ho
  have hlt:n<s.table.length:=(List.getElem?_eq_some_iff.1 ho).1
  have hn16:n<16:=h.ll ▸ hlt
  have hn:n<s.aF.length:=by rw[h.lt];exact hn16
  have hgd:s.table.getD n (false,0)=o:=by rw[List.getD_eq_getElem?_getD,ho];rfl
  have hno:s.aF[n]?=some none:=by
   obtain⟨x,hx⟩:=ak hn
   cases x with
   | none=>exact hx
   | some t=>have:=(h.us n hn16).2 ⟨t,hx⟩;rw[hgd,ho1] at this;cases this
  have htk:=h.tk o (List.mem_of_getElem? ho)
  rw[eU hf,hgd]
  refine⟨h.Df,?_,?_,fun o' ho'=>?_,fun m hm=>?_,fun m u hu=>?_,h.me,h.gt,h.tb,h.dk,h.wl,fun w=>?_⟩
  ·show(s.aF.set n _).length=16;rw[List.length_set];exact h.lt
  ·show(s.table.set n _).length=16;rw[List.length_set];exact h.ll
  ·rcases List.mem_or_eq_of_mem_set ho' with ho' | rfl
   ·have:=h.tk o' ho';omega
   ·show 0≤o.2+1∧o.2+1≤((k+1:Nat):Int);omega
  ·show((s.table.set n _).getD m (false,0)).1=true↔ ∃ t,(s.aF.set n _)[m]?=_
   by_cases e:n=m
   ·subst e
    rw[List.getElem?_set_self hn,List.getD_eq_getElem?_getD,List.getElem?_set_self hlt]
    exact⟨fun _=>⟨_,rfl⟩,fun _=>rfl⟩
   ·rw[List.getElem?_set_ne e,List.getD_eq_getElem?_getD,List.getElem?_set_ne e, ← List.getD_eq_getElem?_getD]
    exact h.us m hm
  ·have hu:(s.aF.set n _)[m]?=some (some u):=hu
   by_cases e:n=m
   ·subst e;rw[List.getElem?_set_self hn] at hu;cases hu
    show LF ((s.table.set n _).getD n (false,0)) n _
    rw[List.getD_eq_getElem?_getD,List.getElem?_set_self hlt]
    refine⟨rfl,⟨rfl,fun m=>?_,by show(-1:Int)≤ -1∧(-1:Int)<8;decide,by show(0:Int)≤0∧(0:Int)≤_;decide,?_⟩,by show(0:Int)≤0∧(0:Int)≤257;decide,fun h=>(by cases h),fun h=>rfl⟩
    ·have h0:(0:Int)≤0∧(0:Int)≤18446744073709551615:=by decide
     show 0≤([arg,0,0,0,0,0,0,0]:List Int).getD m 0∧_
     match m with
     | 0=>exact ha
     | 1=>exact h0
     | 2=>exact h0
     | 3=>exact h0
     | 4=>exact h0
     | 5=>exact h0
     | 6=>exact h0
     | 7=>exact h0
     | m+8=>exact h0
    ·show 0≤ei (o.2+1) n∧ei (o.2+1) n≤_;unfold ei;omega
   ·rw[List.getElem?_set_ne e] at hu
    show LF ((s.table.set n _).getD m (false,0)) m u
    rw[List.getD_eq_getElem?_getD,List.getElem?_set_ne e, ← List.getD_eq_getElem?_getD]
    exact h.th m u hu
  ·have h1:=h.rI w
   have h3:cJ (s.aF.set n (some (rG f arg (ei (o.2+1) n)))) w+0=cJ s.aF w+jn w (some (rG f arg (ei (o.2+1) n))):=gh (f:=jn w) _ hno
   have hj:jn w (some (rG f arg (ei (o.2+1) n)))=0:=by unfold jn;exact if_neg (by rintro⟨a,b⟩;exact b a.symm)
   have h4:dP {s with aF:=s.aF.set n (some (rG f arg (ei (o.2+1) n))) } w=dP s w:=by
    unfold dP
    rw[nZ hn w]
    by_cases e:w=(n:Int)
    ·subst e;simp only[if_pos];rw[nY,hno];rfl
    ·simp only[if_neg e]
   have h5:dP {s with table:=s.table.set n (true,o.2+1),aF:=s.aF.set n (some (rG f arg (ei (o.2+1) n))) } w=dP {s with aF:=s.aF.set n (some (rG f arg (ei (o.2+1) n))) } w:=rfl
   rw[h5]
   unfold ny at h1 ⊢
   simp only
   omega
end
end Go.SLYthlllpngkljgfaaGreat
namespace Go.SLYthlllpngkljgfaaGreat
open Go Go.RowKit
def opn(V:List Rec)(h:Int):Option Int:=match (V.filter fun r=>decide (r.ab=h)).getLast? with | none=>none | some r=>if r.fin=true then none else some r.op
theorem Hi{V:List Rec}{r:Rec}{h:Int}(e:r.ab=h):opn (V++[r]) h=if r.fin=true then none else some r.op:=by
 unfold opn;rw[List.filter_append];simp[e]
theorem EB{V:List Rec}{r:Rec}{h:Int}(e:r.ab≠h):opn (V++[r]) h=opn V h:=by
 unfold opn;rw[List.filter_append];simp[e]
def tH(V:List Rec):Prop:=∀ a r b,V=a++r::b→ ∀ op,opn a r.ab=some op→r.fin=true∧r.op=op∧r.x=0∧r.result=0
theorem tH.nil:tH []:=fun a r b e=>by cases a <;> cases e
theorem tH.snoc{V:List Rec}{r:Rec}(h:tH V)(hr:∀ op,opn V r.ab=some op→r.fin=true∧r.op=op∧r.x=0∧r.result=0):tH (V++[r]):=fun a q b e=>by
 rcases List.eq_nil_or_concat b with rfl | ⟨b',z,rfl⟩
 ·have:=List.append_inj' e rfl
  obtain⟨rfl,h2⟩:=this
  cases h2
  exact hr
 ·rw[List.concat_eq_append, ← List.cons_append, ← List.append_assoc] at e
  have:=List.append_inj' e rfl
  exact h a q b' this.1
structure dW(s:Spc)(V:List Rec):Prop where
 pr:tH V
 op:∀ (n:Nat) (t:bE),s.aF[n]?=some (some t)→opn V t.handle=if bT t=1 then some t.op else none
 hd:∀ r∈V, ∃ (n:Nat) (k:Int),n<16∧r.ab=ei k n∧k≤(s.table.getD n (false,0)).2
theorem vZ{a b:Int}{n m:Nat}(hn:n<16)(hm:m<16)(h:ei a n=ei b m):n=m∧a=b:=by unfold ei at h;omega
section
variable{k:Nat}{s:Spc}{p q:List Int}{V:List Rec}{n:Nat}{t t':bE}
theorem dW.of(h:dW s V){s':Spc}(e1:s'.aF=s.aF)(e2:s'.table=s.table):dW s' V:=⟨h.pr,fun n t ht=>h.op n t (by rw[← e1];exact ht),fun r hr=>by rw[e2];exact h.hd r hr⟩
theorem EC(hO:Ok k s p q){m:Nat}{u:bE}(ht:s.aF[n]?=some (some t))(hu:s.aF[m]?=some (some u))(hne:n≠m):t.handle≠u.handle:=fun e=>by
 rw[(hO.th n t ht).h,(hO.th m u hu).h] at e
 exact hne (vZ (hO.lt ▸ (List.getElem?_eq_some_iff.1 ht).1) (hO.lt ▸ (List.getElem?_eq_some_iff.1 hu).1) e).1
theorem dW.xZ(h:dW s V)(hO:Ok k s p q)(ht:s.aF[n]?=some (some t)){r:Rec}(hr:r.ab=t.handle)(hh:t'.handle=t.handle)(hp:∀ op,opn V t.handle=some op→r.fin=true∧r.op=op∧r.x=0∧r.result=0)
  (he:(if r.fin=true then none else some r.op)=if bT t'=1 then some t'.op else none):dW (s.aV n t') (V++[r]):=by
 have hn:n<s.aF.length:=(List.getElem?_eq_some_iff.1 ht).1
 refine⟨h.pr.snoc (by rw[hr];exact hp),fun m u hu=>?_,fun x hx=>?_⟩
 ·have hu:(s.aF.set n (some t'))[m]?=some (some u):=hu
  by_cases e:n=m
  ·subst e;rw[List.getElem?_set_self hn] at hu;cases hu
   rw[hh,Hi hr];exact he
  ·rw[List.getElem?_set_ne e] at hu
   rw[EB (by rw[hr];exact EC hO ht hu e)]
   exact h.op m u hu
 ·rcases List.mem_append.1 hx with hx | hx
  ·exact h.hd x hx
  ·rw[List.mem_singleton] at hx
   rw[hx,hr,(hO.th n t ht).h]
   exact⟨n,_,hO.lt ▸ hn,rfl,Int.le_refl _⟩
theorem dW.aV(h:dW s V)(ht:s.aF[n]?=some (some t))(hh:t'.handle=t.handle)(hb:bT t'=bT t)(ho:bT t=1→t'.op=t.op):dW (s.aV n t') V:=by
 have hn:n<s.aF.length:=(List.getElem?_eq_some_iff.1 ht).1
 refine⟨h.pr,fun m u hu=>?_,h.hd⟩
 have hu:(s.aF.set n (some t'))[m]?=some (some u):=hu
 by_cases e:n=m
 ·subst e;rw[List.getElem?_set_self hn] at hu;cases hu
  rw[hh,h.op n t ht,hb]
  by_cases e:bT t=1
  ·rw[if_pos e,if_pos e,ho e]
  ·rw[if_neg e,if_neg e]
 ·rw[List.getElem?_set_ne e] at hu
  exact h.op m u hu
theorem dW.tell(h:dW s V)(hO:Ok k s p q)(ht:s.aF[n]?=some (some t))(hb:bT t=0){o x y e:Int}:dW s (V++[⟨t.handle,o,x,y,e,true⟩]):=by
 have h0:opn V t.handle=none:=by rw[h.op n t ht,hb];rfl
 have:=h.xZ (t':=t) hO ht (r:=⟨t.handle,o,x,y,e,true⟩) rfl rfl (fun op e=>by rw[h0] at e;cases e) (by rw[hb];rfl)
 refine this.of ?_ rfl
 show s.aF=s.aF.set n (some t)
 rw[fA ht]
theorem dW.free(h:dW s V)(hO:Ok k s p q)(ht:s.aF[n]?=some (some t)):dW (s.free n) V:=by
 have hn:n<s.aF.length:=(List.getElem?_eq_some_iff.1 ht).1
 have hlt:n<s.table.length:=by rw[hO.ll, ← hO.lt];exact hn
 rw[hO.Hh ht]
 refine⟨h.pr,fun m u hu=>?_,fun r hr=>?_⟩
 ·have hu:(s.aF.set n none)[m]?=some (some u):=hu
  by_cases e:n=m
  ·subst e;rw[List.getElem?_set_self hn] at hu;cases hu
  ·rw[List.getElem?_set_ne e] at hu;exact h.op m u hu
 ·obtain⟨m,k,h1,h2,h3⟩:=h.hd r hr
  refine⟨m,k,h1,h2,?_⟩
  show k≤((s.table.set n (false,(s.table.getD n (false,0)).2)).getD m (false,0)).2
  by_cases e:n=m
  ·subst e;rw[List.getD_eq_getElem?_getD,List.getElem?_set_self hlt];exact h3
  ·rw[List.getD_eq_getElem?_getD,List.getElem?_set_ne e, ← List.getD_eq_getElem?_getD];exact h3
theorem Hj{V:List Rec}{h:Int}(e:∀ r∈V,r.ab≠h):opn V h=none:=by
 unfold opn
 rw[List.filter_eq_nil_iff.2 (fun r hr=>by simpa using e r hr)];rfl
theorem dW.begin(h:dW s V)(hO:Ok k s p q){f a:Int}:dW (s.begin f a).2.2 V:=by
 cases hf:slotFree? s.table 0 with
 | none=>rw[j9 hf];exact h
 | some n =>
  have hn16:n<16:=by
   have hfr:∀ (l:List (Bool×Int)) (i n:Nat),slotFree? l i=some n→n<i+l.length:=by
    intro l
    induction l with
    | nil=>intro i n h;cases h
    | cons o l ih =>
     intro i n h
     unfold slotFree? at h
     split at h
     ·have:=ih (i+1) n h;simp only[List.length_cons];omega
     ·cases h;simp only[List.length_cons];omega
   have:=hfr _ _ _ hf
   have:=hO.ll
   omega
  have hn:n<s.aF.length:=by rw[hO.lt];exact hn16
  have hlt:n<s.table.length:=by rw[hO.ll];exact hn16
  rw[eU hf]
  refine⟨h.pr,fun m u hu=>?_,fun r hr=>?_⟩
  ·have hu:(s.aF.set n _)[m]?=some (some u):=hu
   by_cases e:n=m
   ·subst e;rw[List.getElem?_set_self hn] at hu;cases hu
    refine(Hj fun r hr e=>?_).trans rfl
    obtain⟨m,k,h1,h2,h3⟩:=h.hd r hr
    rw[h2] at e
    obtain⟨rfl,rfl⟩:=vZ h1 hn16 e
    omega
   ·rw[List.getElem?_set_ne e] at hu;exact h.op m u hu
  ·obtain⟨m,k,h1,h2,h3⟩:=h.hd r hr
   refine⟨m,k,h1,h2,?_⟩
   show k≤((s.table.set n (true,(s.table.getD n (false,0)).2+1)).getD m (false,0)).2
   by_cases e:n=m
   ·subst e;rw[List.getD_eq_getElem?_getD,List.getElem?_set_self hlt];show k≤(s.table.getD n (false,0)).2+1;omega
   ·rw[List.getD_eq_getElem?_getD,List.getElem?_set_ne e, ← List.getD_eq_getElem?_getD];exact h3
theorem zL{u:bE}{y:Int}:(u.fy y).handle=u.handle:=by show(if u.bY = -1 then u else u.put u.bY y).handle=_;split <;> rfl
theorem dW.dI(h:dW s V)(hO:Ok k s p q){w0:Int}{u:bE}(hu:s.at w0=some u)(hu0:u.cQ≠0)(hu9:u.cQ≠9){y:Int}:dW (s.dI w0.toNat y) (V++[u.jV y]):=by
 obtain⟨h0,hat⟩:=iQ hu
 unfold Spc.dI
 rw[dM hat]
 have hb:bT u=1:=jX hu0 hu9
 refine h.xZ hO hat rfl zL (fun op e=>?_) ?_
 ·rw[h.op _ u hat,hb,if_pos rfl] at e
  cases e
  exact⟨rfl,rfl,rfl,rfl⟩
 ·rw[show bT (u.fy y)=0 from n8 rfl];rfl
end
end Go.SLYthlllpngkljgfaaGreat
namespace Go.SLYthlllpngkljgfaaGreat
open Go Go.RowKit
structure dD(k:Nat)(s0:Spc)(d:Dng)(p q:List Int):Prop where
 ok:Ok k d.s p q
 rd:∀ w,cY d.s w+(if (d.out.aR=true∨d.out.ended=true)∧w=(d.n:Int) then 1 else 0)=cY s0 w+d.out.ar.count w
 wk:∀ w∈d.out.ar,cY s0 w=0
 rc:dW d.s (d.s.av++d.ends)
 px:s0.av <+: d.s.av
section
variable{k:Nat}{s0:Spc}{d:Dng}{p q:List Int}{t:bE}
theorem gP{w:Int}{t:bE}:jn w (some t)=if t.ay=w∧¬w = -1 then 1 else 0:=rfl
theorem dp{t:bE}:rO (some t)=if t.cQ=0 then 1 else 0:=rfl
theorem mb{s:Spc}{n:Nat}{t t':bE}(ht:s.aF[n]?=some (some t))(w:Int):cY (s.aV n t') w=if w=(n:Int) then rO (some t') else cY s w:=by
 unfold cY
 rw[show(s.aV n t').at w=_ from nZ (List.getElem?_eq_some_iff.1 ht).1 w]
 split <;> rfl
theorem n9{s:Spc}{n:Nat}{t:bE}(ht:s.aF[n]?=some (some t)):cY s (n:Int)=rO (some t):=by unfold cY;rw[Dc ht]
theorem dD.rI(h:dD k s0 d p q){p' q':List Int}(e:∀ w,p'.count w+q.count w=p.count w+q'.count w):dD k s0 d p' q':=⟨h.ok.LG e,h.rd,h.wk,h.rc,h.px⟩
theorem dD.tell(h:dD k s0 d p q)(ht:d.s.aF[d.n]?=some (some t))(hw:t.cQ=0)(hn:d.ends=[]){x y e:Int}:dD k s0 (d.tell x y e true) p q:=⟨h.ok.av _,h.rd,h.wk,by
 have h1:=h.rc
 rw[hn,List.append_nil] at h1
 have h2:=h1.tell h.ok ht (n8 hw) (o:=d.i.op) (x:=x) (y:=y) (e:=e)
 show dW (d.s.tell ⟨d.t.handle,d.i.op,x,y,e,true⟩) ((d.s.av++[⟨d.t.handle,d.i.op,x,y,e,true⟩])++d.ends)
 rw[hn,List.append_nil,dc ht]
 exact h2.of rfl rfl,h.px.trans (List.prefix_append _ _)⟩
theorem dD.own(h:dD k s0 d p q)(ht:d.s.aF[d.n]?=some (some t)){t':bE}(hR:gV t')(hpc:0≤t'.pc∧t'.pc≤257)(e1:t'.handle=t.handle)(e2:t'.cQ=t.cQ)(e3:t'.ay=t.ay)(e4:t'.bK=t.bK)(e5:t'.op=t.op):dD k s0 (d.aV t') p q:=by
 have ho:=h.ok.th d.n t ht
 refine⟨h.ok.aV ht ⟨e1.trans ho.h,hR,hpc,fun a=>by rw[e3];exact ho.d (by rw[← e4];exact a),fun a=>by rw[e3];exact ho.f (by rw[← e2];exact a)⟩ (fun w=>?_),fun w=>?_,h.wk,h.rc.aV ht e1 (by unfold bT;rw[e2]) (fun _=>e5),h.px⟩
 ·have hjj:jn w (some t')=jn w (some t):=by rw[gP,gP,e3]
  have hbb:bT t'=bT t:=by unfold bT;rw[e2]
  rw[hjj,hbb]
 ·have:=h.rd w
  have hr:cY (d.aV t').s w=cY d.s w:=by
   show cY (d.s.aV d.n t') w=_
   rw[mb ht]
   split
   ·rename_i e;rw[e,n9 ht,dp,dp,e2]
   ·rfl
  rw[hr];exact this
theorem dD.pass(h:dD k s0 d p q)(ht:d.s.aF[d.n]?=some (some t))(hw:t.cQ=0)(hn:d.ends=[]){x y e:Int}(he:0≤e∧e≤11):dD k s0 (d.pass x y e) p q:=by
 have ho:=h.ok.th d.n t ht
 unfold Dng.pass
 rw[dc ht]
 exact dD.own (d:=d.tell x y e true) (h.tell ht hw hn) ht (ho.R.put (by omega)) ho.pc rfl rfl rfl rfl rfl
theorem dD.block(h:dD k s0 d p ((d.n:Int)::q))(ht:d.s.aF[d.n]?=some (some t))(hw:t.cQ=0)(hn:d.ends=[])(hs:d.out.aR=false)(hd:d.out.ended=false){a i x y:Int}(ha:a≠0∧a≠9)(hi : -1≤i∧i<8):dD k s0 (d.block a i x y) p q:=by
 have ho:=h.ok.th d.n t ht
 have hTo:Ok k (d.tell x y 0 false).s p ((d.n:Int)::q):=h.ok.av _
 have ht2:(d.tell x y 0 false).s.aF[d.n]?=some (some t):=ht
 unfold Dng.block
 rw[dc ht]
 refine⟨hTo.aV ht2 (t':={t with cQ:=a,op:=d.i.op,bY:=i }) ⟨ho.h,ho.R.with hi,ho.pc,ho.d,fun e=>absurd e ha.2⟩ (fun w=>?_),fun w=>?_,h.wk,?_,h.px.trans (List.prefix_append _ _)⟩
 ·have e1:bT t=0:=n8 hw
  have e2:bT {t with cQ:=a,op:=d.i.op,bY:=i }=1:=jX ha.1 ha.2
  have e3:jn w (some {t with cQ:=a,op:=d.i.op,bY:=i })=jn w (some t):=rfl
  rw[e1,e2,e3,List.count_cons]
  simp only[beq_iff_eq]
  by_cases e:w=(d.n:Int)
  ·rw[if_pos e,if_pos e,if_pos e.symm];omega
  ·rw[if_neg e,if_neg e,if_neg (fun h=>e h.symm)];omega
 ·have h1:=h.rd w
  rw[if_neg (by rw[hs,hd];simp)] at h1
  show cY ((d.tell x y 0 false).s.aV d.n {t with cQ:=a,op:=d.i.op,bY:=i }) w+(if (true=true∨d.out.ended=true)∧w=(d.n:Int) then 1 else 0)=cY s0 w+d.out.ar.count w
  rw[mb ht2]
  by_cases e:w=(d.n:Int)
  ·rw[if_pos e,if_pos ⟨.inl rfl,e⟩]
   rw[e,n9 ht] at h1
   have:rO (some t)=1:=by rw[dp,if_pos hw]
   have:rO (some {t with cQ:=a,op:=d.i.op,bY:=i })=0:=by rw[dp];exact if_neg ha.1
   rw[e];omega
  ·rw[if_neg e,if_neg (fun h=>e h.2)]
   exact h1
 ·have h1:=h.rc
  rw[hn,List.append_nil] at h1
  have e2:bT {t with cQ:=a,op:=d.i.op,bY:=i }=1:=jX ha.1 ha.2
  have h0:opn d.s.av t.handle=none:=by rw[h1.op d.n t ht,n8 hw];rfl
  have h2:=h1.xZ (t':={t with cQ:=a,op:=d.i.op,bY:=i }) h.ok ht (r:=⟨t.handle,d.i.op,x,y,0,false⟩) rfl rfl (fun op e=>by rw[h0] at e;cases e) (by rw[e2];rfl)
  show dW ((d.tell x y 0 false).s.aV d.n {t with cQ:=a,op:=d.i.op,bY:=i }) ((d.s.av++[⟨d.t.handle,d.i.op,x,y,0,false⟩])++d.ends)
  rw[hn,List.append_nil,dc ht]
  exact h2.of rfl rfl
theorem ph{u:bE}{y:Int}:(u.fy y).ay=u.ay:=by show(if u.bY = -1 then u else u.put u.bY y).ay=_;split <;> rfl
theorem Ok.dI{s:Spc}(h:Ok k s p q){w0:Int}{u:bE}(hu:s.at w0=some u)(hu0:u.cQ≠0)(hu9:u.cQ≠9){y:Int}(hy:fL y):Ok k (s.dI w0.toNat y) p (w0::q):=by
 obtain⟨h0,hat⟩:=iQ hu
 have ho:=h.th _ u hat
 have hc:((w0.toNat:Nat):Int)=w0:=by omega
 unfold Spc.dI
 rw[dM hat]
 refine h.aV hat ⟨?_,ho.R.fy hy,?_,?_,?_⟩ (fun w=>?_)
 ·rw[← ho.h];show(if u.bY = -1 then u else u.put u.bY y).handle=_;split <;> rfl
 ·show 0≤(if u.bY = -1 then u else u.put u.bY y).pc∧(if u.bY = -1 then u else u.put u.bY y).pc≤257;split <;> exact ho.pc
 ·intro e
  rw[ph];refine ho.d ?_
  rw[← e];show _=(if u.bY = -1 then u else u.put u.bY y).bK;split <;> rfl
 ·intro e;exact absurd (show(0:Int)=9 from e) (by decide)
 ·have e1:bT u=1:=jX hu0 hu9
  have e2:bT (u.fy y)=0:=n8 rfl
  have e3:jn w (some (u.fy y))=jn w (some u):=by rw[gP,gP,ph]
  rw[e1,e2,e3,List.count_cons,hc]
  simp only[beq_iff_eq]
  by_cases e:w=w0
  ·rw[if_pos e,if_pos e,if_pos e.symm];omega
  ·rw[if_neg e,if_neg e,if_neg (fun h=>e h.symm)];omega
theorem pj{s:Spc}{w0:Int}{u:bE}(hu:s.at w0=some u){y:Int}(w:Int):cY (s.dI w0.toNat y) w=if w=w0 then 1 else cY s w:=by
 obtain⟨h0,hat⟩:=iQ hu
 unfold Spc.dI
 rw[dM hat,mb hat,show((w0.toNat:Nat):Int)=w0 from by omega]
 rfl
theorem dD.MR(h:dD k s0 d p q){w0:Int}{u:bE}(hu:d.s.at w0=some u)(hu0:u.cQ≠0)(hu9:u.cQ≠9){y:Int}(hy:fL y)(hne:w0=(d.n:Int)→d.out.aR=false∧d.out.ended=false):dD k s0 (d.cj w0.toNat y) p (w0::q):=by
 have h0:=(iQ hu).1
 have hr:cY d.s w0=0:=by unfold cY;rw[hu,dp];exact if_neg hu0
 refine⟨h.ok.dI hu hu0 hu9 hy,fun w=>?_,fun w hw=>?_,?_,h.px⟩
 ·have h1:=h.rd w
  show cY (d.s.dI w0.toNat y) w+(if (d.out.aR=true∨d.out.ended=true)∧w=(d.n:Int) then 1 else 0)=cY s0 w+(d.out.ar++[((w0.toNat:Nat):Int)]).count w
  rw[pj hu,List.count_append,List.count_singleton,show((w0.toNat:Nat):Int)=w0 from by omega]
  simp only[beq_iff_eq]
  generalize (if (d.out.aR=true∨d.out.ended=true)∧w=(d.n:Int) then 1 else 0)=B at h1 ⊢
  by_cases e:w=w0
  ·rw[if_pos e,if_pos e.symm]
   rw[e] at h1 ⊢
   omega
  ·rw[if_neg e,if_neg (fun h=>e h.symm)];omega
 ·have hw:w∈d.out.ar++[((w0.toNat:Nat):Int)]:=hw
  rcases List.mem_append.1 hw with hw | hw
  ·exact h.wk w hw
  ·rw[List.mem_singleton,show((w0.toNat:Nat):Int)=w0 from by omega] at hw
   subst hw
   have h1:=h.rd w
   by_cases e:w=(d.n:Int)
   ·obtain⟨e1,e2⟩:=hne e
    rw[if_neg (by rw[e1,e2];simp)] at h1;omega
   ·rw[if_neg (fun h=>e h.2)] at h1;omega
 ·have h2:=h.rc.dI h.ok hu hu0 hu9 (y:=y)
  show dW (d.s.dI w0.toNat y) (d.s.av++(d.ends++[(d.s.t w0.toNat).jV y]))
  rw[← List.append_assoc,dM (iQ hu).2]
  exact h2
theorem dD.cj(h:dD k s0 d p q){w0:Int}(hpq:q.count w0<p.count w0){y:Int}(hy:fL y)(hne:w0=(d.n:Int)→d.out.aR=false∧d.out.ended=false):dD k s0 (d.cj w0.toNat y) p (w0::q):=by
 have hb:=h.ok.rI w0
 obtain⟨u,hu,hu0,hu9⟩:=jO (show 0<dP d.s w0 by omega)
 exact h.MR hu hu0 hu9 hy hne
theorem dD.bB(h:dD k s0 d p q){g:Gates}(hg:rY d.s.eT g){p' q':List Int}(e:∀ w,cG g w+p'.count w+q.count w=cG d.s.al w+p.count w+q'.count w):dD k s0 (d.bB g) p' q':=⟨h.ok.al hg e,h.rd,h.wk,h.rc.of rfl rfl,h.px⟩
theorem dD.eK(h:dD k s0 d p q){i:Nat}{u v:Tub}(hi:d.s.cc[i]?=some u)(hv:KO v){p' q':List Int}(e:∀ w,cU w v+p'.count w+q.count w=cU w u+p.count w+q'.count w):dD k s0 (d.eK i v) p' q':=by
 refine⟨h.ok.cc (by rw[List.length_set]) (fun x hx=>?_) (fun w=>?_),h.rd,h.wk,h.rc.of rfl rfl,h.px⟩
 ·rcases List.mem_or_eq_of_mem_set hx with hx | rfl
  ·exact h.ok.tb.2 x hx
  ·exact hv
 ·have h1:cT (d.s.cc.set i v) w+cU w u=cT d.s.cc w+cU w v:=gh (f:=cU w) v hi
  have:=e w;omega
theorem dD.cZ(h:dD k s0 d p q){u:kF}(hu:BC u){p' q':List Int}(e:∀ w,cD u w+p'.count w+q.count w=cD d.s.bZ w+p.count w+q'.count w):dD k s0 (d.cZ u) p' q':=⟨h.ok.bZ hu e,h.rd,h.wk,h.rc.of rfl rfl,h.px⟩
theorem dD.vH(h:dD k s0 d p q){u:lJ}(hu:0≤u.now∧u.now≤1099511627776){p' q':List Int}(e:∀ w,cL u w+p'.count w+q.count w=cL d.s.aT w+p.count w+q'.count w):dD k s0 (d.vH u) p' q':=⟨h.ok.aT hu e,h.rd,h.wk,h.rc.of rfl rfl,h.px⟩
theorem tI(h:Ok k d.s p q){n:Nat}(ht:d.s.aF[n]?=some (some t))(w:Int):cY (d.s.free n) w=if w=(n:Int) then 0 else cY d.s w:=by
 rw[h.Hh ht]
 unfold cY
 rw[show({d.s with table:=d.s.table.set n (false,(d.s.table.getD n (false,0)).2),aF:=d.s.aF.set n none }:Spc).at w=({d.s with aF:=d.s.aF.set n none }:Spc).at w from rfl,nZ (List.getElem?_eq_some_iff.1 ht).1 w]
 split <;> rfl
theorem dD.free(h:dD k s0 d p q){m:Nat}(ht:d.s.aF[m]?=some (some t))(h9:t.cQ=9):dD k s0 (d.free m) p q:=by
 have ho:=h.ok.th m t ht
 refine⟨h.ok.free ht (fun w=>?_),fun w=>?_,h.wk,h.rc.free h.ok ht,h.px⟩
 ·have e1:bT t=0:=by unfold bT;rw[if_pos (.inr h9)]
  have e2:jn w (some t)=0:=by rw[gP,ho.f h9];exact if_neg (by rintro⟨a,b⟩;exact b a.symm)
  rw[e1,e2];split <;> omega
 ·have h1:=h.rd w
  show cY (d.s.free m) w+_=_
  rw[tI h.ok ht]
  by_cases e:w=(m:Int)
  ·have h2:cY d.s w=0:=by rw[e,n9 ht,dp];exact if_neg (by omega)
   rw[if_pos e];rw[h2] at h1;exact h1
  ·rw[if_neg e];exact h1
theorem dD.fin(h:dD k s0 d [] [])(ht:d.s.aF[d.n]?=some (some t))(hw:t.cQ=0)(hs:d.out.aR=false)(hd:d.out.ended=false){v:Int}(hv:fL v):dD k s0 (d.fin v) [] []:=by
 have ho:=h.ok.th d.n t ht
 have hr0:rO (some t)=1:=by rw[dp];exact if_pos hw
 have hbt:bT t=0:=n8 hw
 have h1:=h.rd
 have hend:∀ w,(if (d.ended.out.aR=true∨d.ended.out.ended=true)∧w=(d.ended.n:Int) then 1 else 0)=if w=(d.n:Int) then 1 else 0:=fun w=>by
  by_cases e:w=(d.n:Int)
  ·rw[if_pos (show(d.ended.out.aR=true∨d.ended.out.ended=true)∧w=(d.ended.n:Int) from⟨.inr rfl,e⟩),if_pos e]
  ·rw[if_neg (show ¬((d.ended.out.aR=true∨d.ended.out.ended=true)∧w=(d.ended.n:Int)) from fun h=>e h.2),if_neg e]
 have hrd:∀ w,cY d.s w=cY s0 w+d.out.ar.count w:=fun w=>by
  have:=h1 w;rw[if_neg (by rw[hs,hd];simp)] at this;exact this
 cases hdt:t.bK with
 | true =>
  rw[C4 ht hdt]
  refine⟨h.ok.free ht (fun w=>?_),fun w=>?_,h.wk,h.rc.free h.ok ht,h.px⟩
  ·have e2:jn w (some t)=0:=by rw[gP,ho.d hdt];exact if_neg (by rintro⟨a,b⟩;exact b a.symm)
   rw[hbt,e2];split <;> omega
  ·show cY (d.s.free d.n) w+(if (d.ended.out.aR=true∨d.ended.out.ended=true)∧w=(d.ended.n:Int) then 1 else 0)=cY s0 w+d.out.ar.count w
   rw[hend,tI h.ok ht, ← hrd]
   by_cases e:w=(d.n:Int)
   ·rw[if_pos e,if_pos e,e,n9 ht,hr0]
   ·rw[if_neg e,if_neg e];rfl
 | false =>
  by_cases hj:t.ay = -1
  ·rw[zA ht hdt hj]
   refine⟨h.ok.aV (s:=d.s) (t':={t with cQ:=9,value:=v }) ht ⟨ho.h,⟨ho.R.l,ho.R.r,ho.R.i,hv,ho.R.h⟩,ho.pc,ho.d,fun _=>hj⟩ (fun w=>?_),fun w=>?_,h.wk,h.rc.aV (s:=d.s) (t':={t with cQ:=9,value:=v }) ht rfl (by rw[hbt];try rfl) (fun e=>absurd e (by rw[hbt];decide)),h.px⟩
   ·have e1:bT {t with cQ:=9,value:=v }=0:=by unfold bT;exact if_pos (.inr rfl)
    have e3:jn w (some {t with cQ:=9,value:=v })=jn w (some t):=rfl
    rw[hbt,e1,e3]
   ·show cY (d.s.aV d.n {t with cQ:=9,value:=v }) w+(if (d.ended.out.aR=true∨d.ended.out.ended=true)∧w=(d.ended.n:Int) then 1 else 0)=cY s0 w+d.out.ar.count w
    rw[hend,mb ht, ← hrd]
    by_cases e:w=(d.n:Int)
    ·rw[if_pos e,if_pos e,e,n9 ht,hr0,dp,if_neg (by show(9:Int)≠0;decide)]
    ·rw[if_neg e,if_neg e];rfl
  ·rw[zB ht hdt hj]
   -- who joined cj on: it is counted by this thread's own word
   have hcj:1≤ny d.s t.ay:=by
    have:jn t.ay (some t)=1:=by rw[gP];exact if_pos ⟨rfl,hj⟩
    have h2:jn t.ay (some t)≤cJ d.s.aF t.ay:=eD (f:=jn t.ay) (List.mem_of_getElem? ht)
    unfold ny;omega
   have hb:=h.ok.rI t.ay
   obtain⟨u,hu,hu0,hu9⟩:=jO (s:=d.s) (w:=t.ay) (by simp at hb;omega)
   obtain⟨h0,hat⟩:=iQ hu
   have hne:t.ay.toNat≠d.n:=fun e=>by rw[e,ht] at hat;cases hat;exact hu0 hw
   have hc:((t.ay.toNat:Nat):Int)=t.ay:=by omega
   have hk:=h.ok.dI hu hu0 hu9 hv
   have ht2:(d.s.dI t.ay.toNat v).aF[d.n]?=some (some t):=by
    unfold Spc.dI;exact fC ht hne
   refine⟨hk.free (n:=d.n) ht2 (fun w=>?_),fun w=>?_,fun w hw=>?_,?_,h.px⟩
   ·rw[hbt,gP,List.count_cons]
    simp only[beq_iff_eq,List.count_nil]
    by_cases e:t.ay=w
    ·rw[if_pos (show t.ay=w∧¬w = -1 from⟨e,by rw[← e];exact hj⟩),if_pos e];split <;> omega
    ·rw[if_neg (show ¬(t.ay=w∧¬w = -1) from fun h=>e h.1),if_neg e];split <;> omega
   ·show cY ((d.s.dI t.ay.toNat v).free d.n) w+(if (d.ended.out.aR=true∨d.ended.out.ended=true)∧w=(d.ended.n:Int) then 1 else 0)=cY s0 w+(d.out.ar++[((t.ay.toNat:Nat):Int)]).count w
    rw[hend,tI (d:={d with s:=d.s.dI t.ay.toNat v }) hk ht2,hc,List.count_append,List.count_singleton]
    simp only[beq_iff_eq]
    rw[pj hu]
    have h2:=hrd w
    by_cases e:w=(d.n:Int)
    ·rw[if_pos e,if_pos e,if_neg (show ¬t.ay=w by rw[e];omega)]
     rw[e,n9 ht,hr0] at h2
     rw[e];omega
    ·rw[if_neg e,if_neg e]
     by_cases e2:w=t.ay
     ·rw[if_pos e2,if_pos e2.symm]
      have:cY d.s w=0:=by rw[e2];unfold cY;rw[hu,dp];exact if_neg hu0
      omega
     ·rw[if_neg e2,if_neg (fun h=>e2 h.symm)];omega
   ·have hw:w∈d.out.ar++[((t.ay.toNat:Nat):Int)]:=hw
    rcases List.mem_append.1 hw with hw | hw
    ·exact h.wk w hw
    ·rw[List.mem_singleton,hc] at hw
     have h2:=hrd w
     have:cY d.s w=0:=by rw[hw];unfold cY;rw[hu,dp];exact if_neg hu0
     omega
   ·have h2:=h.rc.dI h.ok hu hu0 hu9 (y:=v)
    have h3:=h2.free hk (n:=d.n) ht2
    show dW ((d.s.dI t.ay.toNat v).free d.n) (d.s.av++(d.ends++[(d.s.t t.ay.toNat).jV v]))
    rw[← List.append_assoc,dM hat]
    exact h3
end
end Go.SLYthlllpngkljgfaaGreat
namespace Go.SLYthlllpngkljgfaaGreat
open Go Go.RowKit
theorem Dd{n:Int}:fL (A9 n):=by unfold A9 fL;omega
theorem ya:fL nv:=by unfold nv fL;decide
theorem rZ{n:Int}(h:fL n):fL (jt n):=by unfold jt;split;exact ya;exact h
theorem De{o:Option Nat}(h:∀ r,o=some r→r<18446744073709551616):fL (El o):=by
 cases o with
 | none=>exact ya
 | some r=>have:=h r rfl;exact rZ ⟨by omega,by omega⟩
theorem gD{c:Prop}[Decidable c]{a b:Int}(h1:fL a)(h2:fL b):fL (if c then a else b):=by split;exact h1;exact h2
theorem KP{b:Bool}:fL (Bl b):=by unfold Bl;exact gD ⟨by decide,by decide⟩ ⟨by decide,by decide⟩
theorem Hk{neg:Bool}{win:Ordering}{x y:Nat}(hx:x<18446744073709551616)(hy:y<18446744073709551616):fL ((kh neg win x y:Nat):Int):=by
 have h1:Go.FloatKind.f64.encode (.infinity neg)<18446744073709551616:=by cases neg <;> decide +kernel
 unfold kh
 simp only
 unfold fL
 repeat' split
 all_goals omega
theorem JI{op a b:Int}(ha:fL a)(hb:fL b):fL (ck op a b):=by
 have hx:a.toNat<18446744073709551616:=by have:=ha.1;have:=ha.2;omega
 have hy:b.toNat<18446744073709551616:=by have:=hb.1;have:=hb.2;omega
 have h0:fL 0:=⟨by decide,by decide⟩
 have hmin:fL (zp a b):=by unfold zp;exact gD ya (rZ (Hk hx hy))
 have hmax:fL (zq a b):=by unfold zq;exact gD ya (rZ (Hk hx hy))
 have hti:fL (kP a):=by unfold kP;exact gD h0 (gD ⟨by decide,by decide⟩ (gD ⟨by decide,by decide⟩ Dd))
 have htf:fL (l4 a):=by
  unfold l4
  refine rZ ⟨by omega,?_⟩
  have:Go.FloatKind.f64.nearest (Go.IntKind.i64.wrap a)<18446744073709551616:=(Ieee.Format.write_lt Ieee.double (.number (decide (Go.IntKind.i64.wrap a<0)) (Go.IntKind.i64.wrap a).natAbs 0):_)
  omega
 unfold ck
 refine gD ha (gD Dd (gD Dd (gD Dd (gD KP (gD (De fun r h=>Ieee.Format.add_lt _ h) (gD (De fun r h=>Ieee.Format.sub_lt _ h) (gD (De fun r h=>Ieee.Format.mul_lt _ h) (gD (De fun r h=>Ieee.Format.div_lt _ h) (gD hmin (gD hmax (gD KP (gD hti (gD htf h0)))))))))))))
end Go.SLYthlllpngkljgfaaGreat
namespace Go.SLYthlllpngkljgfaaGreat
open Go Go.RowKit
def b2(p:Prop)[Decidable p]:Nat:=if p then 1 else 0
theorem mc{w:Int}{l:List eS}{a b:Int}:dK w (l++[⟨a,b⟩])=dK w l+b2 (a=w):=by
 unfold dK b2 KN;rw[List.countP_append];simp[List.countP_cons]
theorem qD{w:Int}{l:List eS}{c:Int}:dK w (aP l c).2.2+b2 ((aP l c).2.1=true∧(aP l c).1.who=w)=dK w l:=by
 by_cases h0:l.length=0
 ·rw[xI h0];unfold b2;rw[if_neg (by rintro⟨a,b⟩;cases a)];rfl
 ·rw[rT h0]
  have hp:=kN (t:=c) (n:=l.length) (by omega)
  have hx:l[pick c l.length]?=some (l.getD (pick c l.length) ⟨0,0⟩):=getD_some hp
  have:=kV (P:=KN w) hx
  unfold dK b2
  rw[← this]
  simp only[true_and,KN,decide_eq_true_eq]
theorem qE{w:Int}{l:List eS}(h:dK w l=0):lI l w=false:=by
 unfold lI
 rw[List.any_eq_false]
 intro x hx e
 have:0<dK w l:=List.countP_pos_iff.2 ⟨x,hx,e⟩
 omega
theorem BD{g:Gates}{w:Int}(h:cG g w=0):g.waits w=false:=by
 unfold cG at h
 unfold Gates.waits
 rw[Bool.or_eq_false_iff,Bool.or_eq_false_iff,List.any_eq_false,List.any_eq_false,List.any_eq_false]
 refine⟨⟨fun x hx=>?_,fun x hx=>?_⟩,fun x hx=>?_⟩
 ·have:=eD (f:=fun m:eI=>dK w m.wait) hx
  rw[qE (by omega)];simp
 ·have:=eD (f:=dK w) hx
  rw[qE (by omega)];simp
 ·have:=eD (f:=fun m:kz=>dK w m.wait) hx
  rw[qE (by omega)];simp
theorem d1:(1:Int)≠0:=by decide
theorem d4:(4:Int)≠0:=by decide
theorem d5:(5:Int)≠0:=by decide
section
variable{g:Gates}{p:fM}
theorem yb{i:Nat}{x y:eI}(h:g.dh[i]?=some x)(w:Int):cG {g with dh:=g.dh.set i y } w+dK w x.wait=cG g w+dK w y.wait:=by
 have:=gh (f:=fun m:eI=>dK w m.wait) y h
 unfold cG;simp only at this ⊢;omega
theorem Hl{i:Nat}{x y:List eS}(h:g.gZ[i]?=some x)(w:Int):cG {g with gZ:=g.gZ.set i y } w+dK w x=cG g w+dK w y:=by
 have:=gh (f:=dK w) y h
 unfold cG;simp only at this ⊢;omega
theorem yc{i:Nat}{x y:kz}(h:g.er[i]?=some x)(w:Int):cG {g with er:=g.er.set i y } w+dK w x.wait=cG g w+dK w y.wait:=by
 have:=gh (f:=fun m:kz=>dK w m.wait) y h
 unfold cG;simp only at this ⊢;omega
theorem rY.dh(h:rY p g){i:Nat}{y:eI}:rY p {g with dh:=g.dh.set i y }:=⟨by simp only[List.length_set];exact h.m,h.c,h.s,h.sc,fun r hr w hw=>by simp only[List.length_set];exact h.cm r hr w hw⟩
theorem rY.gZ(h:rY p g){i:Nat}{y:List eS}(hy:∀ w∈y,0≤w.mutex∧w.mutex<(g.dh.length:Int)):rY p {g with gZ:=g.gZ.set i y }:=⟨h.m,by simp only[List.length_set];exact h.c,h.s,h.sc,fun r hr w hw=>by
 rcases List.mem_or_eq_of_mem_set hr with hr | rfl
 ·exact h.cm r hr w hw
 ·exact hy w hw⟩
theorem rY.er(h:rY p g){i:Nat}{y:kz}(hy:0≤y.count∧y.count≤1048576):rY p {g with er:=g.er.set i y }:=⟨h.m,h.c,by simp only[List.length_set];exact h.s,fun x hx=>by
 rcases List.mem_or_eq_of_mem_set hx with hx | rfl
 ·exact h.sc x hx
 ·exact hy,h.cm⟩
theorem ep{q:Prop}[Decidable q](h:¬q):b2 q=0:=if_neg h
theorem kW{q:Prop}[Decidable q](h:q):b2 q=1:=if_pos h
theorem LH(h:rY p g){n m:Int}:rY p (g.lock n m).2.2∧ ∀ w,cG (g.lock n m).2.2 w=cG g w+b2 (((g.lock n m).2.1=0∧(g.lock n m).1=false)∧n=w):=by
 have nope:∀ (b:Bool) (e:Int),(e≠0∨b=true)→ ∀ w,cG g w=cG g w+b2 ((e=0∧b=false)∧n=w):=fun b e he w=>by
  rw[ep (by rintro⟨⟨a,c⟩, -⟩;rcases he with he | he;exact he a;rw[he] at c;cases c)];rfl
 by_cases hm:0≤m∧m<(g.dh.length:Int)
 ·obtain⟨x,hx,hgx⟩:=cC hm
  cases hb:(g.waits n || x.is n) with
  | true=>rw[q8 hgx hb];exact⟨h,nope _ _ (.inl d4)⟩
  | false =>
   rw[vO hgx hb]
   cases hh:x.held with
   | true =>
    rw[xJ hh]
    refine⟨h.dh,fun w=>?_⟩
    have:=yb (y:={x with wait:=x.wait++[⟨n,0⟩] }) hx w
    rw[mc] at this
    have e:b2 (((0:Int)=0∧false=false)∧n=w)=b2 (n=w):=by unfold b2;simp
    rw[e];simp only at this ⊢;omega
   | false =>
    rw[xK hh]
    refine⟨h.dh,fun w=>?_⟩
    have:=yb (y:={x with held:=true,owner:=n }) hx w
    rw[ep (by rintro⟨⟨a,c⟩, -⟩;cases c)]
    simp only at this ⊢;omega
 ·rw[vN hm];exact⟨h,nope _ _ (.inl d1)⟩
theorem rk{x:eI}{c w:Int}:dK w (x.unlock c).2.2.wait+b2 ((x.unlock c).2.1=true∧(x.unlock c).1=w)=dK w x.wait:=qD
theorem Hm(h:rY p g){n m c:Int}:rY p (g.unlock n m c).2.2.2∧ ∀ w,cG (g.unlock n m c).2.2.2 w+b2 ((g.unlock n m c).2.1=true∧(g.unlock n m c).1=w)=cG g w:=by
 have nope:∀ w,cG g w+b2 (false=true∧(0:Int)=w)=cG g w:=fun w=>by rw[ep (by rintro⟨a, -⟩;cases a)];rfl
 by_cases hm:0≤m∧m<(g.dh.length:Int)
 ·obtain⟨x,hx,hgx⟩:=cC hm
  cases hb:x.is n with
  | false=>rw[oS hgx hb];exact⟨h,nope⟩
  | true =>
   rw[ra hgx hb]
   refine⟨h.dh,fun w=>?_⟩
   have:=yb (y:=(x.unlock c).2.2) hx w
   have:=rk (x:=x) (c:=c) (w:=w)
   simp only at *;omega
 ·rw[q9 hm];exact⟨h,nope⟩
theorem LJ(h:rY p g){n c m ch:Int}(hw0:g.waits n=false):rY p (g.wait n c m ch).2.2.2∧ ∀ w,cG (g.wait n c m ch).2.2.2 w+b2 ((g.wait n c m ch).2.1=true∧(g.wait n c m ch).1=w)=cG g w+b2 ((g.wait n c m ch).2.2.1=0∧n=w):=by
 have nope:∀ e:Int,e≠0→ ∀ w,cG g w+b2 (false=true∧(0:Int)=w)=cG g w+b2 (e=0∧n=w):=fun e he w=>by rw[ep (by rintro⟨a, -⟩;cases a),ep (fun h=>he h.1)]
 by_cases hm:0≤m∧m<(g.dh.length:Int)
 ·by_cases hc:0≤c∧c<(g.gZ.length:Int)
  ·obtain⟨x,hx,hgx⟩:=cC hm
   obtain⟨r,hr,hgr⟩:=cC hc
   cases hb:x.is n with
   | false=>rw[nQ hgx hgr hw0 hb];exact⟨h,nope _ d5⟩
   | true =>
    rw[qu hgx hgr hw0 hb]
    have h1:=h.dh (i:=m.toNat) (y:=(x.unlock ch).2.2)
    refine⟨h1.gZ (i:=c.toNat) (y:=r++[⟨n,m⟩]) (fun w hw=>?_),fun w=>?_⟩
    ·simp only[List.length_set]
     rcases List.mem_append.1 hw with hw | hw
     ·exact h.cm r (List.mem_of_getElem? hr) w hw
     ·rw[List.mem_singleton] at hw;rw[hw];exact hm
    ·have a1:=yb (y:=(x.unlock ch).2.2) hx w
     have a2:=rk (x:=x) (c:=ch) (w:=w)
     have a3:=Hl (g:={g with dh:=g.dh.set m.toNat (x.unlock ch).2.2 }) (y:=r++[⟨n,m⟩]) hr w
     rw[mc] at a3
     have e:b2 ((0:Int)=0∧n=w)=b2 (n=w):=by unfold b2;simp
     simp only[] at *
     omega
  ·rw[nP hc];exact⟨h,nope _ d1⟩
 ·rw[nO hm];exact⟨h,nope _ d1⟩
theorem LK(h:rY p g){n s:Int}(hw0:g.waits n=false):rY p (g.down n s).2.2∧ ∀ w,cG (g.down n s).2.2 w=cG g w+b2 (((g.down n s).2.1=0∧(g.down n s).1=false)∧n=w):=by
 by_cases hs:0≤s∧s<(g.er.length:Int)
 ·obtain⟨x,hx,hgx⟩:=cC hs
  have hxc:=h.sc x (List.mem_of_getElem? hx)
  by_cases hc:0<x.count
  ·rw[vQ hgx hw0 hc]
   refine⟨h.er (by simp only;omega),fun w=>?_⟩
   have:=yc (y:={x with count:=x.count-1 }) hx w
   rw[ep (by rintro⟨⟨a,c⟩, -⟩;cases c)]
   simp only at this ⊢;omega
  ·rw[rf hgx hw0 hc]
   refine⟨h.er hxc,fun w=>?_⟩
   have:=yc (y:={x with wait:=x.wait++[⟨n,0⟩] }) hx w
   rw[mc] at this
   have e:b2 (((0:Int)=0∧false=false)∧n=w)=b2 (n=w):=by unfold b2;simp
   rw[e];simp only at this ⊢;omega
 ·rw[vP hs]
  exact⟨h,fun w=>by rw[ep (by rintro⟨⟨a,c⟩, -⟩;exact d1 a)];rfl⟩
theorem NC(h:rY p g){s c:Int}:rY p (g.up s c).2.2.2∧ ∀ w,cG (g.up s c).2.2.2 w+b2 ((g.up s c).2.1=true∧(g.up s c).1=w)=cG g w:=by
 have no:∀ w,b2 (false=true∧(0:Int)=w)=0:=fun w=>ep (by rintro⟨a, -⟩;cases a)
 by_cases hs:0≤s∧s<(g.er.length:Int)
 ·obtain⟨x,hx,hgx⟩:=cC hs
  have hxc:=h.sc x (List.mem_of_getElem? hx)
  cases ht:(aP x.wait c).2.1 with
  | true =>
   rw[vR hgx ht]
   refine⟨h.er hxc,fun w=>?_⟩
   have a1:=yc (y:={x with wait:=(aP x.wait c).2.2 }) hx w
   have a2:=qD (w:=w) (l:=x.wait) (c:=c)
   rw[ht] at a2
   simp only at *;omega
  | false =>
   by_cases hc:1048576≤x.count
   ·rw[vS hgx ht hc];exact⟨h,fun w=>by rw[no];rfl⟩
   ·rw[C1 hgx ht hc]
    refine⟨h.er (by simp only;omega),fun w=>?_⟩
    have:=yc (y:={x with count:=x.count+1 }) hx w
    rw[no];simp only at this ⊢;omega
 ·rw[C0 hs];exact⟨h,fun w=>by rw[no];rfl⟩
theorem KQ:∀ (n:Nat) (c:Int) (r:List eS) (ms:List eI) (out:List Int) (w:Int),n≤r.length→(∀ y∈r,0≤y.mutex∧y.mutex<(ms.length:Int))→
  dK w (sigLoop n c r ms out).1+ma (fun m:eI=>dK w m.wait) (sigLoop n c r ms out).2.1+(sigLoop n c r ms out).2.2.count w=dK w r+ma (fun m:eI=>dK w m.wait) ms+out.count w∧ ∀ y∈(sigLoop n c r ms out).1,y∈r
 | 0,_,_,_,_,_,_,_=>⟨rfl,fun _ h=>h⟩
 | n+1,c,r,ms,out,w,hn,hr=>by
  obtain⟨h1,h2,h3⟩:=kl (l:=r) (c:=c) (by omega)
  have hm:=hr _ h1
  obtain⟨x,hx⟩:=ak (show(aP r c).1.mutex.toNat<ms.length by omega)
  have ht:(aP r c).2.1=true:=by rw[rT (by omega)]
  have hgx:ms.getD (aP r c).1.mutex.toNat ⟨[],false,0⟩=x:=by rw[List.getD_eq_getElem?_getD,hx];rfl
  unfold sigLoop
  simp only
  rw[hgx]
  obtain⟨a1,a2⟩:=KQ n c (aP r c).2.2 (ms.set (aP r c).1.mutex.toNat (x.lock (aP r c).1.who).2) (if (x.lock (aP r c).1.who).1=true then out++[(aP r c).1.who] else out) w (by omega) (fun y hy=>by rw[List.length_set];exact hr y (h3 y hy))
  refine⟨a1.trans ?_,fun y hy=>h3 y (a2 y hy)⟩
  have b1:=qD (w:=w) (l:=r) (c:=c)
  have b3:=gh (f:=fun m:eI=>dK w m.wait) (x.lock (aP r c).1.who).2 hx
  have e:b2 ((aP r c).2.1=true∧(aP r c).1.who=w)=b2 ((aP r c).1.who=w):=by unfold b2;simp[ht]
  rw[e] at b1
  cases hh:x.held with
  | true =>
   rw[xJ hh] at b3 ⊢
   simp only[Bool.false_eq_true,if_false] at b3 ⊢
   rw[mc] at b3
   omega
  | false =>
   rw[xK hh] at b3 ⊢
   simp only[if_true] at b3 ⊢
   rw[List.count_append,List.count_singleton]
   have e2:(if ((aP r c).1.who == w)=true then 1 else 0)=b2 ((aP r c).1.who=w):=by unfold b2;simp
   rw[e2];omega
theorem Hn(h:rY p g){c ch:Int}{all:Bool}:rY p (g.signal c ch all).2.2∧ ∀ w,cG (g.signal c ch all).2.2 w+(g.signal c ch all).1.count w=cG g w:=by
 by_cases hc:0≤c∧c<(g.gZ.length:Int)
 ·obtain⟨r,hr,hgr⟩:=cC hc
  have hrm:=h.cm r (List.mem_of_getElem? hr)
  rw[re hgr rfl]
  have hs:=fun w=>KQ (if all=true then r.length else min r.length 1) (if all=true then 0 else ch) r g.dh [] w (by split <;> omega) hrm
  refine⟨⟨?_,?_,h.s,h.sc,fun y hy w hw=>?_⟩,fun w=>?_⟩
  ·rw[pe];exact h.m
  ·simp only[List.length_set];exact h.c
  ·rw[pe]
   rcases List.mem_or_eq_of_mem_set hy with hy | rfl
   ·exact h.cm y hy w hw
   ·exact hrm w ((hs 0).2 w hw)
  ·have a1:=(hs w).1
   have a2:=gh (f:=dK w) (sigLoop (if all=true then r.length else min r.length 1) (if all=true then 0 else ch) r g.dh []).1 hr
   unfold cG
   simp only[List.count_nil] at *
   omega
 ·rw[rb hc];exact⟨h,fun w=>rfl⟩
end
end Go.SLYthlllpngkljgfaaGreat
namespace Go.SLYthlllpngkljgfaaGreat
open Go Go.RowKit
theorem oa{n w:Int}:[n].count w=b2 (n=w):=by rw[List.count_singleton];unfold b2;simp
theorem zM{ok:Bool}{n w:Int}:(if ok=true then [n] else []).count w=b2 (ok=true∧n=w):=by
 cases ok
 ·simp[b2]
 ·simp only[if_true,oa,true_and]
structure St(k:Nat)(s0:Spc)(d:Dng)(t:bE):Prop where
 h:dD k s0 d [] []
 ht:d.s.aF[d.n]?=some (some t)
 hw:t.cQ=0
 hs:d.out.aR=false
 he:d.out.ended=false
 I:nw d.i
 hn:d.ends=[]
section
variable{k:Nat}{s0:Spc}{d:Dng}{p q:List Int}{t:bE}
theorem St.o(S:St k s0 d t):LF (d.s.table.getD d.n (false,0)) d.n t:=S.h.ok.th d.n t S.ht
theorem St.zero(S:St k s0 d t):ny d.s d.n=0:=by
 have:=S.h.ok.rI d.n
 have e:dP d.s d.n=0:=by unfold dP;rw[Dc S.ht];exact n8 S.hw
 simp at this;omega
theorem St.a(S:St k s0 d t):fL d.a:=by unfold Dng.a;rw[dc S.ht];exact S.o.R.r _
theorem St.b(S:St k s0 d t):fL d.b:=by unfold Dng.b;rw[dc S.ht];exact S.o.R.r _
theorem St.pass(S:St k s0 d t){x y e:Int}(he:0≤e∧e≤11):dD k s0 (d.pass x y e) [] []:=S.h.pass S.ht S.hw S.hn he
theorem dD.given{ok:Bool}{n:Int}(h:dD k s0 d (if ok=true then [n] else []) [])(hne:ok=true→n=(d.n:Int)→d.out.aR=false∧d.out.ended=false):dD k s0 (d.given n ok) [] []:=by
 unfold Dng.given
 cases ok with
 | false=>exact h
 | true =>
  have:=dD.cj (y:=0) h (w0:=n) (by simp) ⟨by decide,by decide⟩ (hne rfl)
  exact this.rI (fun w=>by simp)
theorem Ho{g:Gates}{n c m ch:Int}(h:(g.wait n c m ch).2.2.1≠0):(g.wait n c m ch).2.1=false:=by
 unfold Gates.wait at h ⊢
 repeat' split
 all_goals first | rfl | skip
 rename_i h1 h2 h3 h4
 rw[h1,h2] at h
 simp only at h
 rw[if_neg h3,if_pos h4] at h
 exact absurd rfl h
theorem St.waits(S:St k s0 d t):d.s.al.waits d.n=false:=BD (by have:=S.zero;unfold ny at this;omega)
theorem Hp{g:Gates}{n c m ch:Int}(hw0:g.waits n=false)(h:(g.wait n c m ch).2.2.1=0):1≤cG (g.wait n c m ch).2.2.2 n:=by
 by_cases hm:0≤m∧m<(g.dh.length:Int)
 ·by_cases hc:0≤c∧c<(g.gZ.length:Int)
  ·obtain⟨x,hx,hgx⟩:=cC hm
   obtain⟨r,hr,hgr⟩:=cC hc
   cases hb:x.is n with
   | false=>rw[nQ hgx hgr hw0 hb] at h;exact absurd h d5
   | true =>
    rw[qu hgx hgr hw0 hb]
    have a3:=Hl (g:={g with dh:=g.dh.set m.toNat (x.unlock ch).2.2 }) (y:=r++[⟨n,m⟩]) hr n
    have a4:dK n r≤cG {g with dh:=g.dh.set m.toNat (x.unlock ch).2.2 } n:=by
     have:=eD (f:=dK n) (List.mem_of_getElem? hr)
     unfold cG;simp only;omega
    rw[mc,kW rfl] at a3
    simp only at a3 ⊢
    omega
  ·rw[nP hc] at h;exact absurd h d1
 ·rw[nO hm] at h;exact absurd h d1
theorem St.mutex(S:St k s0 d t):dD k s0 d.mutex [] []:=by
 unfold Dng.mutex
 simp only
 split
 ·obtain⟨hg,hc⟩:=LH (n:=d.n) (m:=d.i.n) S.h.ok.gt
  split
  ·rename_i hb
   have h1:=S.h.bB hg (p':=[]) (q':=[(d.n:Int)]) (fun w=>by
    rw[hc w,oa]
    have:b2 (((d.s.al.lock d.n d.i.n).2.1=0∧(d.s.al.lock d.n d.i.n).1=false)∧(d.n:Int)=w)=b2 ((d.n:Int)=w):=by unfold b2;simp[hb]
    rw[this];simp)
   exact h1.block S.ht S.hw S.hn S.hs S.he ⟨by decide,by decide⟩ (by decide)
  ·rename_i hb
   have h1:=S.h.bB hg (p':=[]) (q':=[]) (fun w=>by rw[hc w,ep (fun h=>hb h.1)];rfl)
   exact h1.pass S.ht S.hw S.hn C5
 ·split
  ·obtain⟨hg,hc⟩:=Hm (n:=d.n) (m:=d.i.n) (c:=d.choice) S.h.ok.gt
   have h1:=S.h.bB hg (p':=if (d.s.al.unlock d.n d.i.n d.choice).2.1=true then [(d.s.al.unlock d.n d.i.n d.choice).1] else []) (q':=[]) (fun w=>by rw[zM];have:=hc w;simp;omega)
   exact(h1.pass S.ht S.hw S.hn qz).given (fun _ _=>⟨S.hs,S.he⟩)
  ·obtain⟨hg,hc⟩:=LJ (n:=d.n) (c:=d.i.n) (m:=d.i.c) (ch:=d.choice) S.h.ok.gt S.waits
   have hc2:=fun w=>hc w
   split
   ·rename_i he
    have h1:=S.h.bB hg (p':=[]) (q':=[]) (fun w=>by
     have:=hc w
     rw[ep (fun h=>by rw[Ho he] at h;exact absurd h.1 (by simp)),ep (fun h=>he h.1)] at this
     simp;omega)
    exact h1.pass S.ht S.hw S.hn C6
   ·rename_i he
    have he:(d.s.al.wait d.n d.i.n d.i.c d.choice).2.2.1=0:=Decidable.not_not.mp he
    have hno:(d.s.al.wait d.n d.i.n d.i.c d.choice).2.1=true→¬(d.s.al.wait d.n d.i.n d.i.c d.choice).1=(d.n:Int):=fun ho hn=>by
     have h1:=hc d.n
     have h2:cG d.s.al d.n=0:=by have:=S.zero;unfold ny at this;omega
     have h3:=Hp (g:=d.s.al) (n:=d.n) (c:=d.i.n) (m:=d.i.c) (ch:=d.choice) S.waits he
     rw[kW ⟨ho,hn⟩,kW ⟨he,rfl⟩] at h1
     omega
    have h1:=S.h.bB hg (p':=if (d.s.al.wait d.n d.i.n d.i.c d.choice).2.1=true then [(d.s.al.wait d.n d.i.n d.i.c d.choice).1] else []) (q':=[(d.n:Int)]) (fun w=>by
     rw[zM,oa]
     have:=hc w
     have e:b2 ((d.s.al.wait d.n d.i.n d.i.c d.choice).2.2.1=0∧(d.n:Int)=w)=b2 ((d.n:Int)=w):=by unfold b2;simp[he]
     rw[e] at this
     simp;omega)
    exact(h1.block S.ht S.hw S.hn S.hs S.he ⟨by decide,by decide⟩ (by decide)).given (fun ho hn=>absurd hn (hno ho))
theorem St.er(S:St k s0 d t):dD k s0 d.er [] []:=by
 unfold Dng.er
 simp only
 split
 ·obtain⟨hg,hc⟩:=NC (s:=d.i.n) (c:=d.choice) S.h.ok.gt
  have h1:=S.h.bB hg (p':=if (d.s.al.up d.i.n d.choice).2.1=true then [(d.s.al.up d.i.n d.choice).1] else []) (q':=[]) (fun w=>by rw[zM];have:=hc w;simp;omega)
  exact(h1.pass S.ht S.hw S.hn G4).given (fun _ _=>⟨S.hs,S.he⟩)
 ·obtain⟨hg,hc⟩:=LK (n:=d.n) (s:=d.i.n) S.h.ok.gt S.waits
  split
  ·rename_i hb
   have h1:=S.h.bB hg (p':=[]) (q':=[(d.n:Int)]) (fun w=>by
    rw[hc w,oa]
    have:b2 (((d.s.al.down d.n d.i.n).2.1=0∧(d.s.al.down d.n d.i.n).1=false)∧(d.n:Int)=w)=b2 ((d.n:Int)=w):=by unfold b2;simp[hb]
    rw[this];simp)
   exact h1.block S.ht S.hw S.hn S.hs S.he ⟨by decide,by decide⟩ (by decide)
  ·rename_i hb
   have h1:=S.h.bB hg (p':=[]) (q':=[]) (fun w=>by rw[hc w,ep (fun h=>hb h.1)];rfl)
   exact h1.pass S.ht S.hw S.hn C7
/-! those who go on by a signal -/
theorem Ok.ND{s:Spc}(h:Ok k s p q){w0:Int}{u:bE}(hu:s.at w0=some u)(hu0:u.cQ≠0)(hu9:u.cQ≠9):Ok k (s.aV w0.toNat {u with cQ:=1 }) p q:=by
 obtain⟨h0,hat⟩:=iQ hu
 have ho:=h.th _ u hat
 refine h.aV (t':={u with cQ:=1 }) hat ⟨ho.h,⟨ho.R.l,ho.R.r,ho.R.i,ho.R.v,ho.R.h⟩,ho.pc,ho.d,fun e=>absurd (show(1:Int)=9 from e) (by decide)⟩ (fun w=>?_)
 have e1:bT u=1:=jX hu0 hu9
 have e2:bT {u with cQ:=1 }=1:=jX (t:={u with cQ:=1 }) (by show(1:Int)≠0;decide) (by show(1:Int)≠9;decide)
 have e3:jn w (some {u with cQ:=1 })=jn w (some u):=rfl
 rw[e1,e2,e3]
theorem Hq{s:Spc}{w0:Int}{u:bE}(hu:s.at w0=some u)(hu0:u.cQ≠0)(hu9:u.cQ≠9)(w:Int):dP (s.aV w0.toNat {u with cQ:=1 }) w=dP s w∧cY (s.aV w0.toNat {u with cQ:=1 }) w=cY s w:=by
 obtain⟨h0,hat⟩:=iQ hu
 have hc:((w0.toNat:Nat):Int)=w0:=by omega
 have e:(s.aV w0.toNat {u with cQ:=1 }).at w=if w=w0 then some {u with cQ:=1 } else s.at w:=by
  have:=nZ (s:=s) (n:=w0.toNat) (o:=some {u with cQ:=1 }) (List.getElem?_eq_some_iff.1 hat).1 w
  rw[hc] at this;exact this
 unfold dP cY
 rw[e]
 by_cases hw:w=w0
 ·rw[if_pos hw,hw,hu]
  refine⟨?_,?_⟩
  ·show bT {u with cQ:=1 }=bT u
   exact(jX (t:={u with cQ:=1 }) (by show(1:Int)≠0;decide) (by show(1:Int)≠9;decide)).trans (jX hu0 hu9).symm
  ·rw[dp,dp,if_neg (by show ¬(1:Int)=0;decide),if_neg hu0]
 ·rw[if_neg hw];exact⟨rfl,rfl⟩
theorem dD.cM:∀ (l:List Int) (d:Dng),dD k s0 d p q→(∀ w∈l,0<dP d.s w)→dD k s0 {d with s:=cM d.s l } p q
 | [],_,h,_=>h
 | w::l,d,h,hl=>by
  obtain⟨u,hu,hu0,hu9⟩:=jO (hl w List.mem_cons_self)
  have hat:=(iQ hu).2
  have hk:=Hq hu hu0 hu9
  have h2:dD k s0 {d with s:=d.s.aV w.toNat {u with cQ:=1 } } p q:=⟨h.ok.ND hu hu0 hu9,fun w'=>by
   have:=h.rd w'
   show cY (d.s.aV w.toNat {u with cQ:=1 }) w'+_=_
   rw[(hk w').2];exact this,h.wk,h.rc.aV hat rfl (by rw[jX hu0 hu9];exact jX (t:={u with cQ:=1 }) (by show(1:Int)≠0;decide) (by show(1:Int)≠9;decide)) (fun _=>rfl),h.px⟩
  have h3:=dD.cM l _ h2 (fun w' hw'=>by
   show 0<dP (d.s.aV w.toNat {u with cQ:=1 }) w'
   rw[(hk w').1];exact hl w' (List.mem_cons_of_mem _ hw'))
  show dD k s0 {d with s:=Go.SLYthlllpngkljgfaaGreat.cM (d.s.aV w.toNat {d.s.t w.toNat with cQ:=1 }) l } p q
  rw[show d.s.t w.toNat=u from dM hat]
  exact h3
theorem dD.dz:∀ (l:List Int) (d:Dng),dD k s0 d l []→d.out.aR=false∧d.out.ended=false→dD k s0 (d.dz l) [] []
 | [],_,h,_=>h
 | w::l,d,h,hs=>by
  have h1:=h.cj (w0:=w) (y:=0) (by simp) ⟨by decide,by decide⟩ (fun _=>hs)
  refine dD.dz l _ ?_ hs
  exact(h1.rI (fun w'=>by simp[List.count_cons]))
theorem dD.lF{l:List Int}(h:dD k s0 d l [])(hs:d.out.aR=false∧d.out.ended=false):dD k s0 (d.lF l) [] []:=by
 unfold Dng.lF
 refine dD.dz l _ (dD.cM d.waits d h (fun w hw=>?_)) hs
 have:=h.ok.rI w
 have h1:0<cG d.s.al w:=by
  obtain⟨x,hx,hw⟩:=List.mem_flatMap.1 hw
  obtain⟨y,hy,rfl⟩:=List.mem_map.1 hw
  have h2:=eD (f:=fun m:eI=>dK y.who m.wait) (List.mem_of_mem_take hx)
  have h3:0<dK y.who x.wait:=List.countP_pos_iff.2 ⟨y,hy,by simp[KN]⟩
  unfold cG;omega
 unfold ny at this
 simp at this;omega
theorem St.signal(S:St k s0 d t){all:Bool}:dD k s0 (((d.bB (d.s.al.signal d.i.n d.choice all).2.2).pass d.i.n 0 (d.s.al.signal d.i.n d.choice all).2.1).lF (d.s.al.signal d.i.n d.choice all).1) [] []:=by
 obtain⟨hg,hc⟩:=Hn (c:=d.i.n) (ch:=d.choice) (all:=all) S.h.ok.gt
 have h1:=S.h.bB hg (p':=(d.s.al.signal d.i.n d.choice all).1) (q':=[]) (fun w=>by have:=hc w;simp;omega)
 exact(h1.pass S.ht S.hw S.hn ia).lF ⟨S.hs,S.he⟩
end
end Go.SLYthlllpngkljgfaaGreat
