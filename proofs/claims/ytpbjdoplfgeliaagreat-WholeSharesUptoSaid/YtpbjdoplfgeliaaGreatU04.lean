/- Walks. Conditions: none. -/
import Derived.Test.YtpbjdoplfgeliaaGreatU03
import Derived.Laws.FloatBits
namespace Go.SLYtpbjdoplfgeliaaGreat
open Go Go.RowKit
def ei(b p:Nat)(d:Dng)(vw ve:Value):List Value:=[ptr b,.int .i64 (d.n:Int),ptr p,.int .i64 d.i.op,.int .i64 d.i.a,.int .i64 d.i.b,.int .i64 d.i.c,.int .u64 d.i.n,.int .i64 d.choice,vw,.bool d.out.aQ,.bool d.out.ended,.bool d.out.yielded,ve]
def bu(bd b p:Nat)(ps:List (Option Nat))(d:Dng):aa:=ot (fun _ _=>True) fun vw ve=>[arr bd 0 (ei b p d vw ve),sl aq 1 vw d.out.av,sl iU 6 ve d.ends,cE b ps d.s]
def Pm(bd b p:Nat)(d:Dng):aa:=jd (fun _=>True) fun ps=>[bu bd b p ps d]
def oE(v:Value)(e:lG):List Value:=[v,.bool e.aQ,.bool e.ended,.bool e.yielded]
theorem bP{ps:List (Option Nat)}{ts:List (Option bI)}{n p:Nat}{t:bI}(hp:ps[n]?=some (some p))(ht:ts[n]?=some (some t)):∀ h,aB ps ts h→seps [arr p 0 (bn t),aB (ps.set n none) (ts.set n none)] h:=fun h a=>by
 obtain⟨q,hq,a'⟩:=mL ht h a
 rw[hp] at hq;cases hq
 exact kv.2 a'
theorem bM{ps:List (Option Nat)}{ts:List (Option bI)}{n p:Nat}{t:bI}(hp:ps[n]?=some (some p))(ht:ts[n]?=some (some t)):∀ h,seps [arr p 0 (bn t),aB (ps.set n none) (ts.set n none)] h→aB ps ts h:=fun h a=>by
 have:=cz (List.getElem?_eq_some_iff.1 ht).1 hp h a
 rwa [gP ht] at this
theorem nF{t:bI}:∀ {n:Nat} (_:n<8),(bn t)[2+n * 1]?=some (.int .u64 (t.aE.getD n 0))
 | 0,_=>rfl
 | 1,_=>rfl
 | 2,_=>rfl
 | 3,_=>rfl
 | 4,_=>rfl
 | 5,_=>rfl
 | 6,_=>rfl
 | 7,_=>rfl
 | n+8,h=>absurd h (by omega)
theorem Ha{fn pc handle cS value ay op bZ:Int}{det:Bool}{a0 a1 a2 a3 a4 a5 a6 a7:Int}(x:Int):∀ {n:Nat} (_:n<8),(bn ⟨fn,pc,[a0,a1,a2,a3,a4,a5,a6,a7],handle,cS,value,det,ay,op,bZ⟩).set (2+n * 1) (.int .u64 x)=bn ⟨fn,pc,[a0,a1,a2,a3,a4,a5,a6,a7].set n x,handle,cS,value,det,ay,op,bZ⟩
 | 0,_=>rfl
 | 1,_=>rfl
 | 2,_=>rfl
 | 3,_=>rfl
 | 4,_=>rfl
 | 5,_=>rfl
 | 6,_=>rfl
 | 7,_=>rfl
 | n+8,h=>absurd h (by omega)
theorem sL{t:bI}(x:Int){n:Nat}(hn:n<8)(hl:t.aE.length=8):(bn t).set (2+n * 1) (.int .u64 x)=bn (t.put (n:Int) x):=by
 obtain⟨fn,pc,aE,handle,cS,value,det,ay,op,bZ⟩:=t
 match aE,hl with
 | [a0,a1,a2,a3,a4,a5,a6,a7],_=>exact Ha x hn
theorem jJ{t:bI}(x:Int){i:Int}(h0:0≤i)(hn:i<8)(hl:t.aE.length=8):(bn t).set (2+i.toNat * 1) (.int .u64 x)=bn (t.put i x):=by
 rw[sL x (by omega) hl,show((i.toNat:Nat):Int)=i from by omega]
theorem pL(t:bI)(x:Int):(bn t).set 11 (.int .i64 x)=bn {t with cS:=x }:=rfl
theorem EO(t:bI)(x:Int):(bn t).set 12 (.int .u64 x)=bn {t with value:=x }:=rfl
theorem J2(t:bI)(x:Bool):(bn t).set 13 (.bool x)=bn {t with bN:=x }:=rfl
theorem BY(t:bI)(x:Int):(bn t).set 14 (.int .i64 x)=bn {t with ay:=x }:=rfl
theorem L9(t:bI)(x:Int):(bn t).set 15 (.int .i64 x)=bn {t with op:=x }:=rfl
theorem tZ(t:bI)(x:Int):(bn t).set 16 (.int .i64 x)=bn {t with bZ:=x }:=rfl
theorem j8{t:bI}{i x:Int}:(t.put i x).aE.length=t.aE.length:=by unfold bI.put;simp
section
variable{fv sv pv:Value}{p:gn}{bt:Nat}{ps:List (Option Nat)}{vm:Value}{bg:Nat}{vt:Value}{bk bw:Nat}{vr u:Value}
theorem pM:(ft fv sv pv p bt ps vm bg vt bk bw vr).set 30 u=ft fv sv pv p bt ps vm bg vt bk bw u:=rfl
theorem yy:(ft fv sv pv p bt ps vm bg vt bk bw vr).set 25 u=ft fv sv pv p bt ps u bg vt bk bw vr:=rfl
end
structure gZ(t:bI):Prop where
 l:t.aE.length=8
 r:∀ n,0≤t.aE.getD n 0∧t.aE.getD n 0≤18446744073709551615
 i : -1≤t.bZ∧t.bZ<8
 v:0≤t.value∧t.value≤18446744073709551615
 h:0≤t.handle∧t.handle≤18446744073709551615
theorem dS{s:Spc}{n:Nat}{t:bI}(h:s.aF[n]?=some (some t)):s.t n=t:=by unfold Spc.t;rw[List.getD_eq_getElem?_getD,h];rfl
theorem dj{d:Dng}{t:bI}(h:d.s.aF[d.n]?=some (some t)):d.t=t:=dS h
def yz(ps:List (Option Nat))(n:Int):Option Nat:=if 0≤n∧n<16 then ps.getD n.toNat none else none
theorem Dv{t:bI}{y:Int}(t1:bI)(h:t1=if t.bZ = -1 then t else t.put t.bZ y):t.fz y = {t1.put 7 0 with cS:=0,bZ := -1 }:=by unfold bI.fz;rw[h]
section
variable{P:Program}{W:World}{N:Nat}{T:TypeId}{L:List (Nat×Option Value)}{H:List aa}{α:Type}
theorem af.J3{E:TypeId}{x y:Operand}{pos:String}{after:Array Edge}{guard:Option (Nat×Bool)}{b o:Nat}{v:Value}{vs cs:List Value}{H':List aa}{enc:α→List Value}{k:Nat}{xs:List α}(hz:∀ w,(sizeOf E).run P w = .ok (vs.length+1) w)(hx:ev L x=some (.pointer (some ⟨b,o,none⟩)))(hy:ev L y=some (.agg (v::vs).toArray))[hv:aC W H v enc k xs](hvs:vs.all (·.oneCell')=true)
  [_h0:bY H b o cs] [hr:cH H b o cs (v::vs) H'] (hi:cs.length=vs.length+1) :
  af P W N ⟨none,.store E x y,T,pos,after,guard⟩ L H (fun L1 H1=>L1=L∧H1=H'):=fun a w ha hs Kp hK=>af.storeAll hx hy hz (fun c hc=>by
   rcases List.mem_cons.1 hc with rfl | hc
   ·exact hv.rd.one w hs
   ·exact List.all_eq_true.1 hvs c hc) hr.pj hi a w ha hs Kp hK
end
end Go.SLYtpbjdoplfgeliaaGreat
namespace Go.SLYtpbjdoplfgeliaaGreat
open Go Go.RowKit
def bQ(ps:List (Option Nat))(s:Spc)(n:Nat):Prop:=n<16∧ ∃ q t,ps[n]?=some (some q)∧s.aF[n]?=some (some t)∧gZ t
theorem EP{b p:Nat}{d:Dng}{vw ve:Value}:(ei b p d vw ve).set 11 (.bool true)=ei b p d.ended vw ve:=rfl
theorem J4{b p:Nat}{d:Dng}{vw ve:Value}:(ei b p d vw ve).set 12 (.bool true)=ei b p {d with out:={d.out with yielded:=true } } vw ve:=rfl
theorem fC{s:Spc}{n m:Nat}{t t':bI}(h:s.aF[m]?=some (some t))(hne:n≠m):(s.aX n t').aF[m]?=some (some t):=by
 unfold Spc.aX;simp only;rw[List.getElem?_set_ne hne];exact h
theorem dp{s:Spc}{n:Nat}{t t':bI}(h:s.aF[n]?=some (some t)):(s.aX n t').aF[n]?=some (some t'):=by
 unfold Spc.aX;simp only;exact List.getElem?_set_self (List.getElem?_eq_some_iff.1 h).1
theorem Hb{d:Dng}{n:Nat}{y:Int}{m:Nat}{t:bI}(h:d.s.aF[m]?=some (some t))(hne:n≠m):(d.cq n y).s.aF[m]?=some (some t):=fC h hne
theorem Dw{d:Dng}{t:bI}{v:Int}(ht:d.s.aF[d.n]?=some (some t))(h:t.bN=true):d.fin v=d.ended.free d.n:=by
 unfold Dng.fin;rw[dj ht,if_pos h]
theorem Ae{d:Dng}{t:bI}{v:Int}(ht:d.s.aF[d.n]?=some (some t))(h:t.bN=false)(hj:t.ay = -1):d.fin v=d.ended.aX {t with cS:=9,value:=v }:=by
 unfold Dng.fin;rw[dj ht,if_neg (by rw[h];simp),if_pos hj]
theorem Af{d:Dng}{t:bI}{v:Int}(ht:d.s.aF[d.n]?=some (some t))(h:t.bN=false)(hj:¬t.ay = -1):d.fin v=(d.ended.cq t.ay.toNat v).free d.n:=by
 unfold Dng.fin;rw[dj ht,if_neg (by rw[h];simp),if_neg hj]
theorem uc{t:bI}{f:iZ}:setFrom (bn t) 0 (iW f)=bn (t.oy f):=rfl
theorem lJ{f:iZ}{m:List Int}{i:Ins}{z:iZ×List Int}(h:mB f m i=some z):fX f m i=(z.1,z.2,0):=by unfold fX;rw[h]
theorem ud{f:iZ}{m:List Int}{i:Ins}(h:mB f m i=none):fX f m i=(iZ.z,[],6):=by unfold fX;rw[h]
theorem oF{f:iZ}{m:List Int}{i:Ins}(h:(fX f m i).2.2=0):∃ z,mB f m i=some z:=by
 unfold fX at h
 cases e:mB f m i with
 | none=>rw[e] at h;cases h
 | some z=>exact⟨z,rfl⟩
theorem qV{f:iZ}{m:List Int}{i:Ins}(h:¬(fX f m i).2.2=0):mB f m i=none:=by
 cases e:mB f m i with
 | none=>rfl
 | some z=>rw[lJ e] at h;exact absurd rfl h
theorem Hc{f:iZ}{m:List Int}{i:Ins}(h:mB f m i=none):i.op=18∨i.op=19:=by
 unfold mB at h
 repeat' split at h
 all_goals first | (cases h;done) | omega
theorem Hd{f:iZ}{m:List Int}{i:Ins}{z:iZ×List Int}(h:mB f m i=some z)(ho:i.op=18):f.tR i.b<m.length:=by
 unfold mB at h
 rw[if_neg (by omega),if_neg (by omega),if_neg (by omega),if_pos ho] at h
 split at h
 ·assumption
 ·cases h
def Dng.told(d:Dng):Dng:=if d.i.op=18 then d.tell d.b (d.s.mem.getD d.b.toNat 0) 0 true else if d.i.op=19 then d.tell d.a d.b 0 true else d
theorem j9{d:Dng}{t:bI}{z:iZ×List Int}(ht:d.s.aF[d.n]?=some (some t))(h:mB t.nE d.s.mem d.i=some z):d.plain = {d.told with s:={d.told.s.aX d.n (t.oy z.1) with mem:=z.2 } }:=by
 unfold Dng.plain;rw[dj ht,h];rfl
theorem mW{d:Dng}{t:bI}(ht:d.s.aF[d.n]?=some (some t))(h:mB t.nE d.s.mem d.i=none):d.plain=(if d.i.op=18 then d.tell d.b 0 6 true else d.tell d.a d.b 6 true).fin 18446744073709551615:=by
 unfold Dng.plain;rw[dj ht,h]
theorem ue{d:Dng}{h:Int}(e:bC d.s.table h=none):d.other h=(0,3):=by unfold Dng.other;rw[e]
theorem lK{d:Dng}{h:Int}{n:Nat}{t:bI}(e:bC d.s.table h=some n)(ht:d.s.aF[n]?=some (some t))(hn:n=d.n∨t.bN=true):d.other h=(0,3):=by unfold Dng.other;rw[e];simp only;rw[dS ht,if_pos hn]
theorem uf{d:Dng}{h:Int}{n:Nat}{t:bI}(e:bC d.s.table h=some n)(ht:d.s.aF[n]?=some (some t))(hn:¬(n=d.n∨t.bN=true))(hj:t.ay = -1):d.other h=(n,0):=by unfold Dng.other;rw[e];simp only;rw[dS ht,if_neg hn,if_pos hj]
theorem oG{d:Dng}{h:Int}{n:Nat}{t:bI}(e:bC d.s.table h=some n)(ht:d.s.aF[n]?=some (some t))(hn:¬(n=d.n∨t.bN=true))(hj:¬t.ay = -1):d.other h=(0,4):=by unfold Dng.other;rw[e];simp only;rw[dS ht,if_neg hn,if_neg hj]
section
variable{P:Program}{W:World}{N:Nat}{Q:Exit→Act→World→Prop}{O:Array Oper}{L:List (Nat×Option Value)}{H K:List aa}
theorem bH.Ma{ks rest:List Nat}{i:Nat}{E T:TypeId}{x y:Operand}{pos:String}{after:Array Edge}{b o:Nat}{vs cs:List Value}{H':List aa}(ho:O[i]?=some ⟨none,.store E x y,T,pos,after,none⟩)(hk:ks.getD i 1=2)
  (hz:∀ w,(sizeOf E).run P w = .ok vs.length w) (hx:ev L x=some (.pointer (some ⟨b,o,none⟩))) (hy:ev L y=some (.agg vs.toArray)) (hv:vs.all (·.oneCell')=true) [_h0:bY H b o cs] [hr:cH H b o cs vs H'] (hi:cs.length=vs.length)
  (hK:∀ w,Sat W w (seps H)→Sat W w (seps K)) (hK':∀ w,Sat W w (seps H')→Sat W w (seps K)) (h:bH P W N K O Q ks rest L H'):bH P W N K O Q ks (i::rest) L H :=
 bH.d (X:=Unit) (Lx:=fun _=>L) (Hx:=fun _=>H') ho rfl (.inl hk) (fun _=>hK) (fun E=>(by
  intro a w ha hs Kp hK
  exact af.storeAll hx hy hz (List.all_eq_true.1 hv) (gk.app E hr.pj) hi a w ha hs Kp (fun L1 H1 ⟨e1,e2⟩=>hK L1 H1 ⟨(),e1,e2⟩))) (fun _ _=>hK') (fun _=>h)
end
end Go.SLYtpbjdoplfgeliaaGreat
namespace Go.SLYtpbjdoplfgeliaaGreat
open Go Go.RowKit
theorem Ag{α:Type}{f:α→aa}{xs:List α}{i:Nat}{x:α}(h:xs[i]?=some x):∀ g,aO f xs g→seps [f x,aO f (xs.eraseIdx i)] g:=fun g a=>by rw[jx f h] at a;exact kv.2 a
theorem yA{v:Value}{l:List Tub}{xs:List (Nat×Tub)}{i:Nat}{x:Nat×Tub}(hx:xs[i]?=some x)(hxs:xs.map (·.2)=l)(u:Tub):∀ h,seps [sl cP 1 v xs,iI x.1 u,aO (fun x:Nat×Tub=>iI x.1 x.2) (xs.eraseIdx i)] h→pn v (l.set i u) h:=fun h a=>by
 refine⟨xs.set i (x.1,u),by show(xs.set i (x.1,u)).map (·.2)=_;rw[List.map_set,hxs],?_⟩
 have hi:=(List.getElem?_eq_some_iff.1 hx).1
 rw[kv,jy _ _ hi]
 exact bB (fun g b=>pB (x':=(x.1,u)) hi rfl g (yn hx g b)) (fun g b=>kv.1 b) h a
theorem bQ.aX{ps:List (Option Nat)}{s:Spc}{n m:Nat}{t:bI}(h:bQ ps s m)(ht:gZ t):bQ ps (s.aX n t) m:=by
 obtain⟨hm,q,u,hq,hu,hR⟩:=h
 rcases Decidable.em (n=m) with rfl | hne
 ·exact⟨hm,q,t,hq,dp hu,ht⟩
 ·exact⟨hm,q,u,hq,fC hu hne,hR⟩
theorem bQ.of{ps:List (Option Nat)}{s s':Spc}{m:Nat}(h:bQ ps s m)(e:s'.aF=s.aF):bQ ps s' m:=by
 obtain⟨hm,q,u,hq,hu,hR⟩:=h
 exact⟨hm,q,u,hq,by rw[e];exact hu,hR⟩
theorem pN{l:List Int}{i n:Nat}{x:Int}(hx:0≤x∧x≤18446744073709551615)(h:∀ n,0≤l.getD n 0∧l.getD n 0≤18446744073709551615):0≤(l.set i x).getD n 0∧(l.set i x).getD n 0≤18446744073709551615:=by
 have hn:=h n
 rw[List.getD_eq_getElem?_getD] at hn ⊢
 rw[List.getElem?_set]
 split
 ·split
  ·exact hx
  ·exact⟨Int.le_refl _,by decide⟩
 ·exact hn
theorem gZ.put{t:bI}(h:gZ t){i x:Int}(hx:0≤x∧x≤18446744073709551615):gZ (t.put i x):=⟨by rw[j8];exact h.l,fun n=>pN hx h.r,h.i,h.v,h.h⟩
theorem gZ.with{t:bI}(h:gZ t){a b c:Int}(hc : -1≤c∧c<8):gZ {t with cS:=a,op:=b,bZ:=c }:=⟨h.l,h.r,hc,h.v,h.h⟩
def Gates.has(g:Gates)(w:Int):Prop:=(∃ x∈g.dn, ∃ y∈x.wait,y.who=w)∨(∃ r∈g.hJ, ∃ y∈r,y.who=w)∨(∃ x∈g.ez, ∃ y∈x.wait,y.who=w)
structure iX(ps:List (Option Nat))(d:Dng)(t:bI):Prop where
 nb:d.n<16
 R:gZ t
 lt:d.s.aF.length=16
 lp:ps.length=16
 T:jB d.s.table
 slot:∀ h m,bC d.s.table h=some m→bQ ps d.s m
 free:∀ n,slotFree? d.s.table 0=some n→d.s.aF[n]?=some none
 join:¬t.ay = -1→0≤t.ay∧t.ay.toNat≠d.n∧bQ ps d.s t.ay.toNat
 I:oa d.i
 nn:d.i.n≤1099511627776
 aA:d.s.aA.length≤900000000
 ends:d.ends.length≤500000
 Bq:d.out.av.length≤500000
 mem:d.s.mem.length≤1000000
 gl:gO d.s.al
 J8:∀ x∈d.s.al.ez,0≤x.count∧x.count≤1048576
 J9:∀ r∈d.s.al.hJ, ∀ w∈r,0≤w.mutex∧w.mutex<(d.s.al.dn.length:Int)
 jb:∀ w,d.s.al.has w→0≤w∧bQ ps d.s w.toNat
 Ka:d.s.fb.bx≤(d.s.al.dn.length:Int)
 Ca:(∀ x∈d.s.al.dn,x.wait.length≤400000)∧ ∀ r∈d.s.al.hJ,r.length≤400000
 N4:(d.i.op=35∨d.i.op=36)→d.i.n<(d.s.cj.length:Int)
 tl:∀ u∈d.s.cj,tY u
 Au:∀ u∈d.s.cj,(∀ w∈u.gM,0≤w∧bQ ps d.s w.toNat)∧(∀ x∈u.hZ,0≤x.who∧bQ ps d.s x.who.toNat)
 tw:∀ u∈d.s.cj, ∀ w∈u.words,0≤w∧w≤18446744073709551615
 dw:d.s.ca.wait.length≤1000000
 wn:0≤d.s.aT.now∧d.s.aT.now≤1099511627776
theorem ug{ps:List (Option Nat)}{d:Dng}{h:Int}(hs:∀ n,bC d.s.table h=some n→bQ ps d.s n)(e:(d.other h).2=0) :
  ∃ m q u,bC d.s.table h=some m∧(d.other h).1=m∧m≠d.n∧m<16∧ps[m]?=some (some q)∧d.s.aF[m]?=some (some u)∧gZ u∧u.bN=false∧u.ay = -1:=by
 cases hf:bC d.s.table h with
 | none=>rw[ue hf] at e;cases e
 | some m =>
  obtain⟨hm,q,u,hq,hu,hR⟩:=hs m hf
  by_cases h1:m=d.n∨u.bN=true
  ·rw[lK hf hu h1] at e;cases e
  ·by_cases h2:u.ay = -1
   ·exact⟨m,q,u,rfl,by rw[uf hf hu h1 h2],fun h=>h1 (.inl h),hm,hq,hu,hR,by cases hd:u.bN with | false=>rfl | true=>exact absurd (.inr hd) h1,h2⟩
   ·rw[oG hf hu h1 h2] at e;cases e
theorem pO{d:Dng}{h:Int}:0≤(d.other h).2∧(d.other h).2≤11:=by
 unfold Dng.other
 repeat' split
 all_goals (dsimp only;omega)
theorem He{d:lj}{r:wh}:0≤(d.ask r).1∧(d.ask r).1≤11:=by
 unfold lj.ask
 repeat' split
 all_goals (dsimp only;omega)
theorem Dx{g:Gates}{w m:Int}:0≤(g.lock w m).2.1∧(g.lock w m).2.1≤11:=by
 unfold Gates.lock
 repeat' split
 all_goals (dsimp only;omega)
theorem qW{g:Gates}{w m c:Int}:0≤(g.unlock w m c).2.2.1∧(g.unlock w m c).2.2.1≤11:=by
 unfold Gates.unlock
 repeat' split
 all_goals (dsimp only;omega)
theorem Dy{g:Gates}{w c m ch:Int}:0≤(g.wait w c m ch).2.2.1∧(g.wait w c m ch).2.2.1≤11:=by
 unfold Gates.wait
 repeat' split
 all_goals (dsimp only;omega)
theorem Hf{g:Gates}{s c:Int}:0≤(g.up s c).2.2.1∧(g.up s c).2.2.1≤11:=by
 unfold Gates.up
 repeat' split
 all_goals (dsimp only;omega)
theorem Dz{g:Gates}{w s:Int}:0≤(g.down w s).2.1∧(g.down w s).2.1≤11:=by
 unfold Gates.down
 repeat' split
 all_goals (dsimp only;omega)
theorem il{g:Gates}{c ch:Int}{a:Bool}:0≤(g.signal c ch a).2.1∧(g.signal c ch a).2.1≤11:=by
 unfold Gates.signal
 repeat' split
 all_goals (dsimp only;omega)
theorem qX{l:List eW}{c:Int}(h:(aM l c).2.1=true):(aM l c).1∈l:=by
 by_cases h0:l.length=0
 ·rw[yq h0] at h;cases h
 ·exact(kP h0).1
theorem uh{g:Gates}{w m c:Int}(h:(g.unlock w m c).2.1=true):g.has (g.unlock w m c).1:=by
 unfold Gates.unlock at h ⊢
 split
 ·rename_i e;rw[e] at h;cases h
 ·rename_i x e
  rw[e] at h;simp only at h ⊢
  split
  ·rename_i hi;rw[if_pos hi] at h
   exact .inl ⟨x,List.mem_of_getElem? (ck e).2.2,_,qX h,rfl⟩
  ·rename_i hi;rw[if_neg hi] at h;cases h
theorem Ah{g:Gates}{w c m ch:Int}(h:(g.wait w c m ch).2.1=true):g.has (g.wait w c m ch).1:=by
 unfold Gates.wait at h ⊢
 split
 ·rename_i x r e1 e2
  rw[e1,e2] at h;simp only at h ⊢
  repeat' split at h
  all_goals first | (cases h;done) | skip
  rename_i h1 h2
  rw[if_neg h1,if_pos h2]
  exact .inl ⟨x,List.mem_of_getElem? (ck e1).2.2,_,qX h,rfl⟩
 ·rename_i hn
  split at h
  ·rename_i x r e1 e2;exact absurd e2 (hn x r e1)
  ·cases h
theorem Hg{g:Gates}{s c:Int}(h:(g.up s c).2.1=true):g.has (g.up s c).1:=by
 unfold Gates.up at h ⊢
 split
 ·rename_i e;rw[e] at h;cases h
 ·rename_i x e
  rw[e] at h;simp only at h ⊢
  split
  ·rename_i hi
   exact .inr (.inr ⟨x,List.mem_of_getElem? (ck e).2.2,_,qX hi,rfl⟩)
  ·rename_i hi;rw[if_neg hi] at h
   split at h <;> cases h
end Go.SLYtpbjdoplfgeliaaGreat
namespace Go.SLYtpbjdoplfgeliaaGreat
open Go Go.RowKit
theorem bQ.pass{ps:List (Option Nat)}{d:Dng}{t:bI}{m:Nat}{x y e:Int}(h:bQ ps d.s m)(ht:d.s.aF[d.n]?=some (some t))(hR:gZ t)(he:0≤e∧e≤11):bQ ps (d.pass x y e).s m:=by
 have:bQ ps (d.tell x y e true).s m:=h.of rfl
 have h2:=this.aX (n:=d.n) (hR.put (i:=7) (x:=e) (by omega))
 unfold Dng.pass;rw[dj ht];exact h2
theorem bQ.block{ps:List (Option Nat)}{d:Dng}{t:bI}{m:Nat}{w i x y:Int}(h:bQ ps d.s m)(ht:d.s.aF[d.n]?=some (some t))(hR:gZ t)(hi : -1≤i∧i<8):bQ ps (d.block w i x y).s m:=by
 have:bQ ps (d.tell x y 0 false).s m:=h.of rfl
 have h2:=this.aX (n:=d.n) (hR.with (a:=w) (b:=d.i.op) hi)
 unfold Dng.block;rw[dj ht];exact h2
theorem Mb{c:Int}(h:0≤c∧c<8):BG c=c:=by unfold BG;omega
theorem Hh{u:Tub}{who x:Int}(h:(u.put who x).2.2.1=true):(u.put who x).2.1∈u.gM:=by
 cases hw:u.waits who with
 | true=>rw[wI hw] at h;cases h
 | false =>
  cases hg:u.gM with
  | cons w r=>rw[sK hw hg];exact List.mem_cons_self
  | nil =>
   by_cases hr:(u.words.length:Int)<u.room
   ·rw[pH hw hg hr] at h;cases h
   ·rw[pI hw hg hr] at h;cases h
theorem Hi{u:Tub}{who:Int}(h:(u.get who).2.2.2.1=true):∃ x∈u.hZ,x.who=(u.get who).2.2.1:=by
 cases hw:u.waits who with
 | true=>rw[qS hw] at h;cases h
 | false =>
  cases hg:u.words with
  | nil=>rw[get_none hw hg] at h;cases h
  | cons w r =>
   cases hp:u.hZ with
   | nil=>rw[pJ hw hg hp] at h;cases h
   | cons q r2=>rw[pK hw hg hp];exact⟨q,List.mem_cons_self,rfl⟩
theorem Hj{u:Tub}{who:Int}(h:∀ w∈u.words,0≤w∧w≤18446744073709551615):0≤(u.get who).1∧(u.get who).1≤18446744073709551615:=by
 have h0:(0:Int)≤0∧(0:Int)≤18446744073709551615:=by decide
 cases hw:u.waits who with
 | true=>rw[qS hw];exact h0
 | false =>
  cases hg:u.words with
  | nil=>rw[get_none hw hg];exact h0
  | cons w r =>
   have:=h w (by rw[hg];exact List.mem_cons_self)
   cases hp:u.hZ with
   | nil=>rw[pJ hw hg hp];exact this
   | cons q r2=>rw[pK hw hg hp];exact this
theorem DA{d:Dng}{xs:List (Nat×Tub)}(hxs:xs.map (·.2)=d.s.cj)(h0:0≤d.i.n)(h:d.i.n<(d.s.cj.length:Int)):∃ q,xs[d.i.n.toNat]?=some (q,d.bW)∧d.bW∈d.s.cj:=by
 have hl:xs.length=d.s.cj.length:=by rw[← hxs,List.length_map]
 obtain⟨⟨q,u⟩,hx⟩:=ai (show d.i.n.toNat<xs.length by omega)
 have hu:=eU hxs hx
 have:d.bW=u:=by unfold Dng.bW;rw[List.getD_eq_getElem?_getD,hu];rfl
 exact⟨q,by rw[this];exact hx,by rw[this];exact List.mem_of_getElem? hu⟩
theorem wJ{s:Spc}{f arg:Int}{n:Nat}(h:slotFree? s.table 0=some n)(hl:n<s.aF.length):∃ t,(s.begin f arg).2.2.aF[n]?=some (some t)∧t=sr f arg (et ((s.table.getD n (false,0)).2+1) n):=by
 rw[fc h]
 exact⟨_,List.getElem?_set_self hl,rfl⟩
end Go.SLYtpbjdoplfgeliaaGreat
namespace Go.SLYtpbjdoplfgeliaaGreat
open Go Go.RowKit
theorem BZ(s:Spc)(a b:List Int):cN s (a++b)=cN (cN s a) b:=by
 induction a generalizing s with
 | nil=>rfl
 | cons x l ih=>exact ih _
theorem yB(s:Spc)(a:List Int):(cN s a).al=s.al:=by
 induction a generalizing s with
 | nil=>rfl
 | cons x l ih=>exact(ih _).trans rfl
theorem ui{ps:List (Option Nat)}{s:Spc}(m:Nat)(a:List Int)(h:bQ ps s m):bQ ps (cN s a) m:=by
 induction a generalizing s with
 | nil=>exact h
 | cons x l ih =>
  refine ih ?_
  by_cases hx:∃ t,s.aF[x.toNat]?=some (some t)
  ·obtain⟨t,ht⟩:=hx
   rw[show s.t x.toNat=t from dS ht]
   obtain⟨hm,q,u,hq,hu,hR⟩:=h
   rcases Decidable.em (x.toNat=m) with e | hne
   ·subst e
    rw[ht] at hu;cases hu
    exact⟨hm,q,_,hq,dp ht,⟨hR.l,hR.r,hR.i,hR.v,hR.h⟩⟩
   ·exact⟨hm,q,u,hq,fC hu hne,hR⟩
  ·obtain⟨hm,q,u,hq,hu,hR⟩:=h
   exact⟨hm,q,u,hq,fC hu (fun e=>hx ⟨u,by rw[e];exact hu⟩),hR⟩
theorem gZ.fz{t:bI}(h:gZ t){y:Int}(hy:0≤y∧y≤18446744073709551615):gZ (t.fz y):=by
 have h1:gZ (if t.bZ = -1 then t else t.put t.bZ y):=by split;exact h;exact h.put hy
 have h2:=h1.put (i:=7) (x:=0) (by decide)
 exact⟨h2.l,h2.r,by show(-1:Int)≤ -1∧(-1:Int)<8;decide,h2.v,h2.h⟩
theorem yC(d:Dng)(a:List Int)(n:Int):d.dA (a++[n])=(d.dA a).cq n.toNat 0:=by
 induction a generalizing d with
 | nil=>rfl
 | cons x l ih=>exact ih _
theorem rR(d:Dng)(a:List Int):(d.dA a).ends.length=d.ends.length+a.length∧(d.dA a).out.av.length=d.out.av.length+a.length:=by
 induction a generalizing d with
 | nil=>exact⟨rfl,rfl⟩
 | cons x l ih =>
  have:=ih (d.cq x.toNat 0)
  simp only[Dng.cq,List.length_append,List.length_cons,List.length_nil] at this
  show(Dng.dA (d.cq x.toNat 0) l).ends.length=_∧(Dng.dA (d.cq x.toNat 0) l).out.av.length=_
  rw[List.length_cons]
  exact⟨by have:=this.1;simp only[Dng.cq] at this ⊢;omega,by have:=this.2;simp only[Dng.cq] at this ⊢;omega⟩
theorem wK{ps:List (Option Nat)}{d:Dng}{m n:Nat}(h:bQ ps d.s m)(hn:bQ ps d.s n):bQ ps (d.cq n 0).s m:=by
 obtain⟨hn16,q,u,hq,hu,hR⟩:=hn
 have:=h.aX (n:=n) (hR.fz (y:=0) (by decide))
 unfold Dng.cq Spc.dN
 simp only
 rw[dS hu];exact this
theorem yD{ps:List (Option Nat)}(m:Nat)(a:List Int):∀ (d:Dng),bQ ps d.s m→(∀ w∈a,bQ ps d.s w.toNat)→bQ ps (d.dA a).s m:=by
 induction a with
 | nil=>intro d h _;exact h
 | cons x l ih =>
  intro d h ha
  have hx:=ha x List.mem_cons_self
  exact ih _ (wK h hx) (fun w hw=>wK (ha w (List.mem_cons_of_mem _ hw)) hx)
def eH(d:Dng)(k:Nat):List Int:=(d.s.al.dn.take k).flatMap fun m=>m.wait.map (·.who)
theorem yE{d:Dng}{k:Nat}{x:eK}(h:d.s.al.dn[k]?=some x):eH d (k+1)=eH d k++x.wait.map (·.who):=by
 unfold eH
 rw[aW h,List.flatMap_append];simp
theorem DB:∀ (n:Nat) (c:Int) (r:List eW) (ms:List eK) (out:List Int),n≤r.length→ ∀ w∈(sigLoop n c r ms out).2.2,w∈out∨ ∃ y∈r,y.who=w
 | 0,_,_,_,_,_,_,h=>.inl h
 | n+1,c,r,ms,out,hn,w,h=>by
  unfold sigLoop at h
  simp only at h
  obtain⟨h1,h2,h3⟩:=kP (l:=r) (c:=c) (by omega)
  rcases DB n c _ _ _ (by omega) w h with h | ⟨y,hy,e⟩
  ·split at h
   ·rcases List.mem_append.1 h with h | h
    ·exact .inl h
    ·rw[List.mem_singleton] at h;exact .inr ⟨_,h1,h.symm⟩
   ·exact .inl h
  ·exact .inr ⟨y,h3 y hy,e⟩
theorem DC:∀ (n:Nat) (c:Int) (r:List eW) (ms:List eK) (out:List Int),(sigLoop n c r ms out).2.2.length≤out.length+n
 | 0,_,_,_,_=>by simp[sigLoop]
 | n+1,c,r,ms,out=>by
  unfold sigLoop
  simp only
  refine Nat.le_trans (DC n c _ _ _) ?_
  split
  ·rw[List.length_append];simp;omega
  ·omega
theorem lL{g:Gates}{c ch:Int}{all:Bool}:∀ w∈(g.signal c ch all).1,g.has w:=fun w h=>by
 unfold Gates.signal at h
 split at h
 ·cases h
 ·rename_i r e
  rcases DB _ _ _ _ _ (by split <;> omega) w h with h | ⟨y,hy,e2⟩
  ·cases h
  ·exact .inr (.inl ⟨r,List.mem_of_getElem? (ck e).2.2,y,hy,e2⟩)
theorem oH{g:Gates}{c ch:Int}{all:Bool}(hg:∀ r∈g.hJ,r.length≤400000):(g.signal c ch all).1.length≤400000:=by
 unfold Gates.signal
 split
 ·simp
 ·rename_i r e
  have:=hg r (List.mem_of_getElem? (ck e).2.2)
  refine Nat.le_trans (DC _ _ _ _ _) ?_
  simp only[List.length_nil]
  split <;> omega
theorem pP:∀ (n:Nat) (c:Int) (r:List eW) (ms:List eK) (out:List Int),(sigLoop n c r ms out).2.1.length=ms.length
 | 0,_,_,_,_=>rfl
 | n+1,c,r,ms,out=>by unfold sigLoop;simp only;rw[pP n,List.length_set]
theorem ka{g:Gates}{c ch:Int}{all:Bool}:(g.signal c ch all).2.2.dn.length=g.dn.length:=by
 unfold Gates.signal
 split
 ·rfl
 ·exact pP _ _ _ _ _
theorem wL:∀ (n:Nat) (c:Int) (r:List eW) (ms:List eK) (out:List Int) (N:Nat),n≤r.length→(∀ x∈ms,x.wait.length≤N)→ ∀ x∈(sigLoop n c r ms out).2.1,x.wait.length≤N+n∧ ∀ y∈x.wait,(∃ x'∈ms,y∈x'.wait)∨ ∃ z∈r,z.who=y.who
 | 0,_,_,_,_,_,_,hN,x,h=>⟨hN x h,fun y hy=>.inl ⟨x,h,hy⟩⟩
 | n+1,c,r,ms,out,N,hn,hN,x,h=>by
  unfold sigLoop at h
  simp only at h
  obtain⟨h1,h2,h3⟩:=kP (l:=r) (c:=c) (by omega)
  have hl:∀ x∈ms.set (aM r c).1.mutex.toNat ((ms.getD (aM r c).1.mutex.toNat ⟨[],false,0⟩).lock (aM r c).1.who).2,x.wait.length≤N+1∧ ∀ y∈x.wait,(∃ x'∈ms,y∈x'.wait)∨y.who=(aM r c).1.who:=by
   intro x hx
   rcases List.mem_or_eq_of_mem_set hx with hx | rfl
   ·exact⟨by have:=hN x hx;omega,fun y hy=>.inl ⟨x,hx,hy⟩⟩
   ·have hg:∀ (z:eK),(z∈ms∨z=⟨[],false,0⟩)→(z.lock (aM r c).1.who).2.wait.length≤N+1∧ ∀ y∈(z.lock (aM r c).1.who).2.wait,(∃ x'∈ms,y∈x'.wait)∨y.who=(aM r c).1.who:=by
     intro z hz
     have hzl:z.wait.length≤N:=by
      rcases hz with hz | rfl
      ·exact hN z hz
      ·exact Nat.zero_le _
     unfold eK.lock
     split
     ·refine⟨by rw[List.length_append];simp;omega,fun y hy=>?_⟩
      rcases List.mem_append.1 hy with hy | hy
      ·rcases hz with hz | rfl
       ·exact .inl ⟨z,hz,hy⟩
       ·cases hy
      ·rw[List.mem_singleton] at hy;exact .inr (by rw[hy])
     ·refine⟨by show z.wait.length≤_;omega,fun y hy=>?_⟩
      rcases hz with hz | rfl
      ·exact .inl ⟨z,hz,hy⟩
      ·cases hy
    refine hg _ ?_
    rw[List.getD_eq_getElem?_getD]
    cases e:ms[(aM r c).1.mutex.toNat]? with
    | none=>exact .inr rfl
    | some z=>exact .inl (List.mem_of_getElem? e)
  obtain⟨g1,g2⟩:=wL n c _ _ _ (N+1) (by omega) (fun x hx=>(hl x hx).1) x h
  refine⟨by omega,fun y hy=>?_⟩
  rcases g2 y hy with ⟨x',hx',hy'⟩ | ⟨z,hz,e⟩
  ·rcases(hl x' hx').2 y hy' with hh | hh
   ·exact .inl hh
   ·exact .inr ⟨_,h1,hh.symm⟩
  ·exact .inr ⟨z,h3 z hz,e⟩
theorem lM{g:Gates}{c ch:Int}{all:Bool}(h1:∀ x∈g.dn,x.wait.length≤400000)(h2:∀ r∈g.hJ,r.length≤400000):∀ x∈(g.signal c ch all).2.2.dn,x.wait.length≤1000000∧ ∀ y∈x.wait,g.has y.who:=by
 intro x hx
 unfold Gates.signal at hx
 split at hx
 ·exact⟨Nat.le_trans (h1 x hx) (by decide),fun y hy=>.inl ⟨x,hx,y,hy,rfl⟩⟩
 ·rename_i r e
  have hr:=List.mem_of_getElem? (ck e).2.2
  have hrl:=h2 r hr
  obtain⟨a,b⟩:=wL _ _ _ _ _ 400000 (by split <;> omega) h1 x hx
  have hif:(if all=true then r.length else min r.length 1)≤r.length:=by split <;> omega
  refine⟨by omega,fun y hy=>?_⟩
  rcases b y hy with ⟨x',hx',hy'⟩ | ⟨z,hz,e2⟩
  ·exact .inl ⟨x',hx',y,hy',rfl⟩
  ·exact .inr (.inl ⟨r,hr,z,hz,e2⟩)
end Go.SLYtpbjdoplfgeliaaGreat
namespace Go.SLYtpbjdoplfgeliaaGreat
open Go Go.RowKit
structure hU(s:Spc):Prop where
 lt:s.aF.length=16
 T:jB s.table
 R:∀ (n:Nat) (t:bI),s.aF[n]?=some (some t)→gZ t∧0≤t.pc∧t.pc≤257
 slot:∀ (h:Int) (m:Nat),bC s.table h=some m→ ∃ t,s.aF[m]?=some (some t)
 free:∀ n:Nat,slotFree? s.table 0=some n→s.aF[n]?=some none
 join:∀ (n:Nat) (t:bI),s.aF[n]?=some (some t)→t.cS=0→¬t.ay = -1→0≤t.ay∧t.ay.toNat≠n∧ ∃ u,s.aF[t.ay.toNat]?=some (some u)
 aA:s.aA.length≤800000000
 mem:s.mem.length≤1000000
 gl:gO s.al
 J8:∀ x∈s.al.ez,0≤x.count∧x.count≤1048576
 J9:∀ r∈s.al.hJ, ∀ w∈r,0≤w.mutex∧w.mutex<(s.al.dn.length:Int)
 jb:∀ w,s.al.has w→0≤w∧ ∃ u,s.aF[w.toNat]?=some (some u)
 Ka:s.fb.bx≤(s.al.dn.length:Int)
 Ca:(∀ x∈s.al.dn,x.wait.length≤400000)∧ ∀ r∈s.al.hJ,r.length≤400000
 code:∀ f∈s.fb.funcs, ∀ i∈f,oa i∧(cls i.op≠1→i.n≤1099511627776)∧(i.op=35∨i.op=36→i.n<(s.cj.length:Int))
 Av:s.fb.funcs.length≤1000000∧ ∀ f∈s.fb.funcs,f.length≤256
 tl:∀ u∈s.cj,tY u
 Au:∀ u∈s.cj,(∀ w∈u.gM,0≤w∧ ∃ v,s.aF[w.toNat]?=some (some v))∧(∀ x∈u.hZ,0≤x.who∧ ∃ v,s.aF[x.who.toNat]?=some (some v))
 tw:∀ u∈s.cj, ∀ w∈u.words,0≤w∧w≤18446744073709551615
 dw:s.ca.wait.length≤1000000
 db:∀ r∈s.ca.wait,0≤r.block∧r.block<(s.ca.blocks.length:Int)
 Np:∀ r∈s.ca.wait,0≤r.who∧ ∃ v,s.aF[r.who.toNat]?=some (some v)
 wn:0≤s.aT.now∧s.aT.now≤1099511627776
 wl:s.aT.ia.length≤1000000
 Nq:∀ x∈s.aT.ia,0≤x.1∧ ∃ v,s.aF[x.1.toNat]?=some (some v)
theorem hU.live{s:Spc}(h:hU s){ps:List (Option Nat)}(hs:ye ps s.aF){m:Nat}{t:bI}(e:s.aF[m]?=some (some t)):bQ ps s m:=by
 obtain⟨q,hq⟩:=hs.2.1 m t e
 exact⟨h.lt ▸ (List.getElem?_eq_some_iff.1 e).1,q,t,hq,e,(h.R m t e).1⟩
theorem gZ.nE{t:bI}(h:gZ t)(hp:0≤t.pc∧t.pc≤257):Dp t.nE:=⟨h.l,by show 0≤t.pc∧t.pc≤_;omega,h.r⟩
theorem hU.call{s:Spc}(h:hU s){ps:List (Option Nat)}(hs:ye ps s.aF){k:Nat}{t:bI}{i:Ins}{choice:Int}(ht:s.aF[k]?=some (some t))(hw:t.cS=0)(hI:oa i)(hn:i.n≤1099511627776)(htub:i.op=35∨i.op=36→i.n<(s.cj.length:Int)) :
  iX ps ((s.dR k i choice).aX {t with pc:=t.pc+1 }) {t with pc:=t.pc+1 }:=by
 have hk16:k<16:=h.lt ▸ (List.getElem?_eq_some_iff.1 ht).1
 have hR:=(h.R k t ht).1
 have hR2:gZ {t with pc:=t.pc+1 }:=⟨hR.l,hR.r,hR.i,hR.v,hR.h⟩
 have lv:∀ {m:Nat} {u:bI},s.aF[m]?=some (some u)→bQ ps (s.aX k {t with pc:=t.pc+1 }) m:=fun e=>(h.live hs e).aX hR2
 refine⟨hk16,hR2,?_,hs.1.trans h.lt,h.T,fun x m e=>?_,fun n e=>?_,fun hj=>?_,hI,hn,Nat.le_trans h.aA (by decide),Nat.zero_le _,Nat.zero_le _,h.mem,h.gl,h.J8,h.J9,fun w hw=>?_,h.Ka,h.Ca,htub,h.tl,fun u hu=>⟨fun w hw=>?_,fun x hx=>?_⟩,h.tw,h.dw,h.wn⟩
 ·show(s.aF.set k _).length=16
  rw[List.length_set];exact h.lt
 ·obtain⟨u,hu⟩:=h.slot x m e;exact lv hu
 ·have:=h.free n e
  show(s.aF.set k _)[n]?=_
  rw[List.getElem?_set_ne (fun e=>by rw[e,this] at ht;cases ht)];exact this
 ·obtain⟨a,b,u,hu⟩:=h.join k t ht hw hj
  exact⟨a,b,lv hu⟩
 ·obtain⟨a,u,hu⟩:=h.jb w hw;exact⟨a,lv hu⟩
 ·obtain⟨a,u,hu⟩:=(h.Au u hu).1 w hw;exact⟨a,lv hu⟩
 ·obtain⟨a,u,hu⟩:=(h.Au u hu).2 x hx;exact⟨a,lv hu⟩
theorem hU.Le{s:Spc}(h:hU s){ps:List (Option Nat)}(hs:ye ps s.aF){k:Nat}{t:bI}(ht:s.aF[k]?=some (some t))(hw:t.cS=0):¬t.ay = -1→0≤t.ay∧t.ay.toNat≠k∧bQ ps s t.ay.toNat:=fun hj=>by
 obtain⟨a,b,u,hu⟩:=h.join k t ht hw hj
 exact⟨a,b,h.live hs hu⟩
theorem wM{s:Spc}(h:hU s){f:iZ}{i:Ins}(e:dZ s.fb f=some i):oa i∧(cls i.op≠1→i.n≤1099511627776)∧(i.op=35∨i.op=36→i.n<(s.cj.length:Int)):=by
 unfold dZ at e
 split at e
 ·cases e
 ·have hi:=List.mem_of_getElem? e
  cases hf:s.fb.funcs[f.fn.toNat]? with
  | none=>rw[List.getD_eq_getElem?_getD,hf] at hi;cases hi
  | some g=>rw[List.getD_eq_getElem?_getD,hf] at hi;exact h.code g (List.mem_of_getElem? hf) i hi
theorem Hk{s:Spc}{ps:List (Option Nat)}(hs:ye ps s.aF){n:Int}(h:yz ps n=none)(hl:s.aF.length=16):s.at n=none:=by
 unfold yz at h
 unfold Spc.at aL
 split
 ·rfl
 ·rename_i h0
  by_cases hn:n<16
  ·rw[if_pos ⟨by omega,hn⟩] at h
   obtain⟨x,hx⟩:=ai (show n.toNat<s.aF.length by omega)
   rw[hx]
   cases x with
   | none=>rfl
   | some t=>obtain⟨q,hq⟩:=hs.2.1 _ t hx;rw[aP hq] at h;cases h
  ·rw[List.getElem?_eq_none (by omega)];rfl
theorem B0{s:Spc}{ps:List (Option Nat)}(hs:ye ps s.aF){n:Int}{p:Nat}(h:yz ps n=some p)(hl:s.aF.length=16):∃ k:Nat, ∃ t,n=(k:Int)∧k<16∧ps[k]?=some (some p)∧s.aF[k]?=some (some t)∧s.at n=some t:=by
 unfold yz at h
 split at h
 ·rename_i h0
  have hp:ps[n.toNat]?=some (some p):=by
   rw[List.getD_eq_getElem?_getD] at h
   cases e:ps[n.toNat]? with
   | none=>rw[e] at h;cases h
   | some x=>rw[e] at h;simp only[Option.getD_some] at h;rw[h]
  obtain⟨x,hx⟩:=ai (show n.toNat<s.aF.length by omega)
  cases x with
  | none=>have:=hs.2.2 _ hx;rw[hp] at this;cases this
  | some t=>exact⟨n.toNat,t,by omega,by omega,hp,hx,by unfold Spc.at aL;rw[if_neg (by omega),hx];rfl⟩
 ·cases h
section
variable{P:Program}{W:World}
theorem Fn.Ol{f:FuncId}{args:List Value}{X X1:Type}{val:X→Value}{fact:X→Prop}{p:X1→Prop}{A:X1→List aa}(h:∀ x,p x→Fn P W f args [seps (A x)] X val fact (fun _=>[seps (A x)])):Fn P W f args [jd p A] X val fact (fun _=>[jd p A]):=fun F w hs=>by
 have h1:Sat W w (sep (ex fun x:{x // p x }=>seps (A x.1)) F):=hs.mono (bB (fun g b=>by
  obtain⟨x,hx,b⟩:jd p A g:=by simpa only[seps,aK] using b
  exact⟨⟨x,hx⟩,b⟩) (fun g b=>b))
 obtain⟨x,h2⟩:=h1.exists
 refine(h x.1 x.2 F w (by simpa only[seps,aK] using h2)).mono ?_
 rintro e w' ⟨y,e1,e2,s⟩
 exact⟨y,e1,e2,s.mono (bB (fun g b=>by
  have b':seps (A x.1) g:=by simpa only[seps,aK] using b
  show seps [jd p A] g
  simp only[seps,aK]
  exact⟨x.1,x.2,b'⟩) (fun g b=>b))⟩
end
theorem Ai{s:Spc}{n c:Int}(h:s.at n=none):s.run n c=(lG.z,1,s):=by unfold Spc.run;rw[h]
theorem Aj{s:Spc}{n c:Int}{t:bI}(h:s.at n=some t)(hw:t.cS≠0):s.run n c=(lG.z,4,s):=by unfold Spc.run;rw[h];simp only;rw[if_pos hw]
theorem DD{s:Spc}{k:Nat}{c:Int}{t:bI}(h:s.at (k:Int)=some t)(hw:¬t.cS≠0)(hn:dZ s.fb t.nE=none){z:Dng}(hz:z=((s.dR k ⟨23,0,0,0,0⟩ c).tell 0 0 0 true).fin 0):s.run (k:Int) c=(z.finish.1,0,z.finish.2):=by
 unfold Spc.run;rw[h];simp only;rw[if_neg hw,hn];subst hz;rfl
theorem wN{s:Spc}{k:Nat}{c:Int}{t:bI}{i:Ins}(h:s.at (k:Int)=some t)(hw:¬t.cS≠0)(hn:dZ s.fb t.nE=some i)(hc:cls i.op=1){z:Dng}(hz:z=(s.dR k i c).plain):s.run (k:Int) c=(z.finish.1,0,z.finish.2):=by
 unfold Spc.run;rw[h];simp only;rw[if_neg hw,hn];simp only;rw[if_pos hc];subst hz;rfl
theorem Ak{s:Spc}{k:Nat}{c:Int}{t:bI}{i:Ins}(h:s.at (k:Int)=some t)(hw:¬t.cS≠0)(hn:dZ s.fb t.nE=some i)(hc:¬cls i.op=1){z:Dng}(hz:z=((s.dR k i c).aX {t with pc:=t.pc+1 }).call):s.run (k:Int) c=(z.finish.1,0,z.finish.2):=by
 unfold Spc.run;rw[h];simp only;rw[if_neg hw,hn];simp only;rw[if_neg hc];subst hz;rfl
theorem Mc(t:bI)(x:Int):(bn t).set 1 (.int .i64 x)=bn {t with pc:=x }:=rfl
def Al(fv sv pv:Value)(p:gn):List Value:=[fv,.int .i64 p.words,.int .i64 p.bx,.int .i64 p.conds,sv,pv,.int .i64 p.blocks,.int .i64 p.prio]
end Go.SLYtpbjdoplfgeliaaGreat
namespace Go.SLYtpbjdoplfgeliaaGreat
open Go Go.RowKit
def eF(d e:Dng)(a n:Nat):Prop:=e.s.aA.length≤d.s.aA.length+a∧e.ends.length≤d.ends.length+n
theorem eF.refl{d:Dng}:eF d d 0 0:=⟨Nat.le_refl _,Nat.le_refl _⟩
theorem eF.up{d e:Dng}{a n a' n':Nat}(h:eF d e a n)(ha:a≤a')(hn:n≤n'):eF d e a' n':=⟨Nat.le_trans h.1 (by omega),Nat.le_trans h.2 (by omega)⟩
theorem eF.trans{d e f:Dng}{a n a' n':Nat}(h:eF d e a n)(k:eF e f a' n'):eF d f (a+a') (n+n'):=⟨by have:=h.1;have:=k.1;omega,by have:=h.2;have:=k.2;omega⟩
theorem eF.same{d e:Dng}(h1:e.s.aA=d.s.aA)(h2:e.ends=d.ends):eF d e 0 0:=⟨by rw[h1];exact Nat.le_refl _,by rw[h2];exact Nat.le_refl _⟩
theorem gC{d:Dng}{x y e:Int}{f:Bool}:eF d (d.tell x y e f) 1 0:=⟨by simp[Dng.tell,Spc.tell],Nat.le_refl _⟩
theorem bX{d:Dng}{x y e:Int}:eF d (d.pass x y e) 1 0:=⟨by simp[Dng.pass,Dng.aX,Spc.aX,Dng.tell,Spc.tell],Nat.le_refl _⟩
theorem fD{d:Dng}{w i x y:Int}:eF d (d.block w i x y) 1 0:=⟨by simp[Dng.block,Dng.aX,Spc.aX,Dng.tell,Spc.tell],Nat.le_refl _⟩
theorem nG{d:Dng}{n:Nat}{y:Int}:eF d (d.cq n y) 0 1:=⟨by simp[Dng.cq,Spc.dN,Spc.aX],by simp[Dng.cq]⟩
theorem kQ{d:Dng}{v:Int}:eF d (d.fin v) 0 1:=by
 unfold Dng.fin
 split
 ·exact(eF.same rfl rfl).up (Nat.le_refl _) (by decide)
 ·split
  ·exact(eF.same rfl rfl).up (Nat.le_refl _) (by decide)
  ·exact(eF.same (d:=d) (e:=d.ended) rfl rfl).trans (nG.trans (eF.same rfl rfl))
theorem oI{d:Dng}:eF d d.plain 1 1:=by
 unfold Dng.plain
 split
 ·have:∀ e:Dng,eF d e 1 0→ ∀ s:Spc,s.aA=e.s.aA→eF d {e with s:=s } 1 1:=fun e h s hs=>⟨by show s.aA.length≤_;rw[hs];exact h.1,Nat.le_trans h.2 (by omega)⟩
  simp only
  refine this _ ?_ _ rfl
  split
  ·exact gC
  ·split
   ·exact gC
   ·exact eF.refl.up (by decide) (by decide)
 ·split
  ·exact gC.trans kQ
  ·exact gC.trans kQ
theorem oJ{d:Dng}{n:Int}{ok:Bool}:eF d (d.given n ok) 0 1:=by
 unfold Dng.given
 split
 ·exact nG
 ·exact eF.refl.up (by decide) (by decide)
theorem cA{d e f:Dng}{a n:Nat}(h:eF e f a n)(h1:e.s.aA=d.s.aA)(h2:e.ends=d.ends):eF d f a n:=⟨by rw[← h1];exact h.1,by rw[← h2];exact h.2⟩
theorem jK{s:Spc}{f a:Int}:(s.begin f a).2.2.aA=s.aA:=by
 unfold Spc.begin
 split <;> rfl
theorem B1{d:Dng}:eF d d.spawn 1 1:=by
 unfold Dng.spawn
 refine eF.up (a:=1) (n:=0) ?_ (Nat.le_refl _) (by decide)
 exact cA bX (jK (s:=d.s) (f:=d.i.n) (a:=d.b)) rfl
theorem ER{d:Dng}:eF d d.join 1 1:=by
 unfold Dng.join
 simp only
 repeat' split
 ·exact bX.up (Nat.le_refl _) (by decide)
 ·exact(cA bX rfl rfl).up (Nat.le_refl _) (by decide)
 ·exact(cA fD rfl rfl).up (Nat.le_refl _) (by decide)
theorem Am{d:Dng}:eF d d.fW 1 1:=by
 unfold Dng.fW
 simp only
 repeat' split
 ·exact bX.up (Nat.le_refl _) (by decide)
 ·exact(cA bX rfl rfl).up (Nat.le_refl _) (by decide)
 ·exact(cA bX rfl rfl).up (Nat.le_refl _) (by decide)
theorem B2{d:Dng}:eF d d.mutex 1 1:=by
 unfold Dng.mutex
 simp only
 repeat' split
 ·exact(cA fD rfl rfl).up (Nat.le_refl _) (by decide)
 ·exact(cA bX rfl rfl).up (Nat.le_refl _) (by decide)
 ·exact cA (bX.trans oJ) rfl rfl
 ·exact(cA bX rfl rfl).up (Nat.le_refl _) (by decide)
 ·exact cA (fD.trans oJ) rfl rfl
theorem Hl{d:Dng}:eF d d.ez 1 1:=by
 unfold Dng.ez
 simp only
 repeat' split
 ·exact cA (bX.trans oJ) rfl rfl
 ·exact(cA fD rfl rfl).up (Nat.le_refl _) (by decide)
 ·exact(cA bX rfl rfl).up (Nat.le_refl _) (by decide)
theorem An{d:Dng}{b y i:Int}:eF d (d.ask b y i) 1 1:=by
 unfold Dng.ask
 simp only
 repeat' split
 ·exact(cA bX rfl rfl).up (Nat.le_refl _) (by decide)
 ·exact(cA fD rfl rfl).up (Nat.le_refl _) (by decide)
 ·exact bX.up (Nat.le_refl _) (by decide)
theorem Hm{d:Dng}:eF d d.put 1 1:=by
 unfold Dng.put
 simp only
 repeat' split
 ·exact(cA fD rfl rfl).up (Nat.le_refl _) (by decide)
 ·exact cA (bX.trans nG) rfl rfl
 ·exact(cA bX rfl rfl).up (Nat.le_refl _) (by decide)
theorem Hn{d:Dng}:eF d d.get 1 1:=by
 unfold Dng.get
 simp only
 repeat' split
 ·exact(cA fD rfl rfl).up (Nat.le_refl _) (by decide)
 ·exact cA (bX.trans nG) rfl rfl
 ·exact(cA bX rfl rfl).up (Nat.le_refl _) (by decide)
theorem B3{d:Dng}:eF d d.sleep 1 1:=by
 unfold Dng.sleep
 simp only
 repeat' split
 ·exact bX.up (Nat.le_refl _) (by decide)
 ·exact bX.up (Nat.le_refl _) (by decide)
 ·exact(cA fD rfl rfl).up (Nat.le_refl _) (by decide)
theorem Ao{d:Dng}:eF d d.kernel 1 1:=by
 unfold Dng.kernel
 repeat' split
 ·exact An
 ·exact An
 ·exact Hm
 ·exact Hn
 ·exact B3
 ·exact bX.up (Nat.le_refl _) (by decide)
theorem Ap(s:Spc)(a:List Int):(cN s a).aA=s.aA:=by
 induction a generalizing s with
 | nil=>rfl
 | cons x l ih=>exact(ih _).trans rfl
theorem yF(d:Dng)(a:List Int):(d.dA a).s.aA=d.s.aA:=by
 induction a generalizing d with
 | nil=>rfl
 | cons x l ih=>exact(ih _).trans rfl
theorem B4{d:Dng}{l:List Int}:eF d (d.mj l) 0 l.length:=by
 unfold Dng.mj
 refine⟨?_,?_⟩
 ·rw[yF];show(cN d.s d.waits).aA.length≤_;rw[Ap];exact Nat.le_refl _
 ·rw[(rR _ _).1];exact Nat.le_refl _
theorem qY{d:Dng}(h:∀ r∈d.s.al.hJ,r.length≤400000):eF d d.call 1 400001:=by
 unfold Dng.call
 simp only
 repeat' split
 ·exact B1.up (Nat.le_refl _) (by decide)
 ·exact(cA bX rfl rfl).up (Nat.le_refl _) (by decide)
 ·exact(bX (d:=d)).up (Nat.le_refl _) (by decide)
 ·exact ER.up (Nat.le_refl _) (by decide)
 ·exact Am.up (Nat.le_refl _) (by decide)
 ·exact(gC.trans kQ).up (Nat.le_refl _) (by decide)
 ·exact B2.up (Nat.le_refl _) (by decide)
 ·exact(cA (bX.trans B4) rfl rfl).up (Nat.le_refl _) (by have:=oH (c:=d.i.n) (ch:=d.choice) (all:=decide (d.i.op=29)) h;omega)
 ·exact Hl.up (Nat.le_refl _) (by decide)
 ·exact Ao.up (Nat.le_refl _) (by decide)
end Go.SLYtpbjdoplfgeliaaGreat
namespace Go.SLYtpbjdoplfgeliaaGreat
open Go Go.RowKit
section
variable{P:Program}
end
def J5(t:bI):List Value:=[.int .u64 t.handle,.int .i64 t.cS,.int .i64 t.fn,.int .i64 t.pc,.int .u64 (t.aE.getD 0 0),.int .u64 (t.aE.getD 1 0),.int .u64 (t.aE.getD 2 0),.int .u64 (t.aE.getD 3 0),.int .u64 (t.aE.getD 4 0),.int .u64 (t.aE.getD 5 0),.int .u64 (t.aE.getD 6 0),.int .u64 (t.aE.getD 7 0),.int .u64 t.value]
def Ho:bI:=⟨0,0,[],0,0,0,false,0,0,0⟩
theorem B5{s:Spc}{n:Int}(h:s.at n=none):s.class n=0:=by unfold Spc.class;rw[h]
theorem B6{s:Spc}{n:Int}{t:bI}(h:s.at n=some t)(hw:t.cS≠0):s.class n=0:=by unfold Spc.class;rw[h];simp only;rw[if_pos hw]
theorem ES{s:Spc}{n:Int}{t:bI}(h:s.at n=some t)(hw:¬t.cS≠0)(hn:dZ s.fb t.nE=none):s.class n=2:=by unfold Spc.class;rw[h];simp only;rw[if_neg hw,hn]
theorem B7{s:Spc}{n:Int}{t:bI}{i:Ins}(h:s.at n=some t)(hw:¬t.cS≠0)(hn:dZ s.fb t.nE=some i):s.class n=cls i.op:=by unfold Spc.class;rw[h];simp only;rw[if_neg hw,hn]
theorem Hp{d:lj}{k:Int}(h:(d.done k).2.2.1=true):(d.done k).1∈d.wait∧(d.done k).2.2.2.wait.length≤d.wait.length:=by
 unfold lj.done at h ⊢
 split at h
 ·cases h
 ·rename_i h0
  rw[if_neg h0]
  simp only
  have hm:d.wait.getD (pick k d.wait.length) ⟨0,0,false,0⟩∈d.wait:=by
   have:=j7 (t:=k) (n:=d.wait.length) (by omega)
   rw[List.getD_eq_getElem?_getD,List.getElem?_eq_getElem this];exact List.getElem_mem _
  split
  ·exact⟨hm,by simp only;rw[List.length_eraseIdx];split <;> omega⟩
  ·exact⟨hm,by simp only;rw[List.length_eraseIdx];split <;> omega⟩
theorem Md{b:Nat}{x:Int}:∀ h,seps [arr b 0 [.int .i64 x]] h→sl aq 1 (.slice (some ⟨b,0,none⟩) 1 1) [x] h:=fun h a=>by
 have a:arr b 0 [.int .i64 x] h:=by simpa only[seps,aK] using a
 exact .inr ⟨b,1,[],rfl,Nat.le_refl _,fun _ _=>rfl,rfl,a⟩
theorem ET{d:lj}{k:Int}(h:(d.done k).2.2.1=false):(d.done k).2.2.2=d:=by
 by_cases h0:d.wait.length=0
 ·rw[qT h0]
 ·cases hw:(d.wait.getD (pick k d.wait.length) yx).write with
  | true=>rw[oD h0 rfl hw] at h;cases h
  | false=>rw[qU h0 rfl hw] at h;cases h
theorem rS{s:Spc}{k:Int}(h:(s.ca.done k).2.2.1=false):s.done k=(lG.z,3,s):=by unfold Spc.done;simp only;rw[if_pos h]
theorem rT{s:Spc}{k:Int}{t:bI}(h:(s.ca.done k).2.2.1=true)(ht:s.aF[(s.ca.done k).1.who.toNat]?=some (some t)) :
  s.done k=(⟨[(s.ca.done k).1.who],false,false,false⟩,0,(({s with ca:=(s.ca.done k).2.2.2 }:Spc).dN (s.ca.done k).1.who.toNat (s.ca.done k).2.1).tell (t.ku (s.ca.done k).2.1)):=by
 unfold Spc.done;simp only;rw[if_neg (by rw[h];simp),show({s with ca:=(s.ca.done k).2.2.2 }:Spc).t (s.ca.done k).1.who.toNat=t from dS ht]
theorem yG(s:Spc)(a:List Int)(n:Int):cK s (a++[n])=((cK s a).dN n.toNat 0).tell (((cK s a).t n.toNat).ku 0):=by
 induction a generalizing s with
 | nil=>rfl
 | cons x l ih=>exact ih _
theorem yH{ps:List (Option Nat)}(m:Nat)(a:List Int):∀ (s:Spc),bQ ps s m→(∀ w∈a,bQ ps s w.toNat)→bQ ps (cK s a) m:=by
 induction a with
 | nil=>intro d h _;exact h
 | cons x l ih =>
  intro s h ha
  obtain⟨hn16,q,u,hq,hu,hR⟩:=ha x List.mem_cons_self
  have key:∀ {k:Nat},bQ ps s k→bQ ps ((s.dN x.toNat 0).tell ((s.t x.toNat).ku 0)) k:=fun hk=>by
   have:=hk.aX (n:=x.toNat) (hR.fz (y:=0) (by decide))
   refine bQ.of (s:=s.aX x.toNat (u.fz 0)) this ?_
   unfold Spc.tell Spc.dN;rw[dS hu]
  exact ih _ (key h) (fun w hw=>key (ha w (List.mem_cons_of_mem _ hw)))
theorem pQ(s:Spc)(a:List Int):(cK s a).aA.length=s.aA.length+a.length:=by
 induction a generalizing s with
 | nil=>rfl
 | cons x l ih =>
  show(cK _ l).aA.length=_
  rw[ih];simp[Spc.tell,Spc.dN,Spc.aX];omega
theorem J6{w:mu}{x:Int}(h:x∈w.due):∃ y∈w.ia,y.1=x:=by
 unfold mu.due at h
 have hs:∀ (l:List Int),x∈gx l→x∈l:=by
  intro l
  induction l with
  | nil=>exact fun h=>h
  | cons a l ih =>
   intro h
   have hi:∀ (m:List Int),x∈cZ a m→x=a∨x∈m:=by
    intro m
    induction m with
    | nil=>intro h;rcases List.mem_singleton.1 h with rfl;exact .inl rfl
    | cons b m ihm =>
     intro h
     unfold cZ at h
     split at h
     ·rcases List.mem_cons.1 h with h | h
      ·exact .inl h
      ·exact .inr h
     ·rcases List.mem_cons.1 h with h | h
      ·exact .inr (h ▸ List.mem_cons_self)
      ·rcases ihm h with h | h
       ·exact .inl h
       ·exact .inr (List.mem_cons_of_mem _ h)
   rcases hi _ h with h | h
   ·rw[h];exact List.mem_cons_self
   ·exact List.mem_cons_of_mem _ (ih h)
 obtain⟨y,hy,e⟩:=List.mem_map.1 (hs _ h)
 exact⟨y,(List.mem_filter.1 hy).1,e⟩
theorem EU(l:List Int):(gx l).length=l.length:=by
 induction l with
 | nil=>rfl
 | cons a l ih =>
  have hi:∀ (m:List Int),(cZ a m).length=m.length+1:=by
   intro m
   induction m with
   | nil=>rfl
   | cons b m ihm=>unfold cZ;split <;> simp[ihm]
  show(cZ a (gx l)).length=_
  rw[hi,ih,List.length_cons]
theorem pR(w:mu):w.due.length≤w.ia.length:=by
 unfold mu.due;rw[EU,List.length_map];exact List.length_filter_le ..
end Go.SLYtpbjdoplfgeliaaGreat
namespace Go.SLYtpbjdoplfgeliaaGreat
open Go Go.RowKit
def mX{α:Type}(f:α→Nat)(l:List α):Nat:=(l.map f).sum
theorem gd{α:Type}{f:α→Nat}:∀ {l:List α} {i:Nat} {x:α} (y:α),l[i]?=some x→mX f (l.set i y)+f x=mX f l+f y
 | a::l,0,x,y,h=>by
  obtain rfl:a=x:=by simpa using h
  simp[mX];omega
 | a::l,i+1,x,y,h=>by
  have:=gd (f:=f) (l:=l) (i:=i) y (by simpa using h)
  simp[mX] at this ⊢;omega
theorem eI{α:Type}{f:α→Nat}:∀ {l:List α} {x:α},x∈l→f x≤mX f l
 | a::l,x,h=>by
  rcases List.mem_cons.1 h with rfl | h
  ·simp[mX]
  ·have:=eI (f:=f) h
   simp[mX] at this ⊢;omega
theorem qZ{α:Type}{f:α→Nat}{l:List α}(h:∀ x∈l,f x=0):mX f l=0:=by
 induction l with
 | nil=>rfl
 | cons a l ih =>
  have:=ih (fun x hx=>h x (List.mem_cons_of_mem _ hx))
  have:=h a List.mem_cons_self
  simp[mX] at *;omega
theorem lN{α:Type}{P:α→Bool}:∀ {l:List α} {i:Nat} {x:α},l[i]?=some x→(l.eraseIdx i).countP P+(if P x=true then 1 else 0)=l.countP P
 | a::l,0,x,h=>by
  obtain rfl:a=x:=by simpa using h
  simp[List.countP_cons]
 | a::l,i+1,x,h=>by
  have:=lN (P:=P) (l:=l) (i:=i) (x:=x) (by simpa using h)
  simp[List.countP_cons] at this ⊢;omega
def Lf(w:Int)(x:eW):Bool:=decide (x.who=w)
def dQ(w:Int)(l:List eW):Nat:=l.countP (Lf w)
def cG(g:Gates)(w:Int):Nat:=mX (fun m:eK=>dQ w m.wait) g.dn+mX (dQ w) g.hJ+mX (fun m:k6=>dQ w m.wait) g.ez
def cU(w:Int)(u:Tub):Nat:=u.gM.count w+u.hZ.countP fun x=>decide (x.who=w)
def cT(l:List Tub)(w:Int):Nat:=mX (cU w) l
def cD(d:lj)(w:Int):Nat:=d.wait.countP fun r=>decide (r.who=w)
def cL(u:mu)(w:Int):Nat:=u.ia.countP fun x=>decide (x.1=w)
def jn(w:Int):Option bI→Nat
 | none=>0
 | some t=>if t.ay=w∧¬w = -1 then 1 else 0
def cJ(l:List (Option bI))(w:Int):Nat:=mX (jn w) l
def nV(s:Spc)(w:Int):Nat:=cG s.al w+cT s.cj w+cD s.ca w+cL s.aT w+cJ s.aF w
def bT(t:bI):Nat:=if t.cS=0∨t.cS=9 then 0 else 1
def bO:Option bI→Nat
 | none=>0
 | some t=>bT t
def rO:Option bI→Nat
 | none=>0
 | some t=>if t.cS=0 then 1 else 0
def dW(s:Spc)(w:Int):Nat:=bO (s.at w)
def c0(s:Spc)(w:Int):Nat:=rO (s.at w)
def fK(x:Int):Prop:=0≤x∧x≤18446744073709551615
structure sM(p:gn)(g:Gates):Prop where
 m:g.dn.length=p.bx.toNat
 c:g.hJ.length=p.conds.toNat
 s:g.ez.length=p.bK.length
 sc:∀ x∈g.ez,0≤x.count∧x.count≤1048576
 cm:∀ r∈g.hJ, ∀ w∈r,0≤w.mutex∧w.mutex<(g.dn.length:Int)
structure Lg(u:Tub):Prop where
 r:u.room≤8
 l:u.words.length≤8
 w:∀ x∈u.words,fK x
 p:∀ x∈u.hZ,fK x.x
structure B8(d:lj):Prop where
 l:d.blocks.length≤64
 b:∀ x∈d.blocks,fK x
 w:∀ r∈d.wait,0≤r.block∧r.block<(d.blocks.length:Int)∧fK r.x
structure Me(o:Bool×Int)(n:Nat)(t:bI):Prop where
 h:t.handle=et o.2 n
 R:gZ t
 pc:0≤t.pc∧t.pc≤257
 d:t.bN=true→t.ay = -1
 f:t.cS=9→t.ay = -1
def Hq(p:gn):Prop:=dD p=0∧ ∀ f∈p.funcs, ∀ i∈f,fK i.n
structure Ok(k:Nat)(s:Spc)(p q:List Int):Prop where
 DH:Hq s.fb
 lt:s.aF.length=16
 ll:s.table.length=16
 tk:∀ o∈s.table,0≤o.2∧o.2≤(k:Int)
 us:∀ n:Nat,n<16→((s.table.getD n (false,0)).1=true↔ ∃ t,s.aF[n]?=some (some t))
 th:∀ (n:Nat) (t:bI),s.aF[n]?=some (some t)→Me (s.table.getD n (false,0)) n t
 me:s.mem.length=s.fb.words.toNat∧ ∀ x∈s.mem,fK x
 gt:sM s.fb s.al
 tb:s.cj.length=s.fb.bf.length∧ ∀ u∈s.cj,Lg u
 dk:B8 s.ca
 wl:0≤s.aT.now∧s.aT.now≤1099511627776
 su:∀ w,nV s w+p.count w=dW s w+q.count w
/-! who is at a place -/
theorem oK{s:Spc}{n:Nat}:s.at (n:Int)=(s.aF[n]?).getD none:=by
 unfold Spc.at aL;rw[if_neg (by omega),Int.toNat_natCast]
theorem yI{s:Spc}{w:Int}(h:w<0):s.at w=none:=by unfold Spc.at aL;rw[if_pos h];rfl
theorem oL{s:Spc}{n:Nat}{o:Option bI}(hn:n<s.aF.length)(w:Int):({s with aF:=s.aF.set n o }:Spc).at w=if w=(n:Int) then o else s.at w:=by
 by_cases h0:w<0
 ·rw[yI h0,yI h0,if_neg (by omega)]
 ·obtain⟨m,rfl⟩:∃ m:Nat,w=(m:Int):=⟨w.toNat,by omega⟩
  rw[oK,oK]
  simp only
  by_cases e:m=n
  ·subst e;rw[List.getElem?_set_self hn,if_pos rfl];rfl
  ·rw[List.getElem?_set_ne (fun h=>e h.symm),if_neg (by omega)]
theorem DE{s:Spc}{n:Nat}{t:bI}(h:s.aF[n]?=some (some t)):s.at (n:Int)=some t:=by rw[oK,h];rfl
theorem ja{s:Spc}{w:Int}{t:bI}(h:s.at w=some t):0≤w∧s.aF[w.toNat]?=some (some t):=by
 by_cases h0:w<0
 ·rw[yI h0] at h;cases h
 ·obtain⟨m,rfl⟩:∃ m:Nat,w=(m:Int):=⟨w.toNat,by omega⟩
  rw[oK] at h
  refine⟨by omega,?_⟩
  rw[Int.toNat_natCast]
  cases e:s.aF[m]? with
  | none=>rw[e] at h;cases h
  | some o=>rw[e] at h;exact congrArg some h
theorem kc{s:Spc}{w:Int}(h:0<dW s w):∃ t,s.at w=some t∧t.cS≠0∧t.cS≠9:=by
 unfold dW bO at h
 cases e:s.at w with
 | none=>rw[e] at h;exact absurd h (by simp)
 | some t =>
  rw[e] at h;simp only[bT] at h
  split at h
  ·exact absurd h (by simp)
  ·exact⟨t,rfl,by omega,by omega⟩
theorem Hr{s:Spc}{w:Int}:dW s w≤1:=by
 unfold dW bO
 split
 ·omega
 ·unfold bT;split <;> omega
theorem oM{t:bI}(h:t.cS=0):bT t=0:=by unfold bT;rw[if_pos (.inl h)]
theorem kA{t:bI}(h:t.cS≠0)(h9:t.cS≠9):bT t=1:=by unfold bT;rw[if_neg (by omega)]
/-! steps that keep a space in order -/
section
variable{k:Nat}{s:Spc}{p q:List Int}
theorem Ok.aA(h:Ok k s p q)(l:List Rec):Ok k {s with aA:=l } p q:=⟨h.DH,h.lt,h.ll,h.tk,h.us,h.th,h.me,h.gt,h.tb,h.dk,h.wl,h.su⟩
theorem Ok.Mf(h:Ok k s p q){p' q':List Int}(e:∀ w,p'.count w+q.count w=p.count w+q'.count w):Ok k s p' q':=⟨h.DH,h.lt,h.ll,h.tk,h.us,h.th,h.me,h.gt,h.tb,h.dk,h.wl,fun w=>by have:=h.su w;have:=e w;omega⟩
theorem Ok.more(h:Ok k s p q){k':Nat}(hk:k≤k'):Ok k' s p q:=⟨h.DH,h.lt,h.ll,fun o ho=>by have:=h.tk o ho;omega,h.us,h.th,h.me,h.gt,h.tb,h.dk,h.wl,h.su⟩
theorem Ok.mem(h:Ok k s p q){m:List Int}(hl:m.length=s.mem.length)(hw:∀ x∈m,fK x):Ok k {s with mem:=m } p q:=⟨h.DH,h.lt,h.ll,h.tk,h.us,h.th,⟨hl.trans h.me.1,hw⟩,h.gt,h.tb,h.dk,h.wl,h.su⟩
theorem Ok.al(h:Ok k s p q){g:Gates}(hg:sM s.fb g){p' q':List Int}(e:∀ w,cG g w+p'.count w+q.count w=cG s.al w+p.count w+q'.count w):Ok k {s with al:=g } p' q' :=
 ⟨h.DH,h.lt,h.ll,h.tk,h.us,h.th,h.me,hg,h.tb,h.dk,h.wl,fun w=>by
  have h1:=h.su w;have h2:=e w
  have h3:dW {s with al:=g } w=dW s w:=rfl
  rw[h3];unfold nV at h1 ⊢;simp only;omega⟩
theorem Ok.cj(h:Ok k s p q){l:List Tub}(hl:l.length=s.cj.length)(hu:∀ u∈l,Lg u){p' q':List Int}(e:∀ w,cT l w+p'.count w+q.count w=cT s.cj w+p.count w+q'.count w):Ok k {s with cj:=l } p' q' :=
 ⟨h.DH,h.lt,h.ll,h.tk,h.us,h.th,h.me,h.gt,⟨hl.trans h.tb.1,hu⟩,h.dk,h.wl,fun w=>by
  have h1:=h.su w;have h2:=e w
  have h3:dW {s with cj:=l } w=dW s w:=rfl
  rw[h3];unfold nV at h1 ⊢;simp only;omega⟩
theorem Ok.ca(h:Ok k s p q){d:lj}(hd:B8 d){p' q':List Int}(e:∀ w,cD d w+p'.count w+q.count w=cD s.ca w+p.count w+q'.count w):Ok k {s with ca:=d } p' q' :=
 ⟨h.DH,h.lt,h.ll,h.tk,h.us,h.th,h.me,h.gt,h.tb,hd,h.wl,fun w=>by
  have h1:=h.su w;have h2:=e w
  have h3:dW {s with ca:=d } w=dW s w:=rfl
  rw[h3];unfold nV at h1 ⊢;simp only;omega⟩
theorem Ok.aT(h:Ok k s p q){u:mu}(hu:0≤u.now∧u.now≤1099511627776){p' q':List Int}(e:∀ w,cL u w+p'.count w+q.count w=cL s.aT w+p.count w+q'.count w):Ok k {s with aT:=u } p' q' :=
 ⟨h.DH,h.lt,h.ll,h.tk,h.us,h.th,h.me,h.gt,h.tb,h.dk,hu,fun w=>by
  have h1:=h.su w;have h2:=e w
  have h3:dW {s with aT:=u } w=dW s w:=rfl
  rw[h3];unfold nV at h1 ⊢;simp only;omega⟩
theorem Ok.aX(h:Ok k s p q){n:Nat}{t t':bI}(ht:s.aF[n]?=some (some t))(hh:Me (s.table.getD n (false,0)) n t'){p' q':List Int}
  (e:∀ w,jn w (some t')+(if w=(n:Int) then bT t else 0)+p'.count w+q.count w=jn w (some t)+(if w=(n:Int) then bT t' else 0)+p.count w+q'.count w):Ok k (s.aX n t') p' q':=by
 have hn:n<s.aF.length:=(List.getElem?_eq_some_iff.1 ht).1
 refine⟨h.DH,?_,h.ll,h.tk,fun m hm=>?_,fun m u hu=>?_,h.me,h.gt,h.tb,h.dk,h.wl,fun w=>?_⟩
 ·show(s.aF.set n _).length=16;rw[List.length_set];exact h.lt
 ·refine(h.us m hm).trans ?_
  show(∃ t,s.aF[m]?=_)↔ ∃ t,(s.aF.set n (some t'))[m]?=_
  by_cases e:n=m
  ·subst e;rw[List.getElem?_set_self hn];exact⟨fun _=>⟨_,rfl⟩,fun _=>⟨_,ht⟩⟩
  ·rw[List.getElem?_set_ne e]
 ·have hu:(s.aF.set n (some t'))[m]?=some (some u):=hu
  by_cases e:n=m
  ·subst e;rw[List.getElem?_set_self hn] at hu;cases hu;exact hh
  ·rw[List.getElem?_set_ne e] at hu;exact h.th m u hu
 ·have h1:=h.su w;have h2:=e w
  have h3:cJ (s.aX n t').aF w+jn w (some t)=cJ s.aF w+jn w (some t'):=gd (f:=jn w) (some t') ht
  have h4:dW (s.aX n t') w+(if w=(n:Int) then bT t else 0)=dW s w+(if w=(n:Int) then bT t' else 0):=by
   unfold dW
   rw[show(s.aX n t').at w=_ from oL hn w]
   by_cases e:w=(n:Int)
   ·subst e;simp only[if_pos];rw[DE ht];simp only[bO];omega
   ·simp only[if_neg e]
  have h5:nV (s.aX n t') w=cG s.al w+cT s.cj w+cD s.ca w+cL s.aT w+cJ (s.aX n t').aF w:=rfl
  rw[h5];unfold nV at h1;omega
end
end Go.SLYtpbjdoplfgeliaaGreat
namespace Go.SLYtpbjdoplfgeliaaGreat
open Go Go.RowKit
section
variable{k:Nat}{s:Spc}{p q:List Int}
theorem Ht{l:List (Bool×Int)}{n:Nat}(hn:n<16)(hl:l.length=16)(h1:(l.getD n (false,0)).1=true)(_h0:0≤(l.getD n (false,0)).2):bC l (et (l.getD n (false,0)).2 n)=some n:=by
 unfold bC
 have e:et (l.getD n (false,0)).2 n % 65536=(n:Int)+1:=by unfold et;omega
 rw[e,if_neg (by omega),show((n:Int)+1-1).toNat=n from by omega]
 have hx:=getD_some (d:=(false,(0:Int))) (show n<l.length by omega)
 rw[hx]
 simp only
 rw[if_pos (by simp only[and_true];exact h1)]
theorem Ok.Hu(h:Ok k s p q){n:Nat}{t:bI}(ht:s.aF[n]?=some (some t)):s.free n = {s with table:=s.table.set n (false,(s.table.getD n (false,0)).2),aF:=s.aF.set n none }:=by
 have hn:n<16:=h.lt ▸ (List.getElem?_eq_some_iff.1 ht).1
 have hx:=getD_some (d:=(false,(0:Int))) (show n<s.table.length by rw[h.ll];exact hn)
 have h0:=h.tk _ (List.mem_of_getElem? hx)
 unfold Spc.free
 rw[dS ht,(h.th n t ht).h,tU (Ht hn h.ll ((h.us n hn).2 ⟨t,ht⟩) h0.1)]
 rfl
theorem Ok.free(h:Ok k s p q){n:Nat}{t:bI}(ht:s.aF[n]?=some (some t)){p' q':List Int}
  (e:∀ w,(if w=(n:Int) then bT t else 0)+p'.count w+q.count w=jn w (some t)+p.count w+q'.count w):Ok k (s.free n) p' q':=by
 have hn:n<s.aF.length:=(List.getElem?_eq_some_iff.1 ht).1
 have hn16:n<16:=h.lt ▸ hn
 have hlt:n<s.table.length:=by rw[h.ll];exact hn16
 have hx:=getD_some (d:=(false,(0:Int))) hlt
 rw[h.Hu ht]
 refine⟨h.DH,?_,?_,fun o ho=>?_,fun m hm=>?_,fun m u hu=>?_,h.me,h.gt,h.tb,h.dk,h.wl,fun w=>?_⟩
 ·show(s.aF.set n _).length=16;rw[List.length_set];exact h.lt
 ·show(s.table.set n _).length=16;rw[List.length_set];exact h.ll
 ·rcases List.mem_or_eq_of_mem_set ho with ho | rfl
  ·exact h.tk o ho
  ·show 0≤(s.table.getD n (false,0)).2∧_
   exact h.tk _ (List.mem_of_getElem? hx)
 ·show((s.table.set n _).getD m (false,0)).1=true↔ ∃ t,(s.aF.set n none)[m]?=_
  by_cases e:n=m
  ·subst e
   rw[List.getElem?_set_self hn,List.getD_eq_getElem?_getD,List.getElem?_set_self hlt]
   exact⟨fun h=>(by cases h),fun⟨t,h⟩=>(by cases h)⟩
  ·rw[List.getElem?_set_ne e,List.getD_eq_getElem?_getD,List.getElem?_set_ne e, ← List.getD_eq_getElem?_getD]
   exact h.us m hm
 ·have hu:(s.aF.set n none)[m]?=some (some u):=hu
  by_cases e:n=m
  ·subst e;rw[List.getElem?_set_self hn] at hu;cases hu
  ·rw[List.getElem?_set_ne e] at hu
   show Me ((s.table.set n _).getD m (false,0)) m u
   rw[List.getD_eq_getElem?_getD,List.getElem?_set_ne e, ← List.getD_eq_getElem?_getD]
   exact h.th m u hu
 ·have h1:=h.su w;have h2:=e w
  have h3:cJ (s.aF.set n none) w+jn w (some t)=cJ s.aF w+0:=gd (f:=jn w) none ht
  have h4:dW {s with aF:=s.aF.set n none } w+(if w=(n:Int) then bT t else 0)=dW s w:=by
   unfold dW
   rw[oL hn w]
   by_cases e:w=(n:Int)
   ·subst e;simp only[if_pos];rw[DE ht];simp only[bO];omega
   ·simp only[if_neg e];omega
  have h5:dW {s with table:=s.table.set n (false,(s.table.getD n (false,0)).2),aF:=s.aF.set n none } w=dW {s with aF:=s.aF.set n none } w:=rfl
  rw[h5]
  unfold nV at h1 ⊢
  simp only
  omega
theorem Ok.begin(h:Ok k s p q)(hk:k≤1000000){f arg:Int}(ha:fK arg):Ok (k+1) (s.begin f arg).2.2 p q:=by
 cases hf:slotFree? s.table 0 with
 | none=>rw[kH hf];exact h.more (Nat.le_succ _)
 | some n =>
  have hfr:∀ (l:List (Bool×Int)) (i n:Nat),slotFree? l i=some n→i≤n∧ ∃ o,l[n-i]?=some o∧o.1=false:=by
   intro l
   induction l with
   | nil=>intro i n h;cases h
   | cons o l ih =>
    intro i n h
    unfold slotFree? at h
    split at h
    ·obtain⟨a,o',b,c⟩:=ih (i+1) n h
     exact⟨by omega,o',by rw[show n-i=(n-(i+1))+1 from by omega];simpa using b,c⟩
    ·cases h;rename_i hb
     exact⟨Nat.le_refl _,o,by simp,by simpa using hb⟩
  obtain⟨-,o,ho,ho1⟩:=hfr _ _ _ hf
  rw[Nat.sub_zero] at ho
  have hlt:n<s.table.length:=(List.getElem?_eq_some_iff.1 ho).1
  have hn16:n<16:=h.ll ▸ hlt
  have hn:n<s.aF.length:=by rw[h.lt];exact hn16
  have hgd:s.table.getD n (false,0)=o:=by rw[List.getD_eq_getElem?_getD,ho];rfl
  have hno:s.aF[n]?=some none:=by
   obtain⟨x,hx⟩:=ai hn
   cases x with
   | none=>exact hx
   | some t=>have:=(h.us n hn16).2 ⟨t,hx⟩;rw[hgd,ho1] at this;cases this
  have htk:=h.tk o (List.mem_of_getElem? ho)
  rw[fc hf,hgd]
  refine⟨h.DH,?_,?_,fun o' ho'=>?_,fun m hm=>?_,fun m u hu=>?_,h.me,h.gt,h.tb,h.dk,h.wl,fun w=>?_⟩
  ·show(s.aF.set n _).length=16;rw[List.length_set];exact h.lt
  ·show(s.table.set n _).length=16;rw[List.length_set];exact h.ll
  ·rcases List.mem_or_eq_of_mem_set ho' with ho' | rfl
   ·have:=h.tk o' ho';omega
   ·show 0≤o.2+1∧o.2+1≤((k+1:Nat):Int);omega
  ·show((s.table.set n _).getD m (false,0)).1=true↔ ∃ t,(s.aF.set n _)[m]?=_
   by_cases e:n=m
   ·subst e
    rw[List.getElem?_set_self hn,List.getD_eq_getElem?_getD,List.getElem?_set_self hlt]
    exact⟨fun _=>⟨_,rfl⟩,fun _=>rfl⟩
   ·rw[List.getElem?_set_ne e,List.getD_eq_getElem?_getD,List.getElem?_set_ne e, ← List.getD_eq_getElem?_getD]
    exact h.us m hm
  ·have hu:(s.aF.set n _)[m]?=some (some u):=hu
   by_cases e:n=m
   ·subst e;rw[List.getElem?_set_self hn] at hu;cases hu
    show Me ((s.table.set n _).getD n (false,0)) n _
    rw[List.getD_eq_getElem?_getD,List.getElem?_set_self hlt]
    refine⟨rfl,⟨rfl,fun m=>?_,by show(-1:Int)≤ -1∧(-1:Int)<8;decide,by show(0:Int)≤0∧(0:Int)≤_;decide,?_⟩,by show(0:Int)≤0∧(0:Int)≤257;decide,fun h=>(by cases h),fun h=>rfl⟩
    ·have h0:(0:Int)≤0∧(0:Int)≤18446744073709551615:=by decide
     show 0≤([arg,0,0,0,0,0,0,0]:List Int).getD m 0∧_
     match m with
     | 0=>exact ha
     | 1=>exact h0
     | 2=>exact h0
     | 3=>exact h0
     | 4=>exact h0
     | 5=>exact h0
     | 6=>exact h0
     | 7=>exact h0
     | m+8=>exact h0
    ·show 0≤et (o.2+1) n∧et (o.2+1) n≤_;unfold et;omega
   ·rw[List.getElem?_set_ne e] at hu
    show Me ((s.table.set n _).getD m (false,0)) m u
    rw[List.getD_eq_getElem?_getD,List.getElem?_set_ne e, ← List.getD_eq_getElem?_getD]
    exact h.th m u hu
  ·have h1:=h.su w
   have h3:cJ (s.aF.set n (some (sr f arg (et (o.2+1) n)))) w+0=cJ s.aF w+jn w (some (sr f arg (et (o.2+1) n))):=gd (f:=jn w) _ hno
   have hj:jn w (some (sr f arg (et (o.2+1) n)))=0:=by unfold jn;exact if_neg (by rintro⟨a,b⟩;exact b a.symm)
   have h4:dW {s with aF:=s.aF.set n (some (sr f arg (et (o.2+1) n))) } w=dW s w:=by
    unfold dW
    rw[oL hn w]
    by_cases e:w=(n:Int)
    ·subst e;simp only[if_pos];rw[oK,hno];rfl
    ·simp only[if_neg e]
   have h5:dW {s with table:=s.table.set n (true,o.2+1),aF:=s.aF.set n (some (sr f arg (et (o.2+1) n))) } w=dW {s with aF:=s.aF.set n (some (sr f arg (et (o.2+1) n))) } w:=rfl
   rw[h5]
   unfold nV at h1 ⊢
   simp only
   omega
end
end Go.SLYtpbjdoplfgeliaaGreat
namespace Go.SLYtpbjdoplfgeliaaGreat
open Go Go.RowKit
def opn(V:List Rec)(h:Int):Option Int:=match (V.filter fun r=>decide (r.ab=h)).getLast? with | none=>none | some r=>if r.fin=true then none else some r.op
theorem Hv{V:List Rec}{r:Rec}{h:Int}(e:r.ab=h):opn (V++[r]) h=if r.fin=true then none else some r.op:=by
 unfold opn;rw[List.filter_append];simp[e]
theorem EV{V:List Rec}{r:Rec}{h:Int}(e:r.ab≠h):opn (V++[r]) h=opn V h:=by
 unfold opn;rw[List.filter_append];simp[e]
def uj(V:List Rec):Prop:=∀ a r b,V=a++r::b→ ∀ op,opn a r.ab=some op→r.fin=true∧r.op=op∧r.x=0∧r.result=0
theorem uj.nil:uj []:=fun a r b e=>by cases a <;> cases e
theorem uj.snoc{V:List Rec}{r:Rec}(h:uj V)(hr:∀ op,opn V r.ab=some op→r.fin=true∧r.op=op∧r.x=0∧r.result=0):uj (V++[r]):=fun a q b e=>by
 rcases List.eq_nil_or_concat b with rfl | ⟨b',z,rfl⟩
 ·have:=List.append_inj' e rfl
  obtain⟨rfl,h2⟩:=this
  cases h2
  exact hr
 ·rw[List.concat_eq_append, ← List.cons_append, ← List.append_assoc] at e
  have:=List.append_inj' e rfl
  exact h a q b' this.1
structure ee(s:Spc)(V:List Rec):Prop where
 pr:uj V
 op:∀ (n:Nat) (t:bI),s.aF[n]?=some (some t)→opn V t.handle=if bT t=1 then some t.op else none
 hd:∀ r∈V, ∃ (n:Nat) (k:Int),n<16∧r.ab=et k n∧k≤(s.table.getD n (false,0)).2
theorem wO{a b:Int}{n m:Nat}(hn:n<16)(hm:m<16)(h:et a n=et b m):n=m∧a=b:=by unfold et at h;omega
section
variable{k:Nat}{s:Spc}{p q:List Int}{V:List Rec}{n:Nat}{t t':bI}
theorem ee.of(h:ee s V){s':Spc}(e1:s'.aF=s.aF)(e2:s'.table=s.table):ee s' V:=⟨h.pr,fun n t ht=>h.op n t (by rw[← e1];exact ht),fun r hr=>by rw[e2];exact h.hd r hr⟩
theorem EW(hO:Ok k s p q){m:Nat}{u:bI}(ht:s.aF[n]?=some (some t))(hu:s.aF[m]?=some (some u))(hne:n≠m):t.handle≠u.handle:=fun e=>by
 rw[(hO.th n t ht).h,(hO.th m u hu).h] at e
 exact hne (wO (hO.lt ▸ (List.getElem?_eq_some_iff.1 ht).1) (hO.lt ▸ (List.getElem?_eq_some_iff.1 hu).1) e).1
theorem ee.yJ(h:ee s V)(hO:Ok k s p q)(ht:s.aF[n]?=some (some t)){r:Rec}(hr:r.ab=t.handle)(hh:t'.handle=t.handle)(hp:∀ op,opn V t.handle=some op→r.fin=true∧r.op=op∧r.x=0∧r.result=0)
  (he:(if r.fin=true then none else some r.op)=if bT t'=1 then some t'.op else none):ee (s.aX n t') (V++[r]):=by
 have hn:n<s.aF.length:=(List.getElem?_eq_some_iff.1 ht).1
 refine⟨h.pr.snoc (by rw[hr];exact hp),fun m u hu=>?_,fun x hx=>?_⟩
 ·have hu:(s.aF.set n (some t'))[m]?=some (some u):=hu
  by_cases e:n=m
  ·subst e;rw[List.getElem?_set_self hn] at hu;cases hu
   rw[hh,Hv hr];exact he
  ·rw[List.getElem?_set_ne e] at hu
   rw[EV (by rw[hr];exact EW hO ht hu e)]
   exact h.op m u hu
 ·rcases List.mem_append.1 hx with hx | hx
  ·exact h.hd x hx
  ·rw[List.mem_singleton] at hx
   rw[hx,hr,(hO.th n t ht).h]
   exact⟨n,_,hO.lt ▸ hn,rfl,Int.le_refl _⟩
theorem ee.aX(h:ee s V)(ht:s.aF[n]?=some (some t))(hh:t'.handle=t.handle)(hb:bT t'=bT t)(ho:bT t=1→t'.op=t.op):ee (s.aX n t') V:=by
 have hn:n<s.aF.length:=(List.getElem?_eq_some_iff.1 ht).1
 refine⟨h.pr,fun m u hu=>?_,h.hd⟩
 have hu:(s.aF.set n (some t'))[m]?=some (some u):=hu
 by_cases e:n=m
 ·subst e;rw[List.getElem?_set_self hn] at hu;cases hu
  rw[hh,h.op n t ht,hb]
  by_cases e:bT t=1
  ·rw[if_pos e,if_pos e,ho e]
  ·rw[if_neg e,if_neg e]
 ·rw[List.getElem?_set_ne e] at hu
  exact h.op m u hu
theorem ee.tell(h:ee s V)(hO:Ok k s p q)(ht:s.aF[n]?=some (some t))(hb:bT t=0){o x y e:Int}:ee s (V++[⟨t.handle,o,x,y,e,true⟩]):=by
 have h0:opn V t.handle=none:=by rw[h.op n t ht,hb];rfl
 have:=h.yJ (t':=t) hO ht (r:=⟨t.handle,o,x,y,e,true⟩) rfl rfl (fun op e=>by rw[h0] at e;cases e) (by rw[hb];rfl)
 refine this.of ?_ rfl
 show s.aF=s.aF.set n (some t)
 rw[gP ht]
theorem ee.free(h:ee s V)(hO:Ok k s p q)(ht:s.aF[n]?=some (some t)):ee (s.free n) V:=by
 have hn:n<s.aF.length:=(List.getElem?_eq_some_iff.1 ht).1
 have hlt:n<s.table.length:=by rw[hO.ll, ← hO.lt];exact hn
 rw[hO.Hu ht]
 refine⟨h.pr,fun m u hu=>?_,fun r hr=>?_⟩
 ·have hu:(s.aF.set n none)[m]?=some (some u):=hu
  by_cases e:n=m
  ·subst e;rw[List.getElem?_set_self hn] at hu;cases hu
  ·rw[List.getElem?_set_ne e] at hu;exact h.op m u hu
 ·obtain⟨m,k,h1,h2,h3⟩:=h.hd r hr
  refine⟨m,k,h1,h2,?_⟩
  show k≤((s.table.set n (false,(s.table.getD n (false,0)).2)).getD m (false,0)).2
  by_cases e:n=m
  ·subst e;rw[List.getD_eq_getElem?_getD,List.getElem?_set_self hlt];exact h3
  ·rw[List.getD_eq_getElem?_getD,List.getElem?_set_ne e, ← List.getD_eq_getElem?_getD];exact h3
theorem Hw{V:List Rec}{h:Int}(e:∀ r∈V,r.ab≠h):opn V h=none:=by
 unfold opn
 rw[List.filter_eq_nil_iff.2 (fun r hr=>by simpa using e r hr)];rfl
theorem ee.begin(h:ee s V)(hO:Ok k s p q){f a:Int}:ee (s.begin f a).2.2 V:=by
 cases hf:slotFree? s.table 0 with
 | none=>rw[kH hf];exact h
 | some n =>
  have hn16:n<16:=by
   have hfr:∀ (l:List (Bool×Int)) (i n:Nat),slotFree? l i=some n→n<i+l.length:=by
    intro l
    induction l with
    | nil=>intro i n h;cases h
    | cons o l ih =>
     intro i n h
     unfold slotFree? at h
     split at h
     ·have:=ih (i+1) n h;simp only[List.length_cons];omega
     ·cases h;simp only[List.length_cons];omega
   have:=hfr _ _ _ hf
   have:=hO.ll
   omega
  have hn:n<s.aF.length:=by rw[hO.lt];exact hn16
  have hlt:n<s.table.length:=by rw[hO.ll];exact hn16
  rw[fc hf]
  refine⟨h.pr,fun m u hu=>?_,fun r hr=>?_⟩
  ·have hu:(s.aF.set n _)[m]?=some (some u):=hu
   by_cases e:n=m
   ·subst e;rw[List.getElem?_set_self hn] at hu;cases hu
    refine(Hw fun r hr e=>?_).trans rfl
    obtain⟨m,k,h1,h2,h3⟩:=h.hd r hr
    rw[h2] at e
    obtain⟨rfl,rfl⟩:=wO h1 hn16 e
    omega
   ·rw[List.getElem?_set_ne e] at hu;exact h.op m u hu
  ·obtain⟨m,k,h1,h2,h3⟩:=h.hd r hr
   refine⟨m,k,h1,h2,?_⟩
   show k≤((s.table.set n (true,(s.table.getD n (false,0)).2+1)).getD m (false,0)).2
   by_cases e:n=m
   ·subst e;rw[List.getD_eq_getElem?_getD,List.getElem?_set_self hlt];show k≤(s.table.getD n (false,0)).2+1;omega
   ·rw[List.getD_eq_getElem?_getD,List.getElem?_set_ne e, ← List.getD_eq_getElem?_getD];exact h3
theorem Aq{u:bI}{y:Int}:(u.fz y).handle=u.handle:=by show(if u.bZ = -1 then u else u.put u.bZ y).handle=_;split <;> rfl
theorem ee.dN(h:ee s V)(hO:Ok k s p q){w0:Int}{u:bI}(hu:s.at w0=some u)(hu0:u.cS≠0)(hu9:u.cS≠9){y:Int}:ee (s.dN w0.toNat y) (V++[u.ku y]):=by
 obtain⟨h0,hat⟩:=ja hu
 unfold Spc.dN
 rw[dS hat]
 have hb:bT u=1:=kA hu0 hu9
 refine h.yJ hO hat rfl Aq (fun op e=>?_) ?_
 ·rw[h.op _ u hat,hb,if_pos rfl] at e
  cases e
  exact⟨rfl,rfl,rfl,rfl⟩
 ·rw[show bT (u.fz y)=0 from oM rfl];rfl
end
end Go.SLYtpbjdoplfgeliaaGreat
namespace Go.SLYtpbjdoplfgeliaaGreat
open Go Go.RowKit
structure dG(k:Nat)(s0:Spc)(d:Dng)(p q:List Int):Prop where
 ok:Ok k d.s p q
 rd:∀ w,c0 d.s w+(if (d.out.aQ=true∨d.out.ended=true)∧w=(d.n:Int) then 1 else 0)=c0 s0 w+d.out.av.count w
 wk:∀ w∈d.out.av,c0 s0 w=0
 rc:ee d.s (d.s.aA++d.ends)
 px:s0.aA <+: d.s.aA
section
variable{k:Nat}{s0:Spc}{d:Dng}{p q:List Int}{t:bI}
theorem gQ{w:Int}{t:bI}:jn w (some t)=if t.ay=w∧¬w = -1 then 1 else 0:=rfl
theorem du{t:bI}:rO (some t)=if t.cS=0 then 1 else 0:=rfl
theorem mY{s:Spc}{n:Nat}{t t':bI}(ht:s.aF[n]?=some (some t))(w:Int):c0 (s.aX n t') w=if w=(n:Int) then rO (some t') else c0 s w:=by
 unfold c0
 rw[show(s.aX n t').at w=_ from oL (List.getElem?_eq_some_iff.1 ht).1 w]
 split <;> rfl
theorem oN{s:Spc}{n:Nat}{t:bI}(ht:s.aF[n]?=some (some t)):c0 s (n:Int)=rO (some t):=by unfold c0;rw[DE ht]
theorem dG.su(h:dG k s0 d p q){p' q':List Int}(e:∀ w,p'.count w+q.count w=p.count w+q'.count w):dG k s0 d p' q':=⟨h.ok.Mf e,h.rd,h.wk,h.rc,h.px⟩
theorem dG.tell(h:dG k s0 d p q)(ht:d.s.aF[d.n]?=some (some t))(hw:t.cS=0)(hn:d.ends=[]){x y e:Int}:dG k s0 (d.tell x y e true) p q:=⟨h.ok.aA _,h.rd,h.wk,by
 have h1:=h.rc
 rw[hn,List.append_nil] at h1
 have h2:=h1.tell h.ok ht (oM hw) (o:=d.i.op) (x:=x) (y:=y) (e:=e)
 show ee (d.s.tell ⟨d.t.handle,d.i.op,x,y,e,true⟩) ((d.s.aA++[⟨d.t.handle,d.i.op,x,y,e,true⟩])++d.ends)
 rw[hn,List.append_nil,dj ht]
 exact h2.of rfl rfl,h.px.trans (List.prefix_append _ _)⟩
theorem dG.own(h:dG k s0 d p q)(ht:d.s.aF[d.n]?=some (some t)){t':bI}(hR:gZ t')(hpc:0≤t'.pc∧t'.pc≤257)(e1:t'.handle=t.handle)(e2:t'.cS=t.cS)(e3:t'.ay=t.ay)(e4:t'.bN=t.bN)(e5:t'.op=t.op):dG k s0 (d.aX t') p q:=by
 have ho:=h.ok.th d.n t ht
 refine⟨h.ok.aX ht ⟨e1.trans ho.h,hR,hpc,fun a=>by rw[e3];exact ho.d (by rw[← e4];exact a),fun a=>by rw[e3];exact ho.f (by rw[← e2];exact a)⟩ (fun w=>?_),fun w=>?_,h.wk,h.rc.aX ht e1 (by unfold bT;rw[e2]) (fun _=>e5),h.px⟩
 ·have hjj:jn w (some t')=jn w (some t):=by rw[gQ,gQ,e3]
  have hbb:bT t'=bT t:=by unfold bT;rw[e2]
  rw[hjj,hbb]
 ·have:=h.rd w
  have hr:c0 (d.aX t').s w=c0 d.s w:=by
   show c0 (d.s.aX d.n t') w=_
   rw[mY ht]
   split
   ·rename_i e;rw[e,oN ht,du,du,e2]
   ·rfl
  rw[hr];exact this
theorem dG.pass(h:dG k s0 d p q)(ht:d.s.aF[d.n]?=some (some t))(hw:t.cS=0)(hn:d.ends=[]){x y e:Int}(he:0≤e∧e≤11):dG k s0 (d.pass x y e) p q:=by
 have ho:=h.ok.th d.n t ht
 unfold Dng.pass
 rw[dj ht]
 exact dG.own (d:=d.tell x y e true) (h.tell ht hw hn) ht (ho.R.put (by omega)) ho.pc rfl rfl rfl rfl rfl
theorem dG.block(h:dG k s0 d p ((d.n:Int)::q))(ht:d.s.aF[d.n]?=some (some t))(hw:t.cS=0)(hn:d.ends=[])(hs:d.out.aQ=false)(hd:d.out.ended=false){a i x y:Int}(ha:a≠0∧a≠9)(hi : -1≤i∧i<8):dG k s0 (d.block a i x y) p q:=by
 have ho:=h.ok.th d.n t ht
 have hTo:Ok k (d.tell x y 0 false).s p ((d.n:Int)::q):=h.ok.aA _
 have ht2:(d.tell x y 0 false).s.aF[d.n]?=some (some t):=ht
 unfold Dng.block
 rw[dj ht]
 refine⟨hTo.aX ht2 (t':={t with cS:=a,op:=d.i.op,bZ:=i }) ⟨ho.h,ho.R.with hi,ho.pc,ho.d,fun e=>absurd e ha.2⟩ (fun w=>?_),fun w=>?_,h.wk,?_,h.px.trans (List.prefix_append _ _)⟩
 ·have e1:bT t=0:=oM hw
  have e2:bT {t with cS:=a,op:=d.i.op,bZ:=i }=1:=kA ha.1 ha.2
  have e3:jn w (some {t with cS:=a,op:=d.i.op,bZ:=i })=jn w (some t):=rfl
  rw[e1,e2,e3,List.count_cons]
  simp only[beq_iff_eq]
  by_cases e:w=(d.n:Int)
  ·rw[if_pos e,if_pos e,if_pos e.symm];omega
  ·rw[if_neg e,if_neg e,if_neg (fun h=>e h.symm)];omega
 ·have h1:=h.rd w
  rw[if_neg (by rw[hs,hd];simp)] at h1
  show c0 ((d.tell x y 0 false).s.aX d.n {t with cS:=a,op:=d.i.op,bZ:=i }) w+(if (true=true∨d.out.ended=true)∧w=(d.n:Int) then 1 else 0)=c0 s0 w+d.out.av.count w
  rw[mY ht2]
  by_cases e:w=(d.n:Int)
  ·rw[if_pos e,if_pos ⟨.inl rfl,e⟩]
   rw[e,oN ht] at h1
   have:rO (some t)=1:=by rw[du,if_pos hw]
   have:rO (some {t with cS:=a,op:=d.i.op,bZ:=i })=0:=by rw[du];exact if_neg ha.1
   rw[e];omega
  ·rw[if_neg e,if_neg (fun h=>e h.2)]
   exact h1
 ·have h1:=h.rc
  rw[hn,List.append_nil] at h1
  have e2:bT {t with cS:=a,op:=d.i.op,bZ:=i }=1:=kA ha.1 ha.2
  have h0:opn d.s.aA t.handle=none:=by rw[h1.op d.n t ht,oM hw];rfl
  have h2:=h1.yJ (t':={t with cS:=a,op:=d.i.op,bZ:=i }) h.ok ht (r:=⟨t.handle,d.i.op,x,y,0,false⟩) rfl rfl (fun op e=>by rw[h0] at e;cases e) (by rw[e2];rfl)
  show ee ((d.tell x y 0 false).s.aX d.n {t with cS:=a,op:=d.i.op,bZ:=i }) ((d.s.aA++[⟨d.t.handle,d.i.op,x,y,0,false⟩])++d.ends)
  rw[hn,List.append_nil,dj ht]
  exact h2.of rfl rfl
theorem pS{u:bI}{y:Int}:(u.fz y).ay=u.ay:=by show(if u.bZ = -1 then u else u.put u.bZ y).ay=_;split <;> rfl
theorem Ok.dN{s:Spc}(h:Ok k s p q){w0:Int}{u:bI}(hu:s.at w0=some u)(hu0:u.cS≠0)(hu9:u.cS≠9){y:Int}(hy:fK y):Ok k (s.dN w0.toNat y) p (w0::q):=by
 obtain⟨h0,hat⟩:=ja hu
 have ho:=h.th _ u hat
 have hc:((w0.toNat:Nat):Int)=w0:=by omega
 unfold Spc.dN
 rw[dS hat]
 refine h.aX hat ⟨?_,ho.R.fz hy,?_,?_,?_⟩ (fun w=>?_)
 ·rw[← ho.h];show(if u.bZ = -1 then u else u.put u.bZ y).handle=_;split <;> rfl
 ·show 0≤(if u.bZ = -1 then u else u.put u.bZ y).pc∧(if u.bZ = -1 then u else u.put u.bZ y).pc≤257;split <;> exact ho.pc
 ·intro e
  rw[pS];refine ho.d ?_
  rw[← e];show _=(if u.bZ = -1 then u else u.put u.bZ y).bN;split <;> rfl
 ·intro e;exact absurd (show(0:Int)=9 from e) (by decide)
 ·have e1:bT u=1:=kA hu0 hu9
  have e2:bT (u.fz y)=0:=oM rfl
  have e3:jn w (some (u.fz y))=jn w (some u):=by rw[gQ,gQ,pS]
  rw[e1,e2,e3,List.count_cons,hc]
  simp only[beq_iff_eq]
  by_cases e:w=w0
  ·rw[if_pos e,if_pos e,if_pos e.symm];omega
  ·rw[if_neg e,if_neg e,if_neg (fun h=>e h.symm)];omega
theorem pT{s:Spc}{w0:Int}{u:bI}(hu:s.at w0=some u){y:Int}(w:Int):c0 (s.dN w0.toNat y) w=if w=w0 then 1 else c0 s w:=by
 obtain⟨h0,hat⟩:=ja hu
 unfold Spc.dN
 rw[dS hat,mY hat,show((w0.toNat:Nat):Int)=w0 from by omega]
 rfl
theorem dG.No(h:dG k s0 d p q){w0:Int}{u:bI}(hu:d.s.at w0=some u)(hu0:u.cS≠0)(hu9:u.cS≠9){y:Int}(hy:fK y)(hne:w0=(d.n:Int)→d.out.aQ=false∧d.out.ended=false):dG k s0 (d.cq w0.toNat y) p (w0::q):=by
 have h0:=(ja hu).1
 have hr:c0 d.s w0=0:=by unfold c0;rw[hu,du];exact if_neg hu0
 refine⟨h.ok.dN hu hu0 hu9 hy,fun w=>?_,fun w hw=>?_,?_,h.px⟩
 ·have h1:=h.rd w
  show c0 (d.s.dN w0.toNat y) w+(if (d.out.aQ=true∨d.out.ended=true)∧w=(d.n:Int) then 1 else 0)=c0 s0 w+(d.out.av++[((w0.toNat:Nat):Int)]).count w
  rw[pT hu,List.count_append,List.count_singleton,show((w0.toNat:Nat):Int)=w0 from by omega]
  simp only[beq_iff_eq]
  generalize (if (d.out.aQ=true∨d.out.ended=true)∧w=(d.n:Int) then 1 else 0)=B at h1 ⊢
  by_cases e:w=w0
  ·rw[if_pos e,if_pos e.symm]
   rw[e] at h1 ⊢
   omega
  ·rw[if_neg e,if_neg (fun h=>e h.symm)];omega
 ·have hw:w∈d.out.av++[((w0.toNat:Nat):Int)]:=hw
  rcases List.mem_append.1 hw with hw | hw
  ·exact h.wk w hw
  ·rw[List.mem_singleton,show((w0.toNat:Nat):Int)=w0 from by omega] at hw
   subst hw
   have h1:=h.rd w
   by_cases e:w=(d.n:Int)
   ·obtain⟨e1,e2⟩:=hne e
    rw[if_neg (by rw[e1,e2];simp)] at h1;omega
   ·rw[if_neg (fun h=>e h.2)] at h1;omega
 ·have h2:=h.rc.dN h.ok hu hu0 hu9 (y:=y)
  show ee (d.s.dN w0.toNat y) (d.s.aA++(d.ends++[(d.s.t w0.toNat).ku y]))
  rw[← List.append_assoc,dS (ja hu).2]
  exact h2
theorem dG.cq(h:dG k s0 d p q){w0:Int}(hpq:q.count w0<p.count w0){y:Int}(hy:fK y)(hne:w0=(d.n:Int)→d.out.aQ=false∧d.out.ended=false):dG k s0 (d.cq w0.toNat y) p (w0::q):=by
 have hb:=h.ok.su w0
 obtain⟨u,hu,hu0,hu9⟩:=kc (show 0<dW d.s w0 by omega)
 exact h.No hu hu0 hu9 hy hne
theorem dG.bF(h:dG k s0 d p q){g:Gates}(hg:sM d.s.fb g){p' q':List Int}(e:∀ w,cG g w+p'.count w+q.count w=cG d.s.al w+p.count w+q'.count w):dG k s0 (d.bF g) p' q':=⟨h.ok.al hg e,h.rd,h.wk,h.rc.of rfl rfl,h.px⟩
theorem dG.eM(h:dG k s0 d p q){i:Nat}{u v:Tub}(hi:d.s.cj[i]?=some u)(hv:Lg v){p' q':List Int}(e:∀ w,cU w v+p'.count w+q.count w=cU w u+p.count w+q'.count w):dG k s0 (d.eM i v) p' q':=by
 refine⟨h.ok.cj (by rw[List.length_set]) (fun x hx=>?_) (fun w=>?_),h.rd,h.wk,h.rc.of rfl rfl,h.px⟩
 ·rcases List.mem_or_eq_of_mem_set hx with hx | rfl
  ·exact h.ok.tb.2 x hx
  ·exact hv
 ·have h1:cT (d.s.cj.set i v) w+cU w u=cT d.s.cj w+cU w v:=gd (f:=cU w) v hi
  have:=e w;omega
theorem dG.dc(h:dG k s0 d p q){u:lj}(hu:B8 u){p' q':List Int}(e:∀ w,cD u w+p'.count w+q.count w=cD d.s.ca w+p.count w+q'.count w):dG k s0 (d.dc u) p' q':=⟨h.ok.ca hu e,h.rd,h.wk,h.rc.of rfl rfl,h.px⟩
theorem dG.wu(h:dG k s0 d p q){u:mu}(hu:0≤u.now∧u.now≤1099511627776){p' q':List Int}(e:∀ w,cL u w+p'.count w+q.count w=cL d.s.aT w+p.count w+q'.count w):dG k s0 (d.wu u) p' q':=⟨h.ok.aT hu e,h.rd,h.wk,h.rc.of rfl rfl,h.px⟩
theorem uk(h:Ok k d.s p q){n:Nat}(ht:d.s.aF[n]?=some (some t))(w:Int):c0 (d.s.free n) w=if w=(n:Int) then 0 else c0 d.s w:=by
 rw[h.Hu ht]
 unfold c0
 rw[show({d.s with table:=d.s.table.set n (false,(d.s.table.getD n (false,0)).2),aF:=d.s.aF.set n none }:Spc).at w=({d.s with aF:=d.s.aF.set n none }:Spc).at w from rfl,oL (List.getElem?_eq_some_iff.1 ht).1 w]
 split <;> rfl
theorem dG.free(h:dG k s0 d p q){m:Nat}(ht:d.s.aF[m]?=some (some t))(h9:t.cS=9):dG k s0 (d.free m) p q:=by
 have ho:=h.ok.th m t ht
 refine⟨h.ok.free ht (fun w=>?_),fun w=>?_,h.wk,h.rc.free h.ok ht,h.px⟩
 ·have e1:bT t=0:=by unfold bT;rw[if_pos (.inr h9)]
  have e2:jn w (some t)=0:=by rw[gQ,ho.f h9];exact if_neg (by rintro⟨a,b⟩;exact b a.symm)
  rw[e1,e2];split <;> omega
 ·have h1:=h.rd w
  show c0 (d.s.free m) w+_=_
  rw[uk h.ok ht]
  by_cases e:w=(m:Int)
  ·have h2:c0 d.s w=0:=by rw[e,oN ht,du];exact if_neg (by omega)
   rw[if_pos e];rw[h2] at h1;exact h1
  ·rw[if_neg e];exact h1
theorem dG.fin(h:dG k s0 d [] [])(ht:d.s.aF[d.n]?=some (some t))(hw:t.cS=0)(hs:d.out.aQ=false)(hd:d.out.ended=false){v:Int}(hv:fK v):dG k s0 (d.fin v) [] []:=by
 have ho:=h.ok.th d.n t ht
 have hr0:rO (some t)=1:=by rw[du];exact if_pos hw
 have hbt:bT t=0:=oM hw
 have h1:=h.rd
 have hend:∀ w,(if (d.ended.out.aQ=true∨d.ended.out.ended=true)∧w=(d.ended.n:Int) then 1 else 0)=if w=(d.n:Int) then 1 else 0:=fun w=>by
  by_cases e:w=(d.n:Int)
  ·rw[if_pos (show(d.ended.out.aQ=true∨d.ended.out.ended=true)∧w=(d.ended.n:Int) from⟨.inr rfl,e⟩),if_pos e]
  ·rw[if_neg (show ¬((d.ended.out.aQ=true∨d.ended.out.ended=true)∧w=(d.ended.n:Int)) from fun h=>e h.2),if_neg e]
 have hrd:∀ w,c0 d.s w=c0 s0 w+d.out.av.count w:=fun w=>by
  have:=h1 w;rw[if_neg (by rw[hs,hd];simp)] at this;exact this
 cases hdt:t.bN with
 | true =>
  rw[Dw ht hdt]
  refine⟨h.ok.free ht (fun w=>?_),fun w=>?_,h.wk,h.rc.free h.ok ht,h.px⟩
  ·have e2:jn w (some t)=0:=by rw[gQ,ho.d hdt];exact if_neg (by rintro⟨a,b⟩;exact b a.symm)
   rw[hbt,e2];split <;> omega
  ·show c0 (d.s.free d.n) w+(if (d.ended.out.aQ=true∨d.ended.out.ended=true)∧w=(d.ended.n:Int) then 1 else 0)=c0 s0 w+d.out.av.count w
   rw[hend,uk h.ok ht, ← hrd]
   by_cases e:w=(d.n:Int)
   ·rw[if_pos e,if_pos e,e,oN ht,hr0]
   ·rw[if_neg e,if_neg e];rfl
 | false =>
  by_cases hj:t.ay = -1
  ·rw[Ae ht hdt hj]
   refine⟨h.ok.aX (s:=d.s) (t':={t with cS:=9,value:=v }) ht ⟨ho.h,⟨ho.R.l,ho.R.r,ho.R.i,hv,ho.R.h⟩,ho.pc,ho.d,fun _=>hj⟩ (fun w=>?_),fun w=>?_,h.wk,h.rc.aX (s:=d.s) (t':={t with cS:=9,value:=v }) ht rfl (by rw[hbt];try rfl) (fun e=>absurd e (by rw[hbt];decide)),h.px⟩
   ·have e1:bT {t with cS:=9,value:=v }=0:=by unfold bT;exact if_pos (.inr rfl)
    have e3:jn w (some {t with cS:=9,value:=v })=jn w (some t):=rfl
    rw[hbt,e1,e3]
   ·show c0 (d.s.aX d.n {t with cS:=9,value:=v }) w+(if (d.ended.out.aQ=true∨d.ended.out.ended=true)∧w=(d.ended.n:Int) then 1 else 0)=c0 s0 w+d.out.av.count w
    rw[hend,mY ht, ← hrd]
    by_cases e:w=(d.n:Int)
    ·rw[if_pos e,if_pos e,e,oN ht,hr0,du,if_neg (by show(9:Int)≠0;decide)]
    ·rw[if_neg e,if_neg e];rfl
  ·rw[Af ht hdt hj]
   -- who joined cq on: it is counted by this thread's own word
   have hcj:1≤nV d.s t.ay:=by
    have:jn t.ay (some t)=1:=by rw[gQ];exact if_pos ⟨rfl,hj⟩
    have h2:jn t.ay (some t)≤cJ d.s.aF t.ay:=eI (f:=jn t.ay) (List.mem_of_getElem? ht)
    unfold nV;omega
   have hb:=h.ok.su t.ay
   obtain⟨u,hu,hu0,hu9⟩:=kc (s:=d.s) (w:=t.ay) (by simp at hb;omega)
   obtain⟨h0,hat⟩:=ja hu
   have hne:t.ay.toNat≠d.n:=fun e=>by rw[e,ht] at hat;cases hat;exact hu0 hw
   have hc:((t.ay.toNat:Nat):Int)=t.ay:=by omega
   have hk:=h.ok.dN hu hu0 hu9 hv
   have ht2:(d.s.dN t.ay.toNat v).aF[d.n]?=some (some t):=by
    unfold Spc.dN;exact fC ht hne
   refine⟨hk.free (n:=d.n) ht2 (fun w=>?_),fun w=>?_,fun w hw=>?_,?_,h.px⟩
   ·rw[hbt,gQ,List.count_cons]
    simp only[beq_iff_eq,List.count_nil]
    by_cases e:t.ay=w
    ·rw[if_pos (show t.ay=w∧¬w = -1 from⟨e,by rw[← e];exact hj⟩),if_pos e];split <;> omega
    ·rw[if_neg (show ¬(t.ay=w∧¬w = -1) from fun h=>e h.1),if_neg e];split <;> omega
   ·show c0 ((d.s.dN t.ay.toNat v).free d.n) w+(if (d.ended.out.aQ=true∨d.ended.out.ended=true)∧w=(d.ended.n:Int) then 1 else 0)=c0 s0 w+(d.out.av++[((t.ay.toNat:Nat):Int)]).count w
    rw[hend,uk (d:={d with s:=d.s.dN t.ay.toNat v }) hk ht2,hc,List.count_append,List.count_singleton]
    simp only[beq_iff_eq]
    rw[pT hu]
    have h2:=hrd w
    by_cases e:w=(d.n:Int)
    ·rw[if_pos e,if_pos e,if_neg (show ¬t.ay=w by rw[e];omega)]
     rw[e,oN ht,hr0] at h2
     rw[e];omega
    ·rw[if_neg e,if_neg e]
     by_cases e2:w=t.ay
     ·rw[if_pos e2,if_pos e2.symm]
      have:c0 d.s w=0:=by rw[e2];unfold c0;rw[hu,du];exact if_neg hu0
      omega
     ·rw[if_neg e2,if_neg (fun h=>e2 h.symm)];omega
   ·have hw:w∈d.out.av++[((t.ay.toNat:Nat):Int)]:=hw
    rcases List.mem_append.1 hw with hw | hw
    ·exact h.wk w hw
    ·rw[List.mem_singleton,hc] at hw
     have h2:=hrd w
     have:c0 d.s w=0:=by rw[hw];unfold c0;rw[hu,du];exact if_neg hu0
     omega
   ·have h2:=h.rc.dN h.ok hu hu0 hu9 (y:=v)
    have h3:=h2.free hk (n:=d.n) ht2
    show ee ((d.s.dN t.ay.toNat v).free d.n) (d.s.aA++(d.ends++[(d.s.t t.ay.toNat).ku v]))
    rw[← List.append_assoc,dS hat]
    exact h3
end
end Go.SLYtpbjdoplfgeliaaGreat
namespace Go.SLYtpbjdoplfgeliaaGreat
open Go Go.RowKit
theorem DF{n:Int}:fK (BG n):=by unfold BG fK;omega
theorem yK:fK n8:=by unfold n8 fK;decide
theorem sN{n:Int}(h:fK n):fK (jF n):=by unfold jF;split;exact yK;exact h
theorem DG{o:Option Nat}(h:∀ r,o=some r→r<18446744073709551616):fK (EG o):=by
 cases o with
 | none=>exact yK
 | some r=>have:=h r rfl;exact sN ⟨by omega,by omega⟩
theorem gD{c:Prop}[Decidable c]{a b:Int}(h1:fK a)(h2:fK b):fK (if c then a else b):=by split;exact h1;exact h2
theorem Lh{b:Bool}:fK (BS b):=by unfold BS;exact gD ⟨by decide,by decide⟩ ⟨by decide,by decide⟩
theorem Hy{neg:Bool}{win:Ordering}{x y:Nat}(hx:x<18446744073709551616)(hy:y<18446744073709551616):fK ((kN neg win x y:Nat):Int):=by
 have h1:Go.FloatKind.f64.encode (.infinity neg)<18446744073709551616:=by cases neg <;> decide +kernel
 unfold kN
 simp only
 unfold fK
 repeat' split
 all_goals omega
theorem J7{op a b:Int}(ha:fK a)(hb:fK b):fK (cr op a b):=by
 have hx:a.toNat<18446744073709551616:=by have:=ha.1;have:=ha.2;omega
 have hy:b.toNat<18446744073709551616:=by have:=hb.1;have:=hb.2;omega
 have h0:fK 0:=⟨by decide,by decide⟩
 have hmin:fK (zX a b):=by unfold zX;exact gD yK (sN (Hy hx hy))
 have hmax:fK (zY a b):=by unfold zY;exact gD yK (sN (Hy hx hy))
 have hti:fK (lH a):=by unfold lH;exact gD h0 (gD ⟨by decide,by decide⟩ (gD ⟨by decide,by decide⟩ DF))
 have htf:fK (mR a):=by
  unfold mR
  refine sN ⟨by omega,?_⟩
  have:Go.FloatKind.f64.nearest (Go.IntKind.i64.wrap a)<18446744073709551616:=(Ieee.Format.write_lt Ieee.double (.number (decide (Go.IntKind.i64.wrap a<0)) (Go.IntKind.i64.wrap a).natAbs 0):_)
  omega
 unfold cr
 refine gD ha (gD DF (gD DF (gD DF (gD Lh (gD (DG fun r h=>Ieee.Format.add_lt _ h) (gD (DG fun r h=>Ieee.Format.sub_lt _ h) (gD (DG fun r h=>Ieee.Format.mul_lt _ h) (gD (DG fun r h=>Ieee.Format.div_lt _ h) (gD hmin (gD hmax (gD Lh (gD hti (gD htf h0)))))))))))))
end Go.SLYtpbjdoplfgeliaaGreat
namespace Go.SLYtpbjdoplfgeliaaGreat
open Go Go.RowKit
def b2(p:Prop)[Decidable p]:Nat:=if p then 1 else 0
theorem mZ{w:Int}{l:List eW}{a b:Int}:dQ w (l++[⟨a,b⟩])=dQ w l+b2 (a=w):=by
 unfold dQ b2 Lf;rw[List.countP_append];simp[List.countP_cons]
theorem q5{w:Int}{l:List eW}{c:Int}:dQ w (aM l c).2.2+b2 ((aM l c).2.1=true∧(aM l c).1.who=w)=dQ w l:=by
 by_cases h0:l.length=0
 ·rw[yq h0];unfold b2;rw[if_neg (by rintro⟨a,b⟩;cases a)];rfl
 ·rw[sH h0]
  have hp:=j7 (t:=c) (n:=l.length) (by omega)
  have hx:l[pick c l.length]?=some (l.getD (pick c l.length) ⟨0,0⟩):=getD_some hp
  have:=lN (P:=Lf w) hx
  unfold dQ b2
  rw[← this]
  simp only[true_and,Lf,decide_eq_true_eq]
theorem q6{w:Int}{l:List eW}(h:dQ w l=0):mr l w=false:=by
 unfold mr
 rw[List.any_eq_false]
 intro x hx e
 have:0<dQ w l:=List.countP_pos_iff.2 ⟨x,hx,e⟩
 omega
theorem B9{g:Gates}{w:Int}(h:cG g w=0):g.waits w=false:=by
 unfold cG at h
 unfold Gates.waits
 rw[Bool.or_eq_false_iff,Bool.or_eq_false_iff,List.any_eq_false,List.any_eq_false,List.any_eq_false]
 refine⟨⟨fun x hx=>?_,fun x hx=>?_⟩,fun x hx=>?_⟩
 ·have:=eI (f:=fun m:eK=>dQ w m.wait) hx
  rw[q6 (by omega)];simp
 ·have:=eI (f:=dQ w) hx
  rw[q6 (by omega)];simp
 ·have:=eI (f:=fun m:k6=>dQ w m.wait) hx
  rw[q6 (by omega)];simp
theorem d1:(1:Int)≠0:=by decide
theorem d4:(4:Int)≠0:=by decide
theorem d5:(5:Int)≠0:=by decide
section
variable{g:Gates}{p:gn}
theorem yL{i:Nat}{x y:eK}(h:g.dn[i]?=some x)(w:Int):cG {g with dn:=g.dn.set i y } w+dQ w x.wait=cG g w+dQ w y.wait:=by
 have:=gd (f:=fun m:eK=>dQ w m.wait) y h
 unfold cG;simp only at this ⊢;omega
theorem Hz{i:Nat}{x y:List eW}(h:g.hJ[i]?=some x)(w:Int):cG {g with hJ:=g.hJ.set i y } w+dQ w x=cG g w+dQ w y:=by
 have:=gd (f:=dQ w) y h
 unfold cG;simp only at this ⊢;omega
theorem yM{i:Nat}{x y:k6}(h:g.ez[i]?=some x)(w:Int):cG {g with ez:=g.ez.set i y } w+dQ w x.wait=cG g w+dQ w y.wait:=by
 have:=gd (f:=fun m:k6=>dQ w m.wait) y h
 unfold cG;simp only at this ⊢;omega
theorem sM.dn(h:sM p g){i:Nat}{y:eK}:sM p {g with dn:=g.dn.set i y }:=⟨by simp only[List.length_set];exact h.m,h.c,h.s,h.sc,fun r hr w hw=>by simp only[List.length_set];exact h.cm r hr w hw⟩
theorem sM.hJ(h:sM p g){i:Nat}{y:List eW}(hy:∀ w∈y,0≤w.mutex∧w.mutex<(g.dn.length:Int)):sM p {g with hJ:=g.hJ.set i y }:=⟨h.m,by simp only[List.length_set];exact h.c,h.s,h.sc,fun r hr w hw=>by
 rcases List.mem_or_eq_of_mem_set hr with hr | rfl
 ·exact h.cm r hr w hw
 ·exact hy w hw⟩
theorem sM.ez(h:sM p g){i:Nat}{y:k6}(hy:0≤y.count∧y.count≤1048576):sM p {g with ez:=g.ez.set i y }:=⟨h.m,h.c,by simp only[List.length_set];exact h.s,fun x hx=>by
 rcases List.mem_or_eq_of_mem_set hx with hx | rfl
 ·exact h.sc x hx
 ·exact hy,h.cm⟩
theorem ey{q:Prop}[Decidable q](h:¬q):b2 q=0:=if_neg h
theorem lO{q:Prop}[Decidable q](h:q):b2 q=1:=if_pos h
theorem Mg(h:sM p g){n m:Int}:sM p (g.lock n m).2.2∧ ∀ w,cG (g.lock n m).2.2 w=cG g w+b2 (((g.lock n m).2.1=0∧(g.lock n m).1=false)∧n=w):=by
 have nope:∀ (b:Bool) (e:Int),(e≠0∨b=true)→ ∀ w,cG g w=cG g w+b2 ((e=0∧b=false)∧n=w):=fun b e he w=>by
  rw[ey (by rintro⟨⟨a,c⟩, -⟩;rcases he with he | he;exact he a;rw[he] at c;cases c)];rfl
 by_cases hm:0≤m∧m<(g.dn.length:Int)
 ·obtain⟨x,hx,hgx⟩:=cQ hm
  cases hb:(g.waits n || x.is n) with
  | true=>rw[rK hgx hb];exact⟨h,nope _ _ (.inl d4)⟩
  | false =>
   rw[wC hgx hb]
   cases hh:x.held with
   | true =>
    rw[yr hh]
    refine⟨h.dn,fun w=>?_⟩
    have:=yL (y:={x with wait:=x.wait++[⟨n,0⟩] }) hx w
    rw[mZ] at this
    have e:b2 (((0:Int)=0∧false=false)∧n=w)=b2 (n=w):=by unfold b2;simp
    rw[e];simp only at this ⊢;omega
   | false =>
    rw[yt hh]
    refine⟨h.dn,fun w=>?_⟩
    have:=yL (y:={x with held:=true,owner:=n }) hx w
    rw[ey (by rintro⟨⟨a,c⟩, -⟩;cases c)]
    simp only at this ⊢;omega
 ·rw[wB hm];exact⟨h,nope _ _ (.inl d1)⟩
theorem rU{x:eK}{c w:Int}:dQ w (x.unlock c).2.2.wait+b2 ((x.unlock c).2.1=true∧(x.unlock c).1=w)=dQ w x.wait:=q5
theorem HA(h:sM p g){n m c:Int}:sM p (g.unlock n m c).2.2.2∧ ∀ w,cG (g.unlock n m c).2.2.2 w+b2 ((g.unlock n m c).2.1=true∧(g.unlock n m c).1=w)=cG g w:=by
 have nope:∀ w,cG g w+b2 (false=true∧(0:Int)=w)=cG g w:=fun w=>by rw[ey (by rintro⟨a, -⟩;cases a)];rfl
 by_cases hm:0≤m∧m<(g.dn.length:Int)
 ·obtain⟨x,hx,hgx⟩:=cQ hm
  cases hb:x.is n with
  | false=>rw[pF hgx hb];exact⟨h,nope⟩
  | true =>
   rw[rM hgx hb]
   refine⟨h.dn,fun w=>?_⟩
   have:=yL (y:=(x.unlock c).2.2) hx w
   have:=rU (x:=x) (c:=c) (w:=w)
   simp only at *;omega
 ·rw[rL hm];exact⟨h,nope⟩
theorem Mh(h:sM p g){n c m ch:Int}(hw0:g.waits n=false):sM p (g.wait n c m ch).2.2.2∧ ∀ w,cG (g.wait n c m ch).2.2.2 w+b2 ((g.wait n c m ch).2.1=true∧(g.wait n c m ch).1=w)=cG g w+b2 ((g.wait n c m ch).2.2.1=0∧n=w):=by
 have nope:∀ e:Int,e≠0→ ∀ w,cG g w+b2 (false=true∧(0:Int)=w)=cG g w+b2 (e=0∧n=w):=fun e he w=>by rw[ey (by rintro⟨a, -⟩;cases a),ey (fun h=>he h.1)]
 by_cases hm:0≤m∧m<(g.dn.length:Int)
 ·by_cases hc:0≤c∧c<(g.hJ.length:Int)
  ·obtain⟨x,hx,hgx⟩:=cQ hm
   obtain⟨r,hr,hgr⟩:=cQ hc
   cases hb:x.is n with
   | false=>rw[oC hgx hgr hw0 hb];exact⟨h,nope _ d5⟩
   | true =>
    rw[qR hgx hgr hw0 hb]
    have h1:=h.dn (i:=m.toNat) (y:=(x.unlock ch).2.2)
    refine⟨h1.hJ (i:=c.toNat) (y:=r++[⟨n,m⟩]) (fun w hw=>?_),fun w=>?_⟩
    ·simp only[List.length_set]
     rcases List.mem_append.1 hw with hw | hw
     ·exact h.cm r (List.mem_of_getElem? hr) w hw
     ·rw[List.mem_singleton] at hw;rw[hw];exact hm
    ·have a1:=yL (y:=(x.unlock ch).2.2) hx w
     have a2:=rU (x:=x) (c:=ch) (w:=w)
     have a3:=Hz (g:={g with dn:=g.dn.set m.toNat (x.unlock ch).2.2 }) (y:=r++[⟨n,m⟩]) hr w
     rw[mZ] at a3
     have e:b2 ((0:Int)=0∧n=w)=b2 (n=w):=by unfold b2;simp
     simp only at *
     omega
  ·rw[oB hc];exact⟨h,nope _ d1⟩
 ·rw[oA hm];exact⟨h,nope _ d1⟩
theorem Mi(h:sM p g){n s:Int}(hw0:g.waits n=false):sM p (g.down n s).2.2∧ ∀ w,cG (g.down n s).2.2 w=cG g w+b2 (((g.down n s).2.1=0∧(g.down n s).1=false)∧n=w):=by
 by_cases hs:0≤s∧s<(g.ez.length:Int)
 ·obtain⟨x,hx,hgx⟩:=cQ hs
  have hxc:=h.sc x (List.mem_of_getElem? hx)
  by_cases hc:0<x.count
  ·rw[wF hgx hw0 hc]
   refine⟨h.ez (by simp only;omega),fun w=>?_⟩
   have:=yM (y:={x with count:=x.count-1 }) hx w
   rw[ey (by rintro⟨⟨a,c⟩, -⟩;cases c)]
   simp only at this ⊢;omega
  ·rw[rQ hgx hw0 hc]
   refine⟨h.ez hxc,fun w=>?_⟩
   have:=yM (y:={x with wait:=x.wait++[⟨n,0⟩] }) hx w
   rw[mZ] at this
   have e:b2 (((0:Int)=0∧false=false)∧n=w)=b2 (n=w):=by unfold b2;simp
   rw[e];simp only at this ⊢;omega
 ·rw[wD hs]
  exact⟨h,fun w=>by rw[ey (by rintro⟨⟨a,c⟩, -⟩;exact d1 a)];rfl⟩
theorem Om(h:sM p g){s c:Int}:sM p (g.up s c).2.2.2∧ ∀ w,cG (g.up s c).2.2.2 w+b2 ((g.up s c).2.1=true∧(g.up s c).1=w)=cG g w:=by
 have no:∀ w,b2 (false=true∧(0:Int)=w)=0:=fun w=>ey (by rintro⟨a, -⟩;cases a)
 by_cases hs:0≤s∧s<(g.ez.length:Int)
 ·obtain⟨x,hx,hgx⟩:=cQ hs
  have hxc:=h.sc x (List.mem_of_getElem? hx)
  cases ht:(aM x.wait c).2.1 with
  | true =>
   rw[wG hgx ht]
   refine⟨h.ez hxc,fun w=>?_⟩
   have a1:=yM (y:={x with wait:=(aM x.wait c).2.2 }) hx w
   have a2:=q5 (w:=w) (l:=x.wait) (c:=c)
   rw[ht] at a2
   simp only at *;omega
  | false =>
   by_cases hc:1048576≤x.count
   ·rw[wH hgx ht hc];exact⟨h,fun w=>by rw[no];rfl⟩
   ·rw[Dt hgx ht hc]
    refine⟨h.ez (by simp only;omega),fun w=>?_⟩
    have:=yM (y:={x with count:=x.count+1 }) hx w
    rw[no];simp only at this ⊢;omega
 ·rw[Ds hs];exact⟨h,fun w=>by rw[no];rfl⟩
theorem Li:∀ (n:Nat) (c:Int) (r:List eW) (ms:List eK) (out:List Int) (w:Int),n≤r.length→(∀ y∈r,0≤y.mutex∧y.mutex<(ms.length:Int))→
  dQ w (sigLoop n c r ms out).1+mX (fun m:eK=>dQ w m.wait) (sigLoop n c r ms out).2.1+(sigLoop n c r ms out).2.2.count w=dQ w r+mX (fun m:eK=>dQ w m.wait) ms+out.count w∧ ∀ y∈(sigLoop n c r ms out).1,y∈r
 | 0,_,_,_,_,_,_,_=>⟨rfl,fun _ h=>h⟩
 | n+1,c,r,ms,out,w,hn,hr=>by
  obtain⟨h1,h2,h3⟩:=kP (l:=r) (c:=c) (by omega)
  have hm:=hr _ h1
  obtain⟨x,hx⟩:=ai (show(aM r c).1.mutex.toNat<ms.length by omega)
  have ht:(aM r c).2.1=true:=by rw[sH (by omega)]
  have hgx:ms.getD (aM r c).1.mutex.toNat ⟨[],false,0⟩=x:=by rw[List.getD_eq_getElem?_getD,hx];rfl
  unfold sigLoop
  simp only
  rw[hgx]
  obtain⟨a1,a2⟩:=Li n c (aM r c).2.2 (ms.set (aM r c).1.mutex.toNat (x.lock (aM r c).1.who).2) (if (x.lock (aM r c).1.who).1=true then out++[(aM r c).1.who] else out) w (by omega) (fun y hy=>by rw[List.length_set];exact hr y (h3 y hy))
  refine⟨a1.trans ?_,fun y hy=>h3 y (a2 y hy)⟩
  have b1:=q5 (w:=w) (l:=r) (c:=c)
  have b3:=gd (f:=fun m:eK=>dQ w m.wait) (x.lock (aM r c).1.who).2 hx
  have e:b2 ((aM r c).2.1=true∧(aM r c).1.who=w)=b2 ((aM r c).1.who=w):=by unfold b2;simp[ht]
  rw[e] at b1
  cases hh:x.held with
  | true =>
   rw[yr hh] at b3 ⊢
   simp only[Bool.false_eq_true,if_false] at b3 ⊢
   rw[mZ] at b3
   omega
  | false =>
   rw[yt hh] at b3 ⊢
   simp only[if_true] at b3 ⊢
   rw[List.count_append,List.count_singleton]
   have e2:(if ((aM r c).1.who == w)=true then 1 else 0)=b2 ((aM r c).1.who=w):=by unfold b2;simp
   rw[e2];omega
theorem HB(h:sM p g){c ch:Int}{all:Bool}:sM p (g.signal c ch all).2.2∧ ∀ w,cG (g.signal c ch all).2.2 w+(g.signal c ch all).1.count w=cG g w:=by
 by_cases hc:0≤c∧c<(g.hJ.length:Int)
 ·obtain⟨r,hr,hgr⟩:=cQ hc
  have hrm:=h.cm r (List.mem_of_getElem? hr)
  rw[rP hgr rfl]
  have hs:=fun w=>Li (if all=true then r.length else min r.length 1) (if all=true then 0 else ch) r g.dn [] w (by split <;> omega) hrm
  refine⟨⟨?_,?_,h.s,h.sc,fun y hy w hw=>?_⟩,fun w=>?_⟩
  ·rw[pP];exact h.m
  ·simp only[List.length_set];exact h.c
  ·rw[pP]
   rcases List.mem_or_eq_of_mem_set hy with hy | rfl
   ·exact h.cm y hy w hw
   ·exact hrm w ((hs 0).2 w hw)
  ·have a1:=(hs w).1
   have a2:=gd (f:=dQ w) (sigLoop (if all=true then r.length else min r.length 1) (if all=true then 0 else ch) r g.dn []).1 hr
   unfold cG
   simp only[List.count_nil] at *
   omega
 ·rw[rN hc];exact⟨h,fun w=>rfl⟩
end
end Go.SLYtpbjdoplfgeliaaGreat
namespace Go.SLYtpbjdoplfgeliaaGreat
open Go Go.RowKit
theorem oO{n w:Int}:[n].count w=b2 (n=w):=by rw[List.count_singleton];unfold b2;simp
theorem Ar{ok:Bool}{n w:Int}:(if ok=true then [n] else []).count w=b2 (ok=true∧n=w):=by
 cases ok
 ·simp[b2]
 ·simp only[if_true,oO,true_and]
structure St(k:Nat)(s0:Spc)(d:Dng)(t:bI):Prop where
 h:dG k s0 d [] []
 ht:d.s.aF[d.n]?=some (some t)
 hw:t.cS=0
 hs:d.out.aQ=false
 he:d.out.ended=false
 I:oa d.i
 hn:d.ends=[]
section
variable{k:Nat}{s0:Spc}{d:Dng}{p q:List Int}{t:bI}
theorem St.o(S:St k s0 d t):Me (d.s.table.getD d.n (false,0)) d.n t:=S.h.ok.th d.n t S.ht
theorem St.zero(S:St k s0 d t):nV d.s d.n=0:=by
 have:=S.h.ok.su d.n
 have e:dW d.s d.n=0:=by unfold dW;rw[DE S.ht];exact oM S.hw
 simp at this;omega
theorem St.a(S:St k s0 d t):fK d.a:=by unfold Dng.a;rw[dj S.ht];exact S.o.R.r _
theorem St.b(S:St k s0 d t):fK d.b:=by unfold Dng.b;rw[dj S.ht];exact S.o.R.r _
theorem St.pass(S:St k s0 d t){x y e:Int}(he:0≤e∧e≤11):dG k s0 (d.pass x y e) [] []:=S.h.pass S.ht S.hw S.hn he
theorem dG.given{ok:Bool}{n:Int}(h:dG k s0 d (if ok=true then [n] else []) [])(hne:ok=true→n=(d.n:Int)→d.out.aQ=false∧d.out.ended=false):dG k s0 (d.given n ok) [] []:=by
 unfold Dng.given
 cases ok with
 | false=>exact h
 | true =>
  have:=dG.cq (y:=0) h (w0:=n) (by simp) ⟨by decide,by decide⟩ (hne rfl)
  exact this.su (fun w=>by simp)
theorem HC{g:Gates}{n c m ch:Int}(h:(g.wait n c m ch).2.2.1≠0):(g.wait n c m ch).2.1=false:=by
 unfold Gates.wait at h ⊢
 repeat' split
 all_goals first | rfl | skip
 rename_i h1 h2 h3 h4
 rw[h1,h2] at h
 simp only at h
 rw[if_neg h3,if_pos h4] at h
 exact absurd rfl h
theorem St.waits(S:St k s0 d t):d.s.al.waits d.n=false:=B9 (by have:=S.zero;unfold nV at this;omega)
theorem HD{g:Gates}{n c m ch:Int}(hw0:g.waits n=false)(h:(g.wait n c m ch).2.2.1=0):1≤cG (g.wait n c m ch).2.2.2 n:=by
 by_cases hm:0≤m∧m<(g.dn.length:Int)
 ·by_cases hc:0≤c∧c<(g.hJ.length:Int)
  ·obtain⟨x,hx,hgx⟩:=cQ hm
   obtain⟨r,hr,hgr⟩:=cQ hc
   cases hb:x.is n with
   | false=>rw[oC hgx hgr hw0 hb] at h;exact absurd h d5
   | true =>
    rw[qR hgx hgr hw0 hb]
    have a3:=Hz (g:={g with dn:=g.dn.set m.toNat (x.unlock ch).2.2 }) (y:=r++[⟨n,m⟩]) hr n
    have a4:dQ n r≤cG {g with dn:=g.dn.set m.toNat (x.unlock ch).2.2 } n:=by
     have:=eI (f:=dQ n) (List.mem_of_getElem? hr)
     unfold cG;simp only;omega
    rw[mZ,lO rfl] at a3
    simp only at a3 ⊢
    omega
  ·rw[oB hc] at h;exact absurd h d1
 ·rw[oA hm] at h;exact absurd h d1
theorem St.mutex(S:St k s0 d t):dG k s0 d.mutex [] []:=by
 unfold Dng.mutex
 simp only
 split
 ·obtain⟨hg,hc⟩:=Mg (n:=d.n) (m:=d.i.n) S.h.ok.gt
  split
  ·rename_i hb
   have h1:=S.h.bF hg (p':=[]) (q':=[(d.n:Int)]) (fun w=>by
    rw[hc w,oO]
    have:b2 (((d.s.al.lock d.n d.i.n).2.1=0∧(d.s.al.lock d.n d.i.n).1=false)∧(d.n:Int)=w)=b2 ((d.n:Int)=w):=by unfold b2;simp[hb]
    rw[this];simp)
   exact h1.block S.ht S.hw S.hn S.hs S.he ⟨by decide,by decide⟩ (by decide)
  ·rename_i hb
   have h1:=S.h.bF hg (p':=[]) (q':=[]) (fun w=>by rw[hc w,ey (fun h=>hb h.1)];rfl)
   exact h1.pass S.ht S.hw S.hn Dx
 ·split
  ·obtain⟨hg,hc⟩:=HA (n:=d.n) (m:=d.i.n) (c:=d.choice) S.h.ok.gt
   have h1:=S.h.bF hg (p':=if (d.s.al.unlock d.n d.i.n d.choice).2.1=true then [(d.s.al.unlock d.n d.i.n d.choice).1] else []) (q':=[]) (fun w=>by rw[Ar];have:=hc w;simp;omega)
   exact(h1.pass S.ht S.hw S.hn qW).given (fun _ _=>⟨S.hs,S.he⟩)
  ·obtain⟨hg,hc⟩:=Mh (n:=d.n) (c:=d.i.n) (m:=d.i.c) (ch:=d.choice) S.h.ok.gt S.waits
   have hc2:=fun w=>hc w
   split
   ·rename_i he
    have h1:=S.h.bF hg (p':=[]) (q':=[]) (fun w=>by
     have:=hc w
     rw[ey (fun h=>by rw[HC he] at h;exact absurd h.1 (by simp)),ey (fun h=>he h.1)] at this
     simp;omega)
    exact h1.pass S.ht S.hw S.hn Dy
   ·rename_i he
    have he:(d.s.al.wait d.n d.i.n d.i.c d.choice).2.2.1=0:=Decidable.not_not.mp he
    have hno:(d.s.al.wait d.n d.i.n d.i.c d.choice).2.1=true→¬(d.s.al.wait d.n d.i.n d.i.c d.choice).1=(d.n:Int):=fun ho hn=>by
     have h1:=hc d.n
     have h2:cG d.s.al d.n=0:=by have:=S.zero;unfold nV at this;omega
     have h3:=HD (g:=d.s.al) (n:=d.n) (c:=d.i.n) (m:=d.i.c) (ch:=d.choice) S.waits he
     rw[lO ⟨ho,hn⟩,lO ⟨he,rfl⟩] at h1
     omega
    have h1:=S.h.bF hg (p':=if (d.s.al.wait d.n d.i.n d.i.c d.choice).2.1=true then [(d.s.al.wait d.n d.i.n d.i.c d.choice).1] else []) (q':=[(d.n:Int)]) (fun w=>by
     rw[Ar,oO]
     have:=hc w
     have e:b2 ((d.s.al.wait d.n d.i.n d.i.c d.choice).2.2.1=0∧(d.n:Int)=w)=b2 ((d.n:Int)=w):=by unfold b2;simp[he]
     rw[e] at this
     simp;omega)
    exact(h1.block S.ht S.hw S.hn S.hs S.he ⟨by decide,by decide⟩ (by decide)).given (fun ho hn=>absurd hn (hno ho))
theorem St.ez(S:St k s0 d t):dG k s0 d.ez [] []:=by
 unfold Dng.ez
 simp only
 split
 ·obtain⟨hg,hc⟩:=Om (s:=d.i.n) (c:=d.choice) S.h.ok.gt
  have h1:=S.h.bF hg (p':=if (d.s.al.up d.i.n d.choice).2.1=true then [(d.s.al.up d.i.n d.choice).1] else []) (q':=[]) (fun w=>by rw[Ar];have:=hc w;simp;omega)
  exact(h1.pass S.ht S.hw S.hn Hf).given (fun _ _=>⟨S.hs,S.he⟩)
 ·obtain⟨hg,hc⟩:=Mi (n:=d.n) (s:=d.i.n) S.h.ok.gt S.waits
  split
  ·rename_i hb
   have h1:=S.h.bF hg (p':=[]) (q':=[(d.n:Int)]) (fun w=>by
    rw[hc w,oO]
    have:b2 (((d.s.al.down d.n d.i.n).2.1=0∧(d.s.al.down d.n d.i.n).1=false)∧(d.n:Int)=w)=b2 ((d.n:Int)=w):=by unfold b2;simp[hb]
    rw[this];simp)
   exact h1.block S.ht S.hw S.hn S.hs S.he ⟨by decide,by decide⟩ (by decide)
  ·rename_i hb
   have h1:=S.h.bF hg (p':=[]) (q':=[]) (fun w=>by rw[hc w,ey (fun h=>hb h.1)];rfl)
   exact h1.pass S.ht S.hw S.hn Dz
/-! those who go on by a signal -/
theorem Ok.On{s:Spc}(h:Ok k s p q){w0:Int}{u:bI}(hu:s.at w0=some u)(hu0:u.cS≠0)(hu9:u.cS≠9):Ok k (s.aX w0.toNat {u with cS:=1 }) p q:=by
 obtain⟨h0,hat⟩:=ja hu
 have ho:=h.th _ u hat
 refine h.aX (t':={u with cS:=1 }) hat ⟨ho.h,⟨ho.R.l,ho.R.r,ho.R.i,ho.R.v,ho.R.h⟩,ho.pc,ho.d,fun e=>absurd (show(1:Int)=9 from e) (by decide)⟩ (fun w=>?_)
 have e1:bT u=1:=kA hu0 hu9
 have e2:bT {u with cS:=1 }=1:=kA (t:={u with cS:=1 }) (by show(1:Int)≠0;decide) (by show(1:Int)≠9;decide)
 have e3:jn w (some {u with cS:=1 })=jn w (some u):=rfl
 rw[e1,e2,e3]
theorem HE{s:Spc}{w0:Int}{u:bI}(hu:s.at w0=some u)(hu0:u.cS≠0)(hu9:u.cS≠9)(w:Int):dW (s.aX w0.toNat {u with cS:=1 }) w=dW s w∧c0 (s.aX w0.toNat {u with cS:=1 }) w=c0 s w:=by
 obtain⟨h0,hat⟩:=ja hu
 have hc:((w0.toNat:Nat):Int)=w0:=by omega
 have e:(s.aX w0.toNat {u with cS:=1 }).at w=if w=w0 then some {u with cS:=1 } else s.at w:=by
  have:=oL (s:=s) (n:=w0.toNat) (o:=some {u with cS:=1 }) (List.getElem?_eq_some_iff.1 hat).1 w
  rw[hc] at this;exact this
 unfold dW c0
 rw[e]
 by_cases hw:w=w0
 ·rw[if_pos hw,hw,hu]
  refine⟨?_,?_⟩
  ·show bT {u with cS:=1 }=bT u
   exact(kA (t:={u with cS:=1 }) (by show(1:Int)≠0;decide) (by show(1:Int)≠9;decide)).trans (kA hu0 hu9).symm
  ·rw[du,du,if_neg (by show ¬(1:Int)=0;decide),if_neg hu0]
 ·rw[if_neg hw];exact⟨rfl,rfl⟩
theorem dG.cN:∀ (l:List Int) (d:Dng),dG k s0 d p q→(∀ w∈l,0<dW d.s w)→dG k s0 {d with s:=cN d.s l } p q
 | [],_,h,_=>h
 | w::l,d,h,hl=>by
  obtain⟨u,hu,hu0,hu9⟩:=kc (hl w List.mem_cons_self)
  have hat:=(ja hu).2
  have hk:=HE hu hu0 hu9
  have h2:dG k s0 {d with s:=d.s.aX w.toNat {u with cS:=1 } } p q:=⟨h.ok.On hu hu0 hu9,fun w'=>by
   have:=h.rd w'
   show c0 (d.s.aX w.toNat {u with cS:=1 }) w'+_=_
   rw[(hk w').2];exact this,h.wk,h.rc.aX hat rfl (by rw[kA hu0 hu9];exact kA (t:={u with cS:=1 }) (by show(1:Int)≠0;decide) (by show(1:Int)≠9;decide)) (fun _=>rfl),h.px⟩
  have h3:=dG.cN l _ h2 (fun w' hw'=>by
   show 0<dW (d.s.aX w.toNat {u with cS:=1 }) w'
   rw[(hk w').1];exact hl w' (List.mem_cons_of_mem _ hw'))
  show dG k s0 {d with s:=Go.SLYtpbjdoplfgeliaaGreat.cN (d.s.aX w.toNat {d.s.t w.toNat with cS:=1 }) l } p q
  rw[show d.s.t w.toNat=u from dS hat]
  exact h3
theorem dG.dA:∀ (l:List Int) (d:Dng),dG k s0 d l []→d.out.aQ=false∧d.out.ended=false→dG k s0 (d.dA l) [] []
 | [],_,h,_=>h
 | w::l,d,h,hs=>by
  have h1:=h.cq (w0:=w) (y:=0) (by simp) ⟨by decide,by decide⟩ (fun _=>hs)
  refine dG.dA l _ ?_ hs
  exact(h1.su (fun w'=>by simp[List.count_cons]))
theorem dG.mj{l:List Int}(h:dG k s0 d l [])(hs:d.out.aQ=false∧d.out.ended=false):dG k s0 (d.mj l) [] []:=by
 unfold Dng.mj
 refine dG.dA l _ (dG.cN d.waits d h (fun w hw=>?_)) hs
 have:=h.ok.su w
 have h1:0<cG d.s.al w:=by
  obtain⟨x,hx,hw⟩:=List.mem_flatMap.1 hw
  obtain⟨y,hy,rfl⟩:=List.mem_map.1 hw
  have h2:=eI (f:=fun m:eK=>dQ y.who m.wait) (List.mem_of_mem_take hx)
  have h3:0<dQ y.who x.wait:=List.countP_pos_iff.2 ⟨y,hy,by simp[Lf]⟩
  unfold cG;omega
 unfold nV at this
 simp at this;omega
theorem St.signal(S:St k s0 d t){all:Bool}:dG k s0 (((d.bF (d.s.al.signal d.i.n d.choice all).2.2).pass d.i.n 0 (d.s.al.signal d.i.n d.choice all).2.1).mj (d.s.al.signal d.i.n d.choice all).1) [] []:=by
 obtain⟨hg,hc⟩:=HB (c:=d.i.n) (ch:=d.choice) (all:=all) S.h.ok.gt
 have h1:=S.h.bF hg (p':=(d.s.al.signal d.i.n d.choice all).1) (q':=[]) (fun w=>by have:=hc w;simp;omega)
 exact(h1.pass S.ht S.hw S.hn il).mj ⟨S.hs,S.he⟩
end
end Go.SLYtpbjdoplfgeliaaGreat
