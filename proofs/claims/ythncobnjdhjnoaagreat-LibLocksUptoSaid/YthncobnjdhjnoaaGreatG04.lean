/- Walks of functions, and what they compute. Conditions: none, this text proves no statement. -/
import Derived.Test.YthncobnjdhjnoaaGreatG03
import Derived.Laws.FloatBits
namespace Go.SLYthncobnjdhjnoaaGreat
open Go Go.RowKit
def dH(b p:Nat)(d:Dng)(vw ve:Value):List Value:=[ptr b,.int .i64 (d.n:Int),ptr p,.int .i64 d.i.op,.int .i64 d.i.a,.int .i64 d.i.b,.int .i64 d.i.c,.int .u64 d.i.n,.int .i64 d.choice,vw,.bool d.out.aK,.bool d.out.ended,.bool d.out.yielded,ve]
def bc(bd b p:Nat)(ps:List (Option Nat))(d:Dng):aa:=qa (fun _ _=>True) fun vw ve=>[arr bd 0 (dH b p d vw ve),sl ar 1 vw d.out.aw,sl jm 6 ve d.ends,cn b ps d.s]
def KJ(bd b p:Nat)(d:Dng):aa:=hU (fun _=>True) fun ps=>[bc bd b p ps d]
def qd(v:Value)(e:mh):List Value:=[v,.bool e.aK,.bool e.ended,.bool e.yielded]
theorem bN{ps:List (Option Nat)}{ts:List (Option bA)}{n p:Nat}{t:bA}(hp:ps[n]?=some (some p))(ht:ts[n]?=some (some t)):∀ h,ax ps ts h→seps [arr p 0 (bb t),ax (ps.set n none) (ts.set n none)] h:=fun h a=>by
 obtain⟨q,hq,a'⟩:=kZ ht h a
 rw[hp] at hq;cases hq
 exact ja.2 a'
theorem bH{ps:List (Option Nat)}{ts:List (Option bA)}{n p:Nat}{t:bA}(hp:ps[n]?=some (some p))(ht:ts[n]?=some (some t)):∀ h,seps [arr p 0 (bb t),ax (ps.set n none) (ts.set n none)] h→ax ps ts h:=fun h a=>by
 have:=cq (List.getElem?_eq_some_iff.1 ht).1 hp h a
 rwa [jC ht] at this
theorem lV{t:bA}:∀ {n:Nat} (_:n<8),(bb t)[2+n * 1]?=some (.int .u64 (t.aD.getD n 0))
 | 0,_=>rfl
 | 1,_=>rfl
 | 2,_=>rfl
 | 3,_=>rfl
 | 4,_=>rfl
 | 5,_=>rfl
 | 6,_=>rfl
 | 7,_=>rfl
 | n+8,h=>absurd h (by omega)
theorem D3{fn pc handle cE value av op bR:Int}{det:Bool}{a0 a1 a2 a3 a4 a5 a6 a7:Int}(x:Int):∀ {n:Nat} (_:n<8),(bb ⟨fn,pc,[a0,a1,a2,a3,a4,a5,a6,a7],handle,cE,value,det,av,op,bR⟩).set (2+n * 1) (.int .u64 x)=bb ⟨fn,pc,[a0,a1,a2,a3,a4,a5,a6,a7].set n x,handle,cE,value,det,av,op,bR⟩
 | 0,_=>rfl
 | 1,_=>rfl
 | 2,_=>rfl
 | 3,_=>rfl
 | 4,_=>rfl
 | 5,_=>rfl
 | 6,_=>rfl
 | 7,_=>rfl
 | n+8,h=>absurd h (by omega)
theorem qp{t:bA}(x:Int){n:Nat}(hn:n<8)(hl:t.aD.length=8):(bb t).set (2+n * 1) (.int .u64 x)=bb (t.put (n:Int) x):=by
 obtain⟨fn,pc,aD,handle,cE,value,det,av,op,bR⟩:=t
 match aD,hl with
 | [a0,a1,a2,a3,a4,a5,a6,a7],_=>exact D3 x hn
theorem iB{t:bA}(x:Int){i:Int}(h0:0≤i)(hn:i<8)(hl:t.aD.length=8):(bb t).set (2+i.toNat * 1) (.int .u64 x)=bb (t.put i x):=by
 rw[qp x (by omega) hl,show((i.toNat:Nat):Int)=i from by omega]
theorem nO(t:bA)(x:Int):(bb t).set 11 (.int .i64 x)=bb {t with cE:=x }:=rfl
theorem B0(t:bA)(x:Int):(bb t).set 12 (.int .u64 x)=bb {t with value:=x }:=rfl
theorem Gc(t:bA)(x:Bool):(bb t).set 13 (.bool x)=bb {t with bB:=x }:=rfl
theorem ze(t:bA)(x:Int):(bb t).set 14 (.int .i64 x)=bb {t with av:=x }:=rfl
theorem HV(t:bA)(x:Int):(bb t).set 15 (.int .i64 x)=bb {t with op:=x }:=rfl
theorem rj(t:bA)(x:Int):(bb t).set 16 (.int .i64 x)=bb {t with bR:=x }:=rfl
theorem iR{t:bA}{i x:Int}:(t.put i x).aD.length=t.aD.length:=by unfold bA.put;simp
section
variable{fv sv pv:Value}{p:gD}{bt:Nat}{ps:List (Option Nat)}{vm:Value}{bg:Nat}{vt:Value}{bk bw:Nat}{vr u:Value}
theorem rk:(eR fv sv pv p bt ps vm bg vt bk bw vr).set 30 u=eR fv sv pv p bt ps vm bg vt bk bw u:=rfl
theorem uX:(eR fv sv pv p bt ps vm bg vt bk bw vr).set 25 u=eR fv sv pv p bt ps u bg vt bk bw vr:=rfl
end
structure gk(t:bA):Prop where
 l:t.aD.length=8
 r:∀ n,0≤t.aD.getD n 0∧t.aD.getD n 0≤18446744073709551615
 i : -1≤t.bR∧t.bR<8
 v:0≤t.value∧t.value≤18446744073709551615
 h:0≤t.handle∧t.handle≤18446744073709551615
theorem dC{s:Spc}{n:Nat}{t:bA}(h:s.aA[n]?=some (some t)):s.t n=t:=by unfold Spc.t;rw[List.getD_eq_getElem?_getD,h];rfl
theorem cP{d:Dng}{t:bA}(h:d.s.aA[d.n]?=some (some t)):d.t=t:=dC h
def zf(ps:List (Option Nat))(n:Int):Option Nat:=if 0≤n∧n<16 then ps.getD n.toNat none else none
theorem AO{t:bA}{y:Int}(t1:bA)(h:t1=if t.bR = -1 then t else t.put t.bR y):t.fL y = {t1.put 7 0 with cE:=0,bR := -1 }:=by unfold bA.fL;rw[h]
section
variable{P:Program}{W:World}{N:Nat}{T:TypeId}{L:List (Nat×Option Value)}{H:List aa}{α:Type}
theorem ab.Gd{E:TypeId}{x y:Operand}{pos:String}{after:Array Edge}{guard:Option (Nat×Bool)}{b o:Nat}{v:Value}{vs cs:List Value}{H':List aa}{enc:α→List Value}{k:Nat}{xs:List α}(hz:∀ w,(sizeOf E).run P w = .ok (vs.length+1) w)(hx:ev L x=some (.pointer (some ⟨b,o,none⟩)))(hy:ev L y=some (.agg (v::vs).toArray))[hv:aG W H v enc k xs](hvs:vs.all (·.oneCell')=true)
  [_h0:bQ H b o cs] [hr:cr H b o cs (v::vs) H'] (hi:cs.length=vs.length+1) :
  ab P W N ⟨none,.store E x y,T,pos,after,guard⟩ L H (fun L1 H1=>L1=L∧H1=H'):=fun a w ha hs Kp hK=>ab.storeAll hx hy hz (fun c hc=>by
   rcases List.mem_cons.1 hc with rfl | hc
   ·exact hv.rd.one w hs
   ·exact List.all_eq_true.1 hvs c hc) hr.nr hi a w ha hs Kp hK
end
end Go.SLYthncobnjdhjnoaaGreat
namespace Go.SLYthncobnjdhjnoaaGreat
open Go Go.RowKit
def bC(ps:List (Option Nat))(s:Spc)(n:Nat):Prop:=n<16∧ ∃ q t,ps[n]?=some (some q)∧s.aA[n]?=some (some t)∧gk t
theorem B1{b p:Nat}{d:Dng}{vw ve:Value}:(dH b p d vw ve).set 11 (.bool true)=dH b p d.ended vw ve:=rfl
theorem Ge{b p:Nat}{d:Dng}{vw ve:Value}:(dH b p d vw ve).set 12 (.bool true)=dH b p {d with out:={d.out with yielded:=true } } vw ve:=rfl
theorem eW{s:Spc}{n m:Nat}{t t':bA}(h:s.aA[m]?=some (some t))(hne:n≠m):(s.aT n t').aA[m]?=some (some t):=by
 unfold Spc.aT;simp only;rw[List.getElem?_set_ne hne];exact h
theorem cS{s:Spc}{n:Nat}{t t':bA}(h:s.aA[n]?=some (some t)):(s.aT n t').aA[n]?=some (some t'):=by
 unfold Spc.aT;simp only;exact List.getElem?_set_self (List.getElem?_eq_some_iff.1 h).1
theorem D4{d:Dng}{n:Nat}{y:Int}{m:Nat}{t:bA}(h:d.s.aA[m]?=some (some t))(hne:n≠m):(d.cB n y).s.aA[m]?=some (some t):=eW h hne
theorem AP{d:Dng}{t:bA}{v:Int}(ht:d.s.aA[d.n]?=some (some t))(h:t.bB=true):d.fin v=d.ended.free d.n:=by
 unfold Dng.fin;rw[cP ht,if_pos h]
theorem xh{d:Dng}{t:bA}{v:Int}(ht:d.s.aA[d.n]?=some (some t))(h:t.bB=false)(hj:t.av = -1):d.fin v=d.ended.aT {t with cE:=9,value:=v }:=by
 unfold Dng.fin;rw[cP ht,if_neg (by rw[h];simp),if_pos hj]
theorem xi{d:Dng}{t:bA}{v:Int}(ht:d.s.aA[d.n]?=some (some t))(h:t.bB=false)(hj:¬t.av = -1):d.fin v=(d.ended.cB t.av.toNat v).free d.n:=by
 unfold Dng.fin;rw[cP ht,if_neg (by rw[h];simp),if_neg hj]
theorem rm{t:bA}{f:gZ}:setFrom (bb t) 0 (gU f)=bb (t.mB f):=rfl
theorem kc{f:gZ}{m:List Int}{i:Ins}{z:gZ×List Int}(h:kO f m i=some z):ft f m i=(z.1,z.2,0):=by unfold ft;rw[h]
theorem rn{f:gZ}{m:List Int}{i:Ins}(h:kO f m i=none):ft f m i=(gZ.z,[],6):=by unfold ft;rw[h]
theorem mG{f:gZ}{m:List Int}{i:Ins}(h:(ft f m i).2.2=0):∃ z,kO f m i=some z:=by
 unfold ft at h
 cases e:kO f m i with
 | none=>rw[e] at h;cases h
 | some z=>exact⟨z,rfl⟩
theorem oP{f:gZ}{m:List Int}{i:Ins}(h:¬(ft f m i).2.2=0):kO f m i=none:=by
 cases e:kO f m i with
 | none=>rfl
 | some z=>rw[kc e] at h;exact absurd rfl h
theorem D5{f:gZ}{m:List Int}{i:Ins}(h:kO f m i=none):i.op=18∨i.op=19:=by
 unfold kO at h
 repeat' split at h
 all_goals first | (cases h;done) | omega
theorem D6{f:gZ}{m:List Int}{i:Ins}{z:gZ×List Int}(h:kO f m i=some z)(ho:i.op=18):f.q9 i.b<m.length:=by
 unfold kO at h
 rw[if_neg (by omega),if_neg (by omega),if_neg (by omega),if_pos ho] at h
 split at h
 ·assumption
 ·cases h
def Dng.told(d:Dng):Dng:=if d.i.op=18 then d.tell d.b (d.s.mem.getD d.b.toNat 0) 0 true else if d.i.op=19 then d.tell d.a d.b 0 true else d
theorem iS{d:Dng}{t:bA}{z:gZ×List Int}(ht:d.s.aA[d.n]?=some (some t))(h:kO t.lU d.s.mem d.i=some z):d.plain = {d.told with s:={d.told.s.aT d.n (t.mB z.1) with mem:=z.2 } }:=by
 unfold Dng.plain;rw[cP ht,h];rfl
theorem lb{d:Dng}{t:bA}(ht:d.s.aA[d.n]?=some (some t))(h:kO t.lU d.s.mem d.i=none):d.plain=(if d.i.op=18 then d.tell d.b 0 6 true else d.tell d.a d.b 6 true).fin 18446744073709551615:=by
 unfold Dng.plain;rw[cP ht,h]
theorem rp{d:Dng}{h:Int}(e:bo d.s.table h=none):d.other h=(0,3):=by unfold Dng.other;rw[e]
theorem ke{d:Dng}{h:Int}{n:Nat}{t:bA}(e:bo d.s.table h=some n)(ht:d.s.aA[n]?=some (some t))(hn:n=d.n∨t.bB=true):d.other h=(0,3):=by unfold Dng.other;rw[e];simp only;rw[dC ht,if_pos hn]
theorem rq{d:Dng}{h:Int}{n:Nat}{t:bA}(e:bo d.s.table h=some n)(ht:d.s.aA[n]?=some (some t))(hn:¬(n=d.n∨t.bB=true))(hj:t.av = -1):d.other h=(n,0):=by unfold Dng.other;rw[e];simp only;rw[dC ht,if_neg hn,if_pos hj]
theorem mH{d:Dng}{h:Int}{n:Nat}{t:bA}(e:bo d.s.table h=some n)(ht:d.s.aA[n]?=some (some t))(hn:¬(n=d.n∨t.bB=true))(hj:¬t.av = -1):d.other h=(0,4):=by unfold Dng.other;rw[e];simp only;rw[dC ht,if_neg hn,if_neg hj]
section
variable{P:Program}{W:World}{N:Nat}{Q:Exit→Act→World→Prop}{O:Array Oper}{L:List (Nat×Option Value)}{H K:List aa}
theorem bu.HW{ks rest:List Nat}{i:Nat}{E T:TypeId}{x y:Operand}{pos:String}{after:Array Edge}{b o:Nat}{vs cs:List Value}{H':List aa}(ho:O[i]?=some ⟨none,.store E x y,T,pos,after,none⟩)(hk:ks.getD i 1=2)
  (hz:∀ w,(sizeOf E).run P w = .ok vs.length w) (hx:ev L x=some (.pointer (some ⟨b,o,none⟩))) (hy:ev L y=some (.agg vs.toArray)) (hv:vs.all (·.oneCell')=true) [_h0:bQ H b o cs] [hr:cr H b o cs vs H'] (hi:cs.length=vs.length)
  (hK:∀ w,Sat W w (seps H)→Sat W w (seps K)) (hK':∀ w,Sat W w (seps H')→Sat W w (seps K)) (h:bu P W N K O Q ks rest L H'):bu P W N K O Q ks (i::rest) L H :=
 bu.d (X:=Unit) (Lx:=fun _=>L) (Hx:=fun _=>H') ho rfl (.inl hk) (fun _=>hK) (fun E=>(by
  intro a w ha hs Kp hK
  exact ab.storeAll hx hy hz (List.all_eq_true.1 hv) (fE.app E hr.nr) hi a w ha hs Kp (fun L1 H1 ⟨e1,e2⟩=>hK L1 H1 ⟨(),e1,e2⟩))) (fun _ _=>hK') (fun _=>h)
end
end Go.SLYthncobnjdhjnoaaGreat
namespace Go.SLYthncobnjdhjnoaaGreat
open Go Go.RowKit
theorem xj{α:Type}{f:α→aa}{xs:List α}{i:Nat}{x:α}(h:xs[i]?=some x):∀ g,aO f xs g→seps [f x,aO f (xs.eraseIdx i)] g:=fun g a=>by rw[ij f h] at a;exact ja.2 a
theorem uY{v:Value}{l:List Tub}{xs:List (Nat×Tub)}{i:Nat}{x:Nat×Tub}(hx:xs[i]?=some x)(hxs:xs.map (·.2)=l)(u:Tub):∀ h,seps [sl cX 1 v xs,gL x.1 u,aO (fun x:Nat×Tub=>gL x.1 x.2) (xs.eraseIdx i)] h→ns v (l.set i u) h:=fun h a=>by
 refine⟨xs.set i (x.1,u),by show(xs.set i (x.1,u)).map (·.2)=_;rw[List.map_set,hxs],?_⟩
 have hi:=(List.getElem?_eq_some_iff.1 hx).1
 rw[ja,ik _ _ hi]
 exact bn (fun g b=>nC (x':=(x.1,u)) hi rfl g (uP hx g b)) (fun g b=>ja.1 b) h a
theorem bC.aT{ps:List (Option Nat)}{s:Spc}{n m:Nat}{t:bA}(h:bC ps s m)(ht:gk t):bC ps (s.aT n t) m:=by
 obtain⟨hm,q,u,hq,hu,hR⟩:=h
 rcases Decidable.em (n=m) with rfl | hne
 ·exact⟨hm,q,t,hq,cS hu,ht⟩
 ·exact⟨hm,q,u,hq,eW hu hne,hR⟩
theorem bC.of{ps:List (Option Nat)}{s s':Spc}{m:Nat}(h:bC ps s m)(e:s'.aA=s.aA):bC ps s' m:=by
 obtain⟨hm,q,u,hq,hu,hR⟩:=h
 exact⟨hm,q,u,hq,by rw[e];exact hu,hR⟩
theorem nP{l:List Int}{i n:Nat}{x:Int}(hx:0≤x∧x≤18446744073709551615)(h:∀ n,0≤l.getD n 0∧l.getD n 0≤18446744073709551615):0≤(l.set i x).getD n 0∧(l.set i x).getD n 0≤18446744073709551615:=by
 have hn:=h n
 rw[List.getD_eq_getElem?_getD] at hn ⊢
 rw[List.getElem?_set]
 split
 ·split
  ·exact hx
  ·exact⟨Int.le_refl _,by decide⟩
 ·exact hn
theorem gk.put{t:bA}(h:gk t){i x:Int}(hx:0≤x∧x≤18446744073709551615):gk (t.put i x):=⟨by rw[iR];exact h.l,fun n=>nP hx h.r,h.i,h.v,h.h⟩
theorem gk.with{t:bA}(h:gk t){a b c:Int}(hc : -1≤c∧c<8):gk {t with cE:=a,op:=b,bR:=c }:=⟨h.l,h.r,hc,h.v,h.h⟩
def Gates.has(g:Gates)(w:Int):Prop:=(∃ x∈g.cR, ∃ y∈x.wait,y.who=w)∨(∃ r∈g.gp, ∃ y∈r,y.who=w)∨(∃ x∈g.dU, ∃ y∈x.wait,y.who=w)
structure gV(ps:List (Option Nat))(d:Dng)(t:bA):Prop where
 nb:d.n<16
 R:gk t
 lt:d.s.aA.length=16
 lp:ps.length=16
 T:iq d.s.table
 slot:∀ h m,bo d.s.table h=some m→bC ps d.s m
 free:∀ n,slotFree? d.s.table 0=some n→d.s.aA[n]?=some none
 join:¬t.av = -1→0≤t.av∧t.av.toNat≠d.n∧bC ps d.s t.av.toNat
 I:mi d.i
 nn:d.i.n≤1099511627776
 aB:d.s.aB.length≤90000000
 ends:d.ends.length≤500000
 yz:d.out.aw.length≤500000
 mem:d.s.mem.length≤1000000
 gl:gd d.s.ak
 Gh:∀ x∈d.s.ak.dU,0≤x.count∧x.count≤1048576
 Gi:∀ r∈d.s.ak.gp, ∀ w∈r,0≤w.mutex∧w.mutex<(d.s.ak.cR.length:Int)
 hJ:∀ w,d.s.ak.has w→0≤w∧bC ps d.s w.toNat
 Gj:d.s.eE.bm≤(d.s.ak.cR.length:Int)
 zt:(∀ x∈d.s.ak.cR,x.wait.length≤400000)∧ ∀ r∈d.s.ak.gp,r.length≤400000
 JF:(d.i.op=35∨d.i.op=36)→d.i.n<(d.s.bV.length:Int)
 tl:∀ u∈d.s.bV,ri u
 xB:∀ u∈d.s.bV,(∀ w∈u.fZ,0≤w∧bC ps d.s w.toNat)∧(∀ x∈u.gw,0≤x.who∧bC ps d.s x.who.toNat)
 tw:∀ u∈d.s.bV, ∀ w∈u.words,0≤w∧w≤18446744073709551615
 dw:d.s.cu.wait.length≤1000000
 wn:0≤d.s.aM.now∧d.s.aM.now≤1099511627776
theorem rr{ps:List (Option Nat)}{d:Dng}{h:Int}(hs:∀ n,bo d.s.table h=some n→bC ps d.s n)(e:(d.other h).2=0) :
  ∃ m q u,bo d.s.table h=some m∧(d.other h).1=m∧m≠d.n∧m<16∧ps[m]?=some (some q)∧d.s.aA[m]?=some (some u)∧gk u∧u.bB=false∧u.av = -1:=by
 cases hf:bo d.s.table h with
 | none=>rw[rp hf] at e;cases e
 | some m =>
  obtain⟨hm,q,u,hq,hu,hR⟩:=hs m hf
  by_cases h1:m=d.n∨u.bB=true
  ·rw[ke hf hu h1] at e;cases e
  ·by_cases h2:u.av = -1
   ·exact⟨m,q,u,rfl,by rw[rq hf hu h1 h2],fun h=>h1 (.inl h),hm,hq,hu,hR,by cases hd:u.bB with | false=>rfl | true=>exact absurd (.inr hd) h1,h2⟩
   ·rw[mH hf hu h1 h2] at e;cases e
theorem nQ{d:Dng}{h:Int}:0≤(d.other h).2∧(d.other h).2≤11:=by
 unfold Dng.other
 repeat' split
 all_goals (dsimp only;omega)
theorem D7{d:kW}{r:vZ}:0≤(d.ask r).1∧(d.ask r).1≤11:=by
 unfold kW.ask
 repeat' split
 all_goals (dsimp only;omega)
theorem AQ{g:Gates}{w m:Int}:0≤(g.lock w m).2.1∧(g.lock w m).2.1≤11:=by
 unfold Gates.lock
 repeat' split
 all_goals (dsimp only;omega)
theorem oQ{g:Gates}{w m c:Int}:0≤(g.unlock w m c).2.2.1∧(g.unlock w m c).2.2.1≤11:=by
 unfold Gates.unlock
 repeat' split
 all_goals (dsimp only;omega)
theorem AR{g:Gates}{w c m ch:Int}:0≤(g.wait w c m ch).2.2.1∧(g.wait w c m ch).2.2.1≤11:=by
 unfold Gates.wait
 repeat' split
 all_goals (dsimp only;omega)
theorem D8{g:Gates}{s c:Int}:0≤(g.up s c).2.2.1∧(g.up s c).2.2.1≤11:=by
 unfold Gates.up
 repeat' split
 all_goals (dsimp only;omega)
theorem AS{g:Gates}{w s:Int}:0≤(g.down w s).2.1∧(g.down w s).2.1≤11:=by
 unfold Gates.down
 repeat' split
 all_goals (dsimp only;omega)
theorem gA{g:Gates}{c ch:Int}{a:Bool}:0≤(g.signal c ch a).2.1∧(g.signal c ch a).2.1≤11:=by
 unfold Gates.signal
 repeat' split
 all_goals (dsimp only;omega)
theorem oR{l:List eu}{c:Int}(h:(aI l c).2.1=true):(aI l c).1∈l:=by
 by_cases h0:l.length=0
 ·rw[uS h0] at h;cases h
 ·exact(jD h0).1
theorem ru{g:Gates}{w m c:Int}(h:(g.unlock w m c).2.1=true):g.has (g.unlock w m c).1:=by
 unfold Gates.unlock at h ⊢
 split
 ·rename_i e;rw[e] at h;cases h
 ·rename_i x e
  rw[e] at h;simp only at h ⊢
  split
  ·rename_i hi;rw[if_pos hi] at h
   exact .inl ⟨x,List.mem_of_getElem? (dj e).2.2,_,oR h,rfl⟩
  ·rename_i hi;rw[if_neg hi] at h;cases h
theorem xk{g:Gates}{w c m ch:Int}(h:(g.wait w c m ch).2.1=true):g.has (g.wait w c m ch).1:=by
 unfold Gates.wait at h ⊢
 split
 ·rename_i x r e1 e2
  rw[e1,e2] at h;simp only at h ⊢
  repeat' split at h
  all_goals first | (cases h;done) | skip
  rename_i h1 h2
  rw[if_neg h1,if_pos h2]
  exact .inl ⟨x,List.mem_of_getElem? (dj e1).2.2,_,oR h,rfl⟩
 ·rename_i hn
  split at h
  ·rename_i x r e1 e2;exact absurd e2 (hn x r e1)
  ·cases h
theorem D9{g:Gates}{s c:Int}(h:(g.up s c).2.1=true):g.has (g.up s c).1:=by
 unfold Gates.up at h ⊢
 split
 ·rename_i e;rw[e] at h;cases h
 ·rename_i x e
  rw[e] at h;simp only at h ⊢
  split
  ·rename_i hi
   exact .inr (.inr ⟨x,List.mem_of_getElem? (dj e).2.2,_,oR hi,rfl⟩)
  ·rename_i hi;rw[if_neg hi] at h
   split at h <;> cases h
end Go.SLYthncobnjdhjnoaaGreat
namespace Go.SLYthncobnjdhjnoaaGreat
open Go Go.RowKit
theorem bC.pass{ps:List (Option Nat)}{d:Dng}{t:bA}{m:Nat}{x y e:Int}(h:bC ps d.s m)(ht:d.s.aA[d.n]?=some (some t))(hR:gk t)(he:0≤e∧e≤11):bC ps (d.pass x y e).s m:=by
 have:bC ps (d.tell x y e true).s m:=h.of rfl
 have h2:=this.aT (n:=d.n) (hR.put (i:=7) (x:=e) (by omega))
 unfold Dng.pass;rw[cP ht];exact h2
theorem bC.block{ps:List (Option Nat)}{d:Dng}{t:bA}{m:Nat}{w i x y:Int}(h:bC ps d.s m)(ht:d.s.aA[d.n]?=some (some t))(hR:gk t)(hi : -1≤i∧i<8):bC ps (d.block w i x y).s m:=by
 have:bC ps (d.tell x y 0 false).s m:=h.of rfl
 have h2:=this.aT (n:=d.n) (hR.with (a:=w) (b:=d.i.op) hi)
 unfold Dng.block;rw[cP ht];exact h2
theorem HX{c:Int}(h:0≤c∧c<8):yM c=c:=by unfold yM;omega
theorem Ea{u:Tub}{who x:Int}(h:(u.put who x).2.2.1=true):(u.put who x).2.1∈u.fZ:=by
 cases hw:u.waits who with
 | true=>rw[tA hw] at h;cases h
 | false =>
  cases hg:u.fZ with
  | cons w r=>rw[qo hw hg];exact List.mem_cons_self
  | nil =>
   by_cases hr:(u.words.length:Int)<u.room
   ·rw[nK hw hg hr] at h;cases h
   ·rw[nL hw hg hr] at h;cases h
theorem Eb{u:Tub}{who:Int}(h:(u.get who).2.2.2.1=true):∃ x∈u.gw,x.who=(u.get who).2.2.1:=by
 cases hw:u.waits who with
 | true=>rw[oO hw] at h;cases h
 | false =>
  cases hg:u.words with
  | nil=>rw[get_none hw hg] at h;cases h
  | cons w r =>
   cases hp:u.gw with
   | nil=>rw[nM hw hg hp] at h;cases h
   | cons q r2=>rw[nN hw hg hp];exact⟨q,List.mem_cons_self,rfl⟩
theorem Ec{u:Tub}{who:Int}(h:∀ w∈u.words,0≤w∧w≤18446744073709551615):0≤(u.get who).1∧(u.get who).1≤18446744073709551615:=by
 have h0:(0:Int)≤0∧(0:Int)≤18446744073709551615:=by decide
 cases hw:u.waits who with
 | true=>rw[oO hw];exact h0
 | false =>
  cases hg:u.words with
  | nil=>rw[get_none hw hg];exact h0
  | cons w r =>
   have:=h w (by rw[hg];exact List.mem_cons_self)
   cases hp:u.gw with
   | nil=>rw[nM hw hg hp];exact this
   | cons q r2=>rw[nN hw hg hp];exact this
theorem AT{d:Dng}{xs:List (Nat×Tub)}(hxs:xs.map (·.2)=d.s.bV)(h0:0≤d.i.n)(h:d.i.n<(d.s.bV.length:Int)):∃ q,xs[d.i.n.toNat]?=some (q,d.bM)∧d.bM∈d.s.bV:=by
 have hl:xs.length=d.s.bV.length:=by rw[← hxs,List.length_map]
 obtain⟨⟨q,u⟩,hx⟩:=al (show d.i.n.toNat<xs.length by omega)
 have hu:=ff hxs hx
 have:d.bM=u:=by unfold Dng.bM;rw[List.getD_eq_getElem?_getD,hu];rfl
 exact⟨q,by rw[this];exact hx,by rw[this];exact List.mem_of_getElem? hu⟩
theorem tB{s:Spc}{f arg:Int}{n:Nat}(h:slotFree? s.table 0=some n)(hl:n<s.aA.length):∃ t,(s.begin f arg).2.2.aA[n]?=some (some t)∧t=qb f arg (dM ((s.table.getD n (false,0)).2+1) n):=by
 rw[eA h]
 exact⟨_,List.getElem?_set_self hl,rfl⟩
end Go.SLYthncobnjdhjnoaaGreat
namespace Go.SLYthncobnjdhjnoaaGreat
open Go Go.RowKit
theorem zg(s:Spc)(a b:List Int):cv s (a++b)=cv (cv s a) b:=by
 induction a generalizing s with
 | nil=>rfl
 | cons x l ih=>exact ih _
theorem uZ(s:Spc)(a:List Int):(cv s a).ak=s.ak:=by
 induction a generalizing s with
 | nil=>rfl
 | cons x l ih=>exact(ih _).trans rfl
theorem rv{ps:List (Option Nat)}{s:Spc}(m:Nat)(a:List Int)(h:bC ps s m):bC ps (cv s a) m:=by
 induction a generalizing s with
 | nil=>exact h
 | cons x l ih =>
  refine ih ?_
  by_cases hx:∃ t,s.aA[x.toNat]?=some (some t)
  ·obtain⟨t,ht⟩:=hx
   rw[show s.t x.toNat=t from dC ht]
   obtain⟨hm,q,u,hq,hu,hR⟩:=h
   rcases Decidable.em (x.toNat=m) with e | hne
   ·subst e
    rw[ht] at hu;cases hu
    exact⟨hm,q,_,hq,cS ht,⟨hR.l,hR.r,hR.i,hR.v,hR.h⟩⟩
   ·exact⟨hm,q,u,hq,eW hu hne,hR⟩
  ·obtain⟨hm,q,u,hq,hu,hR⟩:=h
   exact⟨hm,q,u,hq,eW hu (fun e=>hx ⟨u,by rw[e];exact hu⟩),hR⟩
theorem gk.fL{t:bA}(h:gk t){y:Int}(hy:0≤y∧y≤18446744073709551615):gk (t.fL y):=by
 have h1:gk (if t.bR = -1 then t else t.put t.bR y):=by split;exact h;exact h.put hy
 have h2:=h1.put (i:=7) (x:=0) (by decide)
 exact⟨h2.l,h2.r,by show(-1:Int)≤ -1∧(-1:Int)<8;decide,h2.v,h2.h⟩
theorem u3(d:Dng)(a:List Int)(n:Int):d.dc (a++[n])=(d.dc a).cB n.toNat 0:=by
 induction a generalizing d with
 | nil=>rfl
 | cons x l ih=>exact ih _
theorem pO(d:Dng)(a:List Int):(d.dc a).ends.length=d.ends.length+a.length∧(d.dc a).out.aw.length=d.out.aw.length+a.length:=by
 induction a generalizing d with
 | nil=>exact⟨rfl,rfl⟩
 | cons x l ih =>
  have:=ih (d.cB x.toNat 0)
  simp only[Dng.cB,List.length_append,List.length_cons,List.length_nil] at this
  show(Dng.dc (d.cB x.toNat 0) l).ends.length=_∧(Dng.dc (d.cB x.toNat 0) l).out.aw.length=_
  rw[List.length_cons]
  exact⟨by have:=this.1;simp only[Dng.cB] at this ⊢;omega,by have:=this.2;simp only[Dng.cB] at this ⊢;omega⟩
theorem tC{ps:List (Option Nat)}{d:Dng}{m n:Nat}(h:bC ps d.s m)(hn:bC ps d.s n):bC ps (d.cB n 0).s m:=by
 obtain⟨hn16,q,u,hq,hu,hR⟩:=hn
 have:=h.aT (n:=n) (hR.fL (y:=0) (by decide))
 unfold Dng.cB Spc.dx
 simp only
 rw[dC hu];exact this
theorem u7{ps:List (Option Nat)}(m:Nat)(a:List Int):∀ (d:Dng),bC ps d.s m→(∀ w∈a,bC ps d.s w.toNat)→bC ps (d.dc a).s m:=by
 induction a with
 | nil=>intro d h _;exact h
 | cons x l ih =>
  intro d h ha
  have hx:=ha x List.mem_cons_self
  exact ih _ (tC h hx) (fun w hw=>tC (ha w (List.mem_cons_of_mem _ hw)) hx)
def ed(d:Dng)(k:Nat):List Int:=(d.s.ak.cR.take k).flatMap fun m=>m.wait.map (·.who)
theorem vd{d:Dng}{k:Nat}{x:ei}(h:d.s.ak.cR[k]?=some x):ed d (k+1)=ed d k++x.wait.map (·.who):=by
 unfold ed
 rw[bj h,List.flatMap_append];simp
theorem AU:∀ (n:Nat) (c:Int) (r:List eu) (ms:List ei) (out:List Int),n≤r.length→ ∀ w∈(sigLoop n c r ms out).2.2,w∈out∨ ∃ y∈r,y.who=w
 | 0,_,_,_,_,_,_,h=>.inl h
 | n+1,c,r,ms,out,hn,w,h=>by
  unfold sigLoop at h
  simp only at h
  obtain⟨h1,h2,h3⟩:=jD (l:=r) (c:=c) (by omega)
  rcases AU n c _ _ _ (by omega) w h with h | ⟨y,hy,e⟩
  ·split at h
   ·rcases List.mem_append.1 h with h | h
    ·exact .inl h
    ·rw[List.mem_singleton] at h;exact .inr ⟨_,h1,h.symm⟩
   ·exact .inl h
  ·exact .inr ⟨y,h3 y hy,e⟩
theorem AV:∀ (n:Nat) (c:Int) (r:List eu) (ms:List ei) (out:List Int),(sigLoop n c r ms out).2.2.length≤out.length+n
 | 0,_,_,_,_=>by simp[sigLoop]
 | n+1,c,r,ms,out=>by
  unfold sigLoop
  simp only
  refine Nat.le_trans (AV n c _ _ _) ?_
  split
  ·rw[List.length_append];simp;omega
  ·omega
theorem kh{g:Gates}{c ch:Int}{all:Bool}:∀ w∈(g.signal c ch all).1,g.has w:=fun w h=>by
 unfold Gates.signal at h
 split at h
 ·cases h
 ·rename_i r e
  rcases AU _ _ _ _ _ (by split <;> omega) w h with h | ⟨y,hy,e2⟩
  ·cases h
  ·exact .inr (.inl ⟨r,List.mem_of_getElem? (dj e).2.2,y,hy,e2⟩)
theorem mI{g:Gates}{c ch:Int}{all:Bool}(hg:∀ r∈g.gp,r.length≤400000):(g.signal c ch all).1.length≤400000:=by
 unfold Gates.signal
 split
 ·simp
 ·rename_i r e
  have:=hg r (List.mem_of_getElem? (dj e).2.2)
  refine Nat.le_trans (AV _ _ _ _ _) ?_
  simp only[List.length_nil]
  split <;> omega
theorem nR:∀ (n:Nat) (c:Int) (r:List eu) (ms:List ei) (out:List Int),(sigLoop n c r ms out).2.1.length=ms.length
 | 0,_,_,_,_=>rfl
 | n+1,c,r,ms,out=>by unfold sigLoop;simp only;rw[nR n,List.length_set]
theorem iT{g:Gates}{c ch:Int}{all:Bool}:(g.signal c ch all).2.2.cR.length=g.cR.length:=by
 unfold Gates.signal
 split
 ·rfl
 ·exact nR _ _ _ _ _
theorem tD:∀ (n:Nat) (c:Int) (r:List eu) (ms:List ei) (out:List Int) (N:Nat),n≤r.length→(∀ x∈ms,x.wait.length≤N)→ ∀ x∈(sigLoop n c r ms out).2.1,x.wait.length≤N+n∧ ∀ y∈x.wait,(∃ x'∈ms,y∈x'.wait)∨ ∃ z∈r,z.who=y.who
 | 0,_,_,_,_,_,_,hN,x,h=>⟨hN x h,fun y hy=>.inl ⟨x,h,hy⟩⟩
 | n+1,c,r,ms,out,N,hn,hN,x,h=>by
  unfold sigLoop at h
  simp only at h
  obtain⟨h1,h2,h3⟩:=jD (l:=r) (c:=c) (by omega)
  have hl:∀ x∈ms.set (aI r c).1.mutex.toNat ((ms.getD (aI r c).1.mutex.toNat ⟨[],false,0⟩).lock (aI r c).1.who).2,x.wait.length≤N+1∧ ∀ y∈x.wait,(∃ x'∈ms,y∈x'.wait)∨y.who=(aI r c).1.who:=by
   intro x hx
   rcases List.mem_or_eq_of_mem_set hx with hx | rfl
   ·exact⟨by have:=hN x hx;omega,fun y hy=>.inl ⟨x,hx,hy⟩⟩
   ·have hg:∀ (z:ei),(z∈ms∨z=⟨[],false,0⟩)→(z.lock (aI r c).1.who).2.wait.length≤N+1∧ ∀ y∈(z.lock (aI r c).1.who).2.wait,(∃ x'∈ms,y∈x'.wait)∨y.who=(aI r c).1.who:=by
     intro z hz
     have hzl:z.wait.length≤N:=by
      rcases hz with hz | rfl
      ·exact hN z hz
      ·exact Nat.zero_le _
     unfold ei.lock
     split
     ·refine⟨by rw[List.length_append];simp;omega,fun y hy=>?_⟩
      rcases List.mem_append.1 hy with hy | hy
      ·rcases hz with hz | rfl
       ·exact .inl ⟨z,hz,hy⟩
       ·cases hy
      ·rw[List.mem_singleton] at hy;exact .inr (by rw[hy])
     ·refine⟨by show z.wait.length≤_;omega,fun y hy=>?_⟩
      rcases hz with hz | rfl
      ·exact .inl ⟨z,hz,hy⟩
      ·cases hy
    refine hg _ ?_
    rw[List.getD_eq_getElem?_getD]
    cases e:ms[(aI r c).1.mutex.toNat]? with
    | none=>exact .inr rfl
    | some z=>exact .inl (List.mem_of_getElem? e)
  obtain⟨g1,g2⟩:=tD n c _ _ _ (N+1) (by omega) (fun x hx=>(hl x hx).1) x h
  refine⟨by omega,fun y hy=>?_⟩
  rcases g2 y hy with ⟨x',hx',hy'⟩ | ⟨z,hz,e⟩
  ·rcases(hl x' hx').2 y hy' with hh | hh
   ·exact .inl hh
   ·exact .inr ⟨_,h1,hh.symm⟩
  ·exact .inr ⟨z,h3 z hz,e⟩
theorem kk{g:Gates}{c ch:Int}{all:Bool}(h1:∀ x∈g.cR,x.wait.length≤400000)(h2:∀ r∈g.gp,r.length≤400000):∀ x∈(g.signal c ch all).2.2.cR,x.wait.length≤1000000∧ ∀ y∈x.wait,g.has y.who:=by
 intro x hx
 unfold Gates.signal at hx
 split at hx
 ·exact⟨Nat.le_trans (h1 x hx) (by decide),fun y hy=>.inl ⟨x,hx,y,hy,rfl⟩⟩
 ·rename_i r e
  have hr:=List.mem_of_getElem? (dj e).2.2
  have hrl:=h2 r hr
  obtain⟨a,b⟩:=tD _ _ _ _ _ 400000 (by split <;> omega) h1 x hx
  have hif:(if all=true then r.length else min r.length 1)≤r.length:=by split <;> omega
  refine⟨by omega,fun y hy=>?_⟩
  rcases b y hy with ⟨x',hx',hy'⟩ | ⟨z,hz,e2⟩
  ·exact .inl ⟨x',hx',y,hy',rfl⟩
  ·exact .inr (.inl ⟨r,hr,z,hz,e2⟩)
end Go.SLYthncobnjdhjnoaaGreat
namespace Go.SLYthncobnjdhjnoaaGreat
open Go Go.RowKit
structure hD(s:Spc):Prop where
 lt:s.aA.length=16
 T:iq s.table
 R:∀ (n:Nat) (t:bA),s.aA[n]?=some (some t)→gk t∧0≤t.pc∧t.pc≤257
 slot:∀ (h:Int) (m:Nat),bo s.table h=some m→ ∃ t,s.aA[m]?=some (some t)
 free:∀ n:Nat,slotFree? s.table 0=some n→s.aA[n]?=some none
 join:∀ (n:Nat) (t:bA),s.aA[n]?=some (some t)→t.cE=0→¬t.av = -1→0≤t.av∧t.av.toNat≠n∧ ∃ u,s.aA[t.av.toNat]?=some (some u)
 aB:s.aB.length≤80000000
 mem:s.mem.length≤1000000
 gl:gd s.ak
 Gh:∀ x∈s.ak.dU,0≤x.count∧x.count≤1048576
 Gi:∀ r∈s.ak.gp, ∀ w∈r,0≤w.mutex∧w.mutex<(s.ak.cR.length:Int)
 hJ:∀ w,s.ak.has w→0≤w∧ ∃ u,s.aA[w.toNat]?=some (some u)
 Gj:s.eE.bm≤(s.ak.cR.length:Int)
 zt:(∀ x∈s.ak.cR,x.wait.length≤400000)∧ ∀ r∈s.ak.gp,r.length≤400000
 code:∀ f∈s.eE.funcs, ∀ i∈f,mi i∧(cls i.op≠1→i.n≤1099511627776)∧(i.op=35∨i.op=36→i.n<(s.bV.length:Int))
 xC:s.eE.funcs.length≤1000000∧ ∀ f∈s.eE.funcs,f.length≤256
 tl:∀ u∈s.bV,ri u
 xB:∀ u∈s.bV,(∀ w∈u.fZ,0≤w∧ ∃ v,s.aA[w.toNat]?=some (some v))∧(∀ x∈u.gw,0≤x.who∧ ∃ v,s.aA[x.who.toNat]?=some (some v))
 tw:∀ u∈s.bV, ∀ w∈u.words,0≤w∧w≤18446744073709551615
 dw:s.cu.wait.length≤1000000
 db:∀ r∈s.cu.wait,0≤r.block∧r.block<(s.cu.blocks.length:Int)
 Kv:∀ r∈s.cu.wait,0≤r.who∧ ∃ v,s.aA[r.who.toNat]?=some (some v)
 wn:0≤s.aM.now∧s.aM.now≤1099511627776
 wl:s.aM.gx.length≤1000000
 I8:∀ x∈s.aM.gx,0≤x.1∧ ∃ v,s.aA[x.1.toNat]?=some (some v)
theorem hD.live{s:Spc}(h:hD s){ps:List (Option Nat)}(hs:uI ps s.aA){m:Nat}{t:bA}(e:s.aA[m]?=some (some t)):bC ps s m:=by
 obtain⟨q,hq⟩:=hs.2.1 m t e
 exact⟨h.lt ▸ (List.getElem?_eq_some_iff.1 e).1,q,t,hq,e,(h.R m t e).1⟩
theorem gk.lU{t:bA}(h:gk t)(hp:0≤t.pc∧t.pc≤257):AI t.lU:=⟨h.l,by show 0≤t.pc∧t.pc≤_;omega,h.r⟩
theorem hD.call{s:Spc}(h:hD s){ps:List (Option Nat)}(hs:uI ps s.aA){k:Nat}{t:bA}{i:Ins}{choice:Int}(ht:s.aA[k]?=some (some t))(hw:t.cE=0)(hI:mi i)(hn:i.n≤1099511627776)(htub:i.op=35∨i.op=36→i.n<(s.bV.length:Int)) :
  gV ps ((s.dp k i choice).aT {t with pc:=t.pc+1 }) {t with pc:=t.pc+1 }:=by
 have hk16:k<16:=h.lt ▸ (List.getElem?_eq_some_iff.1 ht).1
 have hR:=(h.R k t ht).1
 have hR2:gk {t with pc:=t.pc+1 }:=⟨hR.l,hR.r,hR.i,hR.v,hR.h⟩
 have lv:∀ {m:Nat} {u:bA},s.aA[m]?=some (some u)→bC ps (s.aT k {t with pc:=t.pc+1 }) m:=fun e=>(h.live hs e).aT hR2
 refine⟨hk16,hR2,?_,hs.1.trans h.lt,h.T,fun x m e=>?_,fun n e=>?_,fun hj=>?_,hI,hn,Nat.le_trans h.aB (by decide),Nat.zero_le _,Nat.zero_le _,h.mem,h.gl,h.Gh,h.Gi,fun w hw=>?_,h.Gj,h.zt,htub,h.tl,fun u hu=>⟨fun w hw=>?_,fun x hx=>?_⟩,h.tw,h.dw,h.wn⟩
 ·show(s.aA.set k _).length=16
  rw[List.length_set];exact h.lt
 ·obtain⟨u,hu⟩:=h.slot x m e;exact lv hu
 ·have:=h.free n e
  show(s.aA.set k _)[n]?=_
  rw[List.getElem?_set_ne (fun e=>by rw[e,this] at ht;cases ht)];exact this
 ·obtain⟨a,b,u,hu⟩:=h.join k t ht hw hj
  exact⟨a,b,lv hu⟩
 ·obtain⟨a,u,hu⟩:=h.hJ w hw;exact⟨a,lv hu⟩
 ·obtain⟨a,u,hu⟩:=(h.xB u hu).1 w hw;exact⟨a,lv hu⟩
 ·obtain⟨a,u,hu⟩:=(h.xB u hu).2 x hx;exact⟨a,lv hu⟩
theorem hD.G6{s:Spc}(h:hD s){ps:List (Option Nat)}(hs:uI ps s.aA){k:Nat}{t:bA}(ht:s.aA[k]?=some (some t))(hw:t.cE=0):¬t.av = -1→0≤t.av∧t.av.toNat≠k∧bC ps s t.av.toNat:=fun hj=>by
 obtain⟨a,b,u,hu⟩:=h.join k t ht hw hj
 exact⟨a,b,h.live hs hu⟩
theorem tE{s:Spc}(h:hD s){f:gZ}{i:Ins}(e:dB s.eE f=some i):mi i∧(cls i.op≠1→i.n≤1099511627776)∧(i.op=35∨i.op=36→i.n<(s.bV.length:Int)):=by
 unfold dB at e
 split at e
 ·cases e
 ·have hi:=List.mem_of_getElem? e
  cases hf:s.eE.funcs[f.fn.toNat]? with
  | none=>rw[List.getD_eq_getElem?_getD,hf] at hi;cases hi
  | some g=>rw[List.getD_eq_getElem?_getD,hf] at hi;exact h.code g (List.mem_of_getElem? hf) i hi
theorem G7{s:Spc}{ps:List (Option Nat)}(hs:uI ps s.aA){n:Int}(h:zf ps n=none)(hl:s.aA.length=16):s.at n=none:=by
 unfold zf at h
 unfold Spc.at aV
 split
 ·rfl
 ·rename_i h0
  by_cases hn:n<16
  ·rw[if_pos ⟨by omega,hn⟩] at h
   obtain⟨x,hx⟩:=al (show n.toNat<s.aA.length by omega)
   rw[hx]
   cases x with
   | none=>rfl
   | some t=>obtain⟨q,hq⟩:=hs.2.1 _ t hx;rw[bx hq] at h;cases h
  ·rw[List.getElem?_eq_none (by omega)];rfl
theorem Ed{s:Spc}{ps:List (Option Nat)}(hs:uI ps s.aA){n:Int}{p:Nat}(h:zf ps n=some p)(hl:s.aA.length=16):∃ k:Nat, ∃ t,n=(k:Int)∧k<16∧ps[k]?=some (some p)∧s.aA[k]?=some (some t)∧s.at n=some t:=by
 unfold zf at h
 split at h
 ·rename_i h0
  have hp:ps[n.toNat]?=some (some p):=by
   rw[List.getD_eq_getElem?_getD] at h
   cases e:ps[n.toNat]? with
   | none=>rw[e] at h;cases h
   | some x=>rw[e] at h;simp only[Option.getD_some] at h;rw[h]
  obtain⟨x,hx⟩:=al (show n.toNat<s.aA.length by omega)
  cases x with
  | none=>have:=hs.2.2 _ hx;rw[hp] at this;cases this
  | some t=>exact⟨n.toNat,t,by omega,by omega,hp,hx,by unfold Spc.at aV;rw[if_neg (by omega),hx];rfl⟩
 ·cases h
section
variable{P:Program}{W:World}
theorem Fn.JX{f:FuncId}{args:List Value}{X X1:Type}{val:X→Value}{fact:X→Prop}{p:X1→Prop}{A:X1→List aa}(h:∀ x,p x→Fn P W f args [seps (A x)] X val fact (fun _=>[seps (A x)])):Fn P W f args [hU p A] X val fact (fun _=>[hU p A]):=fun F w hs=>by
 have h1:Sat W w (sep (ex fun x:{x // p x }=>seps (A x.1)) F):=hs.mono (bn (fun g b=>by
  obtain⟨x,hx,b⟩:hU p A g:=by simpa only[seps,aH] using b
  exact⟨⟨x,hx⟩,b⟩) (fun g b=>b))
 obtain⟨x,h2⟩:=h1.exists
 refine(h x.1 x.2 F w (by simpa only[seps,aH] using h2)).mono ?_
 rintro e w' ⟨y,e1,e2,s⟩
 exact⟨y,e1,e2,s.mono (bn (fun g b=>by
  have b':seps (A x.1) g:=by simpa only[seps,aH] using b
  show seps [hU p A] g
  simp only[seps,aH]
  exact⟨x.1,x.2,b'⟩) (fun g b=>b))⟩
end
theorem xl{s:Spc}{n c:Int}(h:s.at n=none):s.run n c=(mh.z,1,s):=by unfold Spc.run;rw[h]
theorem xn{s:Spc}{n c:Int}{t:bA}(h:s.at n=some t)(hw:t.cE≠0):s.run n c=(mh.z,4,s):=by unfold Spc.run;rw[h];simp only;rw[if_pos hw]
theorem AW{s:Spc}{k:Nat}{c:Int}{t:bA}(h:s.at (k:Int)=some t)(hw:¬t.cE≠0)(hn:dB s.eE t.lU=none){z:Dng}(hz:z=((s.dp k ⟨23,0,0,0,0⟩ c).tell 0 0 0 true).fin 0):s.run (k:Int) c=(z.finish.1,0,z.finish.2):=by
 unfold Spc.run;rw[h];simp only;rw[if_neg hw,hn];subst hz;rfl
theorem tF{s:Spc}{k:Nat}{c:Int}{t:bA}{i:Ins}(h:s.at (k:Int)=some t)(hw:¬t.cE≠0)(hn:dB s.eE t.lU=some i)(hc:cls i.op=1){z:Dng}(hz:z=(s.dp k i c).plain):s.run (k:Int) c=(z.finish.1,0,z.finish.2):=by
 unfold Spc.run;rw[h];simp only;rw[if_neg hw,hn];simp only;rw[if_pos hc];subst hz;rfl
theorem xo{s:Spc}{k:Nat}{c:Int}{t:bA}{i:Ins}(h:s.at (k:Int)=some t)(hw:¬t.cE≠0)(hn:dB s.eE t.lU=some i)(hc:¬cls i.op=1){z:Dng}(hz:z=((s.dp k i c).aT {t with pc:=t.pc+1 }).call):s.run (k:Int) c=(z.finish.1,0,z.finish.2):=by
 unfold Spc.run;rw[h];simp only;rw[if_neg hw,hn];simp only;rw[if_neg hc];subst hz;rfl
theorem HY(t:bA)(x:Int):(bb t).set 1 (.int .i64 x)=bb {t with pc:=x }:=rfl
def xp(fv sv pv:Value)(p:gD):List Value:=[fv,.int .i64 p.words,.int .i64 p.bm,.int .i64 p.conds,sv,pv,.int .i64 p.blocks,.int .i64 p.prio]
end Go.SLYthncobnjdhjnoaaGreat
namespace Go.SLYthncobnjdhjnoaaGreat
open Go Go.RowKit
def dZ(d e:Dng)(a n:Nat):Prop:=e.s.aB.length≤d.s.aB.length+a∧e.ends.length≤d.ends.length+n
theorem dZ.refl{d:Dng}:dZ d d 0 0:=⟨Nat.le_refl _,Nat.le_refl _⟩
theorem dZ.up{d e:Dng}{a n a' n':Nat}(h:dZ d e a n)(ha:a≤a')(hn:n≤n'):dZ d e a' n':=⟨Nat.le_trans h.1 (by omega),Nat.le_trans h.2 (by omega)⟩
theorem dZ.trans{d e f:Dng}{a n a' n':Nat}(h:dZ d e a n)(k:dZ e f a' n'):dZ d f (a+a') (n+n'):=⟨by have:=h.1;have:=k.1;omega,by have:=h.2;have:=k.2;omega⟩
theorem dZ.same{d e:Dng}(h1:e.s.aB=d.s.aB)(h2:e.ends=d.ends):dZ d e 0 0:=⟨by rw[h1];exact Nat.le_refl _,by rw[h2];exact Nat.le_refl _⟩
theorem fN{d:Dng}{x y e:Int}{f:Bool}:dZ d (d.tell x y e f) 1 0:=⟨by simp[Dng.tell,Spc.tell],Nat.le_refl _⟩
theorem bP{d:Dng}{x y e:Int}:dZ d (d.pass x y e) 1 0:=⟨by simp[Dng.pass,Dng.aT,Spc.aT,Dng.tell,Spc.tell],Nat.le_refl _⟩
theorem eX{d:Dng}{w i x y:Int}:dZ d (d.block w i x y) 1 0:=⟨by simp[Dng.block,Dng.aT,Spc.aT,Dng.tell,Spc.tell],Nat.le_refl _⟩
theorem lW{d:Dng}{n:Nat}{y:Int}:dZ d (d.cB n y) 0 1:=⟨by simp[Dng.cB,Spc.dx,Spc.aT],by simp[Dng.cB]⟩
theorem jE{d:Dng}{v:Int}:dZ d (d.fin v) 0 1:=by
 unfold Dng.fin
 split
 ·exact(dZ.same rfl rfl).up (Nat.le_refl _) (by decide)
 ·split
  ·exact(dZ.same rfl rfl).up (Nat.le_refl _) (by decide)
  ·exact(dZ.same (d:=d) (e:=d.ended) rfl rfl).trans (lW.trans (dZ.same rfl rfl))
theorem mJ{d:Dng}:dZ d d.plain 1 1:=by
 unfold Dng.plain
 split
 ·have:∀ e:Dng,dZ d e 1 0→ ∀ s:Spc,s.aB=e.s.aB→dZ d {e with s:=s } 1 1:=fun e h s hs=>⟨by show s.aB.length≤_;rw[hs];exact h.1,Nat.le_trans h.2 (by omega)⟩
  simp only
  refine this _ ?_ _ rfl
  split
  ·exact fN
  ·split
   ·exact fN
   ·exact dZ.refl.up (by decide) (by decide)
 ·split
  ·exact fN.trans jE
  ·exact fN.trans jE
theorem mK{d:Dng}{n:Int}{ok:Bool}:dZ d (d.given n ok) 0 1:=by
 unfold Dng.given
 split
 ·exact lW
 ·exact dZ.refl.up (by decide) (by decide)
theorem cj{d e f:Dng}{a n:Nat}(h:dZ e f a n)(h1:e.s.aB=d.s.aB)(h2:e.ends=d.ends):dZ d f a n:=⟨by rw[← h1];exact h.1,by rw[← h2];exact h.2⟩
theorem iC{s:Spc}{f a:Int}:(s.begin f a).2.2.aB=s.aB:=by
 unfold Spc.begin
 split <;> rfl
theorem zh{d:Dng}:dZ d d.spawn 1 1:=by
 unfold Dng.spawn
 refine dZ.up (a:=1) (n:=0) ?_ (Nat.le_refl _) (by decide)
 exact cj bP (iC (s:=d.s) (f:=d.i.n) (a:=d.b)) rfl
theorem B2{d:Dng}:dZ d d.join 1 1:=by
 unfold Dng.join
 simp only
 repeat' split
 ·exact bP.up (Nat.le_refl _) (by decide)
 ·exact(cj bP rfl rfl).up (Nat.le_refl _) (by decide)
 ·exact(cj eX rfl rfl).up (Nat.le_refl _) (by decide)
theorem xr{d:Dng}:dZ d d.fq 1 1:=by
 unfold Dng.fq
 simp only
 repeat' split
 ·exact bP.up (Nat.le_refl _) (by decide)
 ·exact(cj bP rfl rfl).up (Nat.le_refl _) (by decide)
 ·exact(cj bP rfl rfl).up (Nat.le_refl _) (by decide)
theorem zi{d:Dng}:dZ d d.mutex 1 1:=by
 unfold Dng.mutex
 simp only
 repeat' split
 ·exact(cj eX rfl rfl).up (Nat.le_refl _) (by decide)
 ·exact(cj bP rfl rfl).up (Nat.le_refl _) (by decide)
 ·exact cj (bP.trans mK) rfl rfl
 ·exact(cj bP rfl rfl).up (Nat.le_refl _) (by decide)
 ·exact cj (eX.trans mK) rfl rfl
theorem Ee{d:Dng}:dZ d d.dU 1 1:=by
 unfold Dng.dU
 simp only
 repeat' split
 ·exact cj (bP.trans mK) rfl rfl
 ·exact(cj eX rfl rfl).up (Nat.le_refl _) (by decide)
 ·exact(cj bP rfl rfl).up (Nat.le_refl _) (by decide)
theorem xt{d:Dng}{b y i:Int}:dZ d (d.ask b y i) 1 1:=by
 unfold Dng.ask
 simp only
 repeat' split
 ·exact(cj bP rfl rfl).up (Nat.le_refl _) (by decide)
 ·exact(cj eX rfl rfl).up (Nat.le_refl _) (by decide)
 ·exact bP.up (Nat.le_refl _) (by decide)
theorem Ef{d:Dng}:dZ d d.put 1 1:=by
 unfold Dng.put
 simp only
 repeat' split
 ·exact(cj eX rfl rfl).up (Nat.le_refl _) (by decide)
 ·exact cj (bP.trans lW) rfl rfl
 ·exact(cj bP rfl rfl).up (Nat.le_refl _) (by decide)
theorem Eg{d:Dng}:dZ d d.get 1 1:=by
 unfold Dng.get
 simp only
 repeat' split
 ·exact(cj eX rfl rfl).up (Nat.le_refl _) (by decide)
 ·exact cj (bP.trans lW) rfl rfl
 ·exact(cj bP rfl rfl).up (Nat.le_refl _) (by decide)
theorem zj{d:Dng}:dZ d d.sleep 1 1:=by
 unfold Dng.sleep
 simp only
 repeat' split
 ·exact bP.up (Nat.le_refl _) (by decide)
 ·exact bP.up (Nat.le_refl _) (by decide)
 ·exact(cj eX rfl rfl).up (Nat.le_refl _) (by decide)
theorem xu{d:Dng}:dZ d d.kernel 1 1:=by
 unfold Dng.kernel
 repeat' split
 ·exact xt
 ·exact xt
 ·exact Ef
 ·exact Eg
 ·exact zj
 ·exact bP.up (Nat.le_refl _) (by decide)
theorem xv(s:Spc)(a:List Int):(cv s a).aB=s.aB:=by
 induction a generalizing s with
 | nil=>rfl
 | cons x l ih=>exact(ih _).trans rfl
theorem vf(d:Dng)(a:List Int):(d.dc a).s.aB=d.s.aB:=by
 induction a generalizing d with
 | nil=>rfl
 | cons x l ih=>exact(ih _).trans rfl
theorem zk{d:Dng}{l:List Int}:dZ d (d.kG l) 0 l.length:=by
 unfold Dng.kG
 refine⟨?_,?_⟩
 ·rw[vf];show(cv d.s d.waits).aB.length≤_;rw[xv];exact Nat.le_refl _
 ·rw[(pO _ _).1];exact Nat.le_refl _
theorem oS{d:Dng}(h:∀ r∈d.s.ak.gp,r.length≤400000):dZ d d.call 1 400001:=by
 unfold Dng.call
 simp only
 repeat' split
 ·exact zh.up (Nat.le_refl _) (by decide)
 ·exact(cj bP rfl rfl).up (Nat.le_refl _) (by decide)
 ·exact(bP (d:=d)).up (Nat.le_refl _) (by decide)
 ·exact B2.up (Nat.le_refl _) (by decide)
 ·exact xr.up (Nat.le_refl _) (by decide)
 ·exact(fN.trans jE).up (Nat.le_refl _) (by decide)
 ·exact zi.up (Nat.le_refl _) (by decide)
 ·exact(cj (bP.trans zk) rfl rfl).up (Nat.le_refl _) (by have:=mI (c:=d.i.n) (ch:=d.choice) (all:=decide (d.i.op=29)) h;omega)
 ·exact Ee.up (Nat.le_refl _) (by decide)
 ·exact xu.up (Nat.le_refl _) (by decide)
end Go.SLYthncobnjdhjnoaaGreat
namespace Go.SLYthncobnjdhjnoaaGreat
open Go Go.RowKit
section
variable{P:Program}
end
def KK(t:bA):List Value:=[.int .u64 t.handle,.int .i64 t.cE,.int .i64 t.fn,.int .i64 t.pc,.int .u64 (t.aD.getD 0 0),.int .u64 (t.aD.getD 1 0),.int .u64 (t.aD.getD 2 0),.int .u64 (t.aD.getD 3 0),.int .u64 (t.aD.getD 4 0),.int .u64 (t.aD.getD 5 0),.int .u64 (t.aD.getD 6 0),.int .u64 (t.aD.getD 7 0),.int .u64 t.value]
def KL:bA:=⟨0,0,[],0,0,0,false,0,0,0⟩
theorem zl{s:Spc}{n:Int}(h:s.at n=none):s.class n=0:=by unfold Spc.class;rw[h]
theorem zm{s:Spc}{n:Int}{t:bA}(h:s.at n=some t)(hw:t.cE≠0):s.class n=0:=by unfold Spc.class;rw[h];simp only;rw[if_pos hw]
theorem B3{s:Spc}{n:Int}{t:bA}(h:s.at n=some t)(hw:¬t.cE≠0)(hn:dB s.eE t.lU=none):s.class n=2:=by unfold Spc.class;rw[h];simp only;rw[if_neg hw,hn]
theorem zn{s:Spc}{n:Int}{t:bA}{i:Ins}(h:s.at n=some t)(hw:¬t.cE≠0)(hn:dB s.eE t.lU=some i):s.class n=cls i.op:=by unfold Spc.class;rw[h];simp only;rw[if_neg hw,hn]
theorem xw{s:Spc}{k:Int}(h:(s.cu.done k).2.2.1=false):s.done k=(mh.z,3,s):=by unfold Spc.done;simp only;rw[if_pos h]
theorem xx{s:Spc}{k:Int}{t:bA}(h:(s.cu.done k).2.2.1=true)(ht:s.aA[(s.cu.done k).1.who.toNat]?=some (some t)) :
  s.done k=(⟨[(s.cu.done k).1.who],false,false,false⟩,0,(({s with cu:=(s.cu.done k).2.2.2 }:Spc).dx (s.cu.done k).1.who.toNat (s.cu.done k).2.1).tell (t.jA (s.cu.done k).2.1)):=by
 unfold Spc.done;simp only;rw[if_neg (by rw[h];simp),show({s with cu:=(s.cu.done k).2.2.2 }:Spc).t (s.cu.done k).1.who.toNat=t from dC ht]
theorem vh(s:Spc)(a:List Int)(n:Int):ct s (a++[n])=((ct s a).dx n.toNat 0).tell (((ct s a).t n.toNat).jA 0):=by
 induction a generalizing s with
 | nil=>rfl
 | cons x l ih=>exact ih _
theorem vi{ps:List (Option Nat)}(m:Nat)(a:List Int):∀ (s:Spc),bC ps s m→(∀ w∈a,bC ps s w.toNat)→bC ps (ct s a) m:=by
 induction a with
 | nil=>intro d h _;exact h
 | cons x l ih =>
  intro s h ha
  obtain⟨hn16,q,u,hq,hu,hR⟩:=ha x List.mem_cons_self
  have key:∀ {k:Nat},bC ps s k→bC ps ((s.dx x.toNat 0).tell ((s.t x.toNat).jA 0)) k:=fun hk=>by
   have:=hk.aT (n:=x.toNat) (hR.fL (y:=0) (by decide))
   refine bC.of (s:=s.aT x.toNat (u.fL 0)) this ?_
   unfold Spc.tell Spc.dx;rw[dC hu]
  exact ih _ (key h) (fun w hw=>key (ha w (List.mem_cons_of_mem _ hw)))
theorem nS(s:Spc)(a:List Int):(ct s a).aB.length=s.aB.length+a.length:=by
 induction a generalizing s with
 | nil=>rfl
 | cons x l ih =>
  show(ct _ l).aB.length=_
  rw[ih];simp[Spc.tell,Spc.dx,Spc.aT];omega
theorem Gf{w:kK}{x:Int}(h:x∈w.due):∃ y∈w.gx,y.1=x:=by
 unfold kK.due at h
 have hs:∀ (l:List Int),x∈fK l→x∈l:=by
  intro l
  induction l with
  | nil=>exact fun h=>h
  | cons a l ih =>
   intro h
   have hi:∀ (m:List Int),x∈cM a m→x=a∨x∈m:=by
    intro m
    induction m with
    | nil=>intro h;rcases List.mem_singleton.1 h with rfl;exact .inl rfl
    | cons b m ihm =>
     intro h
     unfold cM at h
     split at h
     ·rcases List.mem_cons.1 h with h | h
      ·exact .inl h
      ·exact .inr h
     ·rcases List.mem_cons.1 h with h | h
      ·exact .inr (h ▸ List.mem_cons_self)
      ·rcases ihm h with h | h
       ·exact .inl h
       ·exact .inr (List.mem_cons_of_mem _ h)
   rcases hi _ h with h | h
   ·rw[h];exact List.mem_cons_self
   ·exact List.mem_cons_of_mem _ (ih h)
 obtain⟨y,hy,e⟩:=List.mem_map.1 (hs _ h)
 exact⟨y,(List.mem_filter.1 hy).1,e⟩
theorem B4(l:List Int):(fK l).length=l.length:=by
 induction l with
 | nil=>rfl
 | cons a l ih =>
  have hi:∀ (m:List Int),(cM a m).length=m.length+1:=by
   intro m
   induction m with
   | nil=>rfl
   | cons b m ihm=>unfold cM;split <;> simp[ihm]
  show(cM a (fK l)).length=_
  rw[hi,ih,List.length_cons]
theorem ry(w:kK):w.due.length≤w.gx.length:=by
 unfold kK.due;rw[B4,List.length_map];exact List.length_filter_le ..
end Go.SLYthncobnjdhjnoaaGreat
namespace Go.SLYthncobnjdhjnoaaGreat
open Go Go.RowKit
def lf{α:Type}(f:α→Nat)(l:List α):Nat:=(l.map f).sum
theorem fB{α:Type}{f:α→Nat}:∀ {l:List α} {i:Nat} {x:α} (y:α),l[i]?=some x→lf f (l.set i y)+f x=lf f l+f y
 | a::l,0,x,y,h=>by
  obtain rfl:a=x:=by simpa using h
  simp[lf];omega
 | a::l,i+1,x,y,h=>by
  have:=fB (f:=f) (l:=l) (i:=i) y (by simpa using h)
  simp[lf] at this ⊢;omega
theorem ee{α:Type}{f:α→Nat}:∀ {l:List α} {x:α},x∈l→f x≤lf f l
 | a::l,x,h=>by
  rcases List.mem_cons.1 h with rfl | h
  ·simp[lf]
  ·have:=ee (f:=f) h
   simp[lf] at this ⊢;omega
theorem oT{α:Type}{f:α→Nat}{l:List α}(h:∀ x∈l,f x=0):lf f l=0:=by
 induction l with
 | nil=>rfl
 | cons a l ih =>
  have:=ih (fun x hx=>h x (List.mem_cons_of_mem _ hx))
  have:=h a List.mem_cons_self
  simp[lf] at *;omega
theorem kl{α:Type}{P:α→Bool}:∀ {l:List α} {i:Nat} {x:α},l[i]?=some x→(l.eraseIdx i).countP P+(if P x=true then 1 else 0)=l.countP P
 | a::l,0,x,h=>by
  obtain rfl:a=x:=by simpa using h
  simp[List.countP_cons]
 | a::l,i+1,x,h=>by
  have:=kl (P:=P) (l:=l) (i:=i) (x:=x) (by simpa using h)
  simp[List.countP_cons] at this ⊢;omega
def G8(w:Int)(x:eu):Bool:=decide (x.who=w)
def dn(w:Int)(l:List eu):Nat:=l.countP (G8 w)
def cG(g:Gates)(w:Int):Nat:=lf (fun m:ei=>dn w m.wait) g.cR+lf (dn w) g.gp+lf (fun m:jR=>dn w m.wait) g.dU
def cU(w:Int)(u:Tub):Nat:=u.fZ.count w+u.gw.countP fun x=>decide (x.who=w)
def cT(l:List Tub)(w:Int):Nat:=lf (cU w) l
def cD(d:kW)(w:Int):Nat:=d.wait.countP fun r=>decide (r.who=w)
def cL(u:kK)(w:Int):Nat:=u.gx.countP fun x=>decide (x.1=w)
def jn(w:Int):Option bA→Nat
 | none=>0
 | some t=>if t.av=w∧¬w = -1 then 1 else 0
def cJ(l:List (Option bA))(w:Int):Nat:=lf (jn w) l
def mj(s:Spc)(w:Int):Nat:=cG s.ak w+cT s.bV w+cD s.cu w+cL s.aM w+cJ s.aA w
def bT(t:bA):Nat:=if t.cE=0∨t.cE=9 then 0 else 1
def bO:Option bA→Nat
 | none=>0
 | some t=>bT t
def rO:Option bA→Nat
 | none=>0
 | some t=>if t.cE=0 then 1 else 0
def dy(s:Spc)(w:Int):Nat:=bO (s.at w)
def dq(s:Spc)(w:Int):Nat:=rO (s.at w)
def fu(x:Int):Prop:=0≤x∧x≤18446744073709551615
structure qq(p:gD)(g:Gates):Prop where
 m:g.cR.length=p.bm.toNat
 c:g.gp.length=p.conds.toNat
 s:g.dU.length=p.sems.length
 sc:∀ x∈g.dU,0≤x.count∧x.count≤1048576
 cm:∀ r∈g.gp, ∀ w∈r,0≤w.mutex∧w.mutex<(g.cR.length:Int)
structure G9(u:Tub):Prop where
 r:u.room≤8
 l:u.words.length≤8
 w:∀ x∈u.words,fu x
 p:∀ x∈u.gw,fu x.x
structure zo(d:kW):Prop where
 l:d.blocks.length≤64
 b:∀ x∈d.blocks,fu x
 w:∀ r∈d.wait,0≤r.block∧r.block<(d.blocks.length:Int)∧fu r.x
structure HZ(o:Bool×Int)(n:Nat)(t:bA):Prop where
 h:t.handle=dM o.2 n
 R:gk t
 pc:0≤t.pc∧t.pc≤257
 d:t.bB=true→t.av = -1
 f:t.cE=9→t.av = -1
def AX(p:gD):Prop:=c0 p=0∧ ∀ f∈p.funcs, ∀ i∈f,fu i.n
structure Ok(k:Nat)(s:Spc)(p q:List Int):Prop where
 A1:AX s.eE
 lt:s.aA.length=16
 ll:s.table.length=16
 tk:∀ o∈s.table,0≤o.2∧o.2≤(k:Int)
 us:∀ n:Nat,n<16→((s.table.getD n (false,0)).1=true↔ ∃ t,s.aA[n]?=some (some t))
 th:∀ (n:Nat) (t:bA),s.aA[n]?=some (some t)→HZ (s.table.getD n (false,0)) n t
 me:s.mem.length=s.eE.words.toNat∧ ∀ x∈s.mem,fu x
 gt:qq s.eE s.ak
 tb:s.bV.length=s.eE.pipes.length∧ ∀ u∈s.bV,G9 u
 dk:zo s.cu
 wl:0≤s.aM.now∧s.aM.now≤1099511627776
 qe:∀ w,mj s w+p.count w=dy s w+q.count w
/-! who is at a place -/
theorem mL{s:Spc}{n:Nat}:s.at (n:Int)=(s.aA[n]?).getD none:=by
 unfold Spc.at aV;rw[if_neg (by omega),Int.toNat_natCast]
theorem zp{s:Spc}{w:Int}(h:w<0):s.at w=none:=by unfold Spc.at aV;rw[if_pos h];rfl
theorem mM{s:Spc}{n:Nat}{o:Option bA}(hn:n<s.aA.length)(w:Int):({s with aA:=s.aA.set n o }:Spc).at w=if w=(n:Int) then o else s.at w:=by
 by_cases h0:w<0
 ·rw[zp h0,zp h0,if_neg (by omega)]
 ·obtain⟨m,rfl⟩:∃ m:Nat,w=(m:Int):=⟨w.toNat,by omega⟩
  rw[mL,mL]
  simp only
  by_cases e:m=n
  ·subst e;rw[List.getElem?_set_self hn,if_pos rfl];rfl
  ·rw[List.getElem?_set_ne (fun h=>e h.symm),if_neg (by omega)]
theorem AY{s:Spc}{n:Nat}{t:bA}(h:s.aA[n]?=some (some t)):s.at (n:Int)=some t:=by rw[mL,h];rfl
theorem hG{s:Spc}{w:Int}{t:bA}(h:s.at w=some t):0≤w∧s.aA[w.toNat]?=some (some t):=by
 by_cases h0:w<0
 ·rw[zp h0] at h;cases h
 ·obtain⟨m,rfl⟩:∃ m:Nat,w=(m:Int):=⟨w.toNat,by omega⟩
  rw[mL] at h
  refine⟨by omega,?_⟩
  rw[Int.toNat_natCast]
  cases e:s.aA[m]? with
  | none=>rw[e] at h;cases h
  | some o=>rw[e] at h;exact congrArg some h
theorem iU{s:Spc}{w:Int}(h:0<dy s w):∃ t,s.at w=some t∧t.cE≠0∧t.cE≠9:=by
 unfold dy bO at h
 cases e:s.at w with
 | none=>rw[e] at h;exact absurd h (by simp)
 | some t =>
  rw[e] at h;simp only[bT] at h
  split at h
  ·exact absurd h (by simp)
  ·exact⟨t,rfl,by omega,by omega⟩
theorem Eh{s:Spc}{w:Int}:dy s w≤1:=by
 unfold dy bO
 split
 ·omega
 ·unfold bT;split <;> omega
theorem mN{t:bA}(h:t.cE=0):bT t=0:=by unfold bT;rw[if_pos (.inl h)]
theorem jc{t:bA}(h:t.cE≠0)(h9:t.cE≠9):bT t=1:=by unfold bT;rw[if_neg (by omega)]
/-! steps that keep a space in order -/
section
variable{k:Nat}{s:Spc}{p q:List Int}
theorem Ok.aB(h:Ok k s p q)(l:List Rec):Ok k {s with aB:=l } p q:=⟨h.A1,h.lt,h.ll,h.tk,h.us,h.th,h.me,h.gt,h.tb,h.dk,h.wl,h.qe⟩
theorem Ok.H2(h:Ok k s p q){p' q':List Int}(e:∀ w,p'.count w+q.count w=p.count w+q'.count w):Ok k s p' q':=⟨h.A1,h.lt,h.ll,h.tk,h.us,h.th,h.me,h.gt,h.tb,h.dk,h.wl,fun w=>by have:=h.qe w;have:=e w;omega⟩
theorem Ok.more(h:Ok k s p q){k':Nat}(hk:k≤k'):Ok k' s p q:=⟨h.A1,h.lt,h.ll,fun o ho=>by have:=h.tk o ho;omega,h.us,h.th,h.me,h.gt,h.tb,h.dk,h.wl,h.qe⟩
theorem Ok.mem(h:Ok k s p q){m:List Int}(hl:m.length=s.mem.length)(hw:∀ x∈m,fu x):Ok k {s with mem:=m } p q:=⟨h.A1,h.lt,h.ll,h.tk,h.us,h.th,⟨hl.trans h.me.1,hw⟩,h.gt,h.tb,h.dk,h.wl,h.qe⟩
theorem Ok.ak(h:Ok k s p q){g:Gates}(hg:qq s.eE g){p' q':List Int}(e:∀ w,cG g w+p'.count w+q.count w=cG s.ak w+p.count w+q'.count w):Ok k {s with ak:=g } p' q' :=
 ⟨h.A1,h.lt,h.ll,h.tk,h.us,h.th,h.me,hg,h.tb,h.dk,h.wl,fun w=>by
  have h1:=h.qe w;have h2:=e w
  have h3:dy {s with ak:=g } w=dy s w:=rfl
  rw[h3];unfold mj at h1 ⊢;simp only;omega⟩
theorem Ok.bV(h:Ok k s p q){l:List Tub}(hl:l.length=s.bV.length)(hu:∀ u∈l,G9 u){p' q':List Int}(e:∀ w,cT l w+p'.count w+q.count w=cT s.bV w+p.count w+q'.count w):Ok k {s with bV:=l } p' q' :=
 ⟨h.A1,h.lt,h.ll,h.tk,h.us,h.th,h.me,h.gt,⟨hl.trans h.tb.1,hu⟩,h.dk,h.wl,fun w=>by
  have h1:=h.qe w;have h2:=e w
  have h3:dy {s with bV:=l } w=dy s w:=rfl
  rw[h3];unfold mj at h1 ⊢;simp only;omega⟩
theorem Ok.cu(h:Ok k s p q){d:kW}(hd:zo d){p' q':List Int}(e:∀ w,cD d w+p'.count w+q.count w=cD s.cu w+p.count w+q'.count w):Ok k {s with cu:=d } p' q' :=
 ⟨h.A1,h.lt,h.ll,h.tk,h.us,h.th,h.me,h.gt,h.tb,hd,h.wl,fun w=>by
  have h1:=h.qe w;have h2:=e w
  have h3:dy {s with cu:=d } w=dy s w:=rfl
  rw[h3];unfold mj at h1 ⊢;simp only;omega⟩
theorem Ok.aM(h:Ok k s p q){u:kK}(hu:0≤u.now∧u.now≤1099511627776){p' q':List Int}(e:∀ w,cL u w+p'.count w+q.count w=cL s.aM w+p.count w+q'.count w):Ok k {s with aM:=u } p' q' :=
 ⟨h.A1,h.lt,h.ll,h.tk,h.us,h.th,h.me,h.gt,h.tb,h.dk,hu,fun w=>by
  have h1:=h.qe w;have h2:=e w
  have h3:dy {s with aM:=u } w=dy s w:=rfl
  rw[h3];unfold mj at h1 ⊢;simp only;omega⟩
theorem Ok.aT(h:Ok k s p q){n:Nat}{t t':bA}(ht:s.aA[n]?=some (some t))(hh:HZ (s.table.getD n (false,0)) n t'){p' q':List Int}
  (e:∀ w,jn w (some t')+(if w=(n:Int) then bT t else 0)+p'.count w+q.count w=jn w (some t)+(if w=(n:Int) then bT t' else 0)+p.count w+q'.count w):Ok k (s.aT n t') p' q':=by
 have hn:n<s.aA.length:=(List.getElem?_eq_some_iff.1 ht).1
 refine⟨h.A1,?_,h.ll,h.tk,fun m hm=>?_,fun m u hu=>?_,h.me,h.gt,h.tb,h.dk,h.wl,fun w=>?_⟩
 ·show(s.aA.set n _).length=16;rw[List.length_set];exact h.lt
 ·refine(h.us m hm).trans ?_
  show(∃ t,s.aA[m]?=_)↔ ∃ t,(s.aA.set n (some t'))[m]?=_
  by_cases e:n=m
  ·subst e;rw[List.getElem?_set_self hn];exact⟨fun _=>⟨_,rfl⟩,fun _=>⟨_,ht⟩⟩
  ·rw[List.getElem?_set_ne e]
 ·have hu:(s.aA.set n (some t'))[m]?=some (some u):=hu
  by_cases e:n=m
  ·subst e;rw[List.getElem?_set_self hn] at hu;cases hu;exact hh
  ·rw[List.getElem?_set_ne e] at hu;exact h.th m u hu
 ·have h1:=h.qe w;have h2:=e w
  have h3:cJ (s.aT n t').aA w+jn w (some t)=cJ s.aA w+jn w (some t'):=fB (f:=jn w) (some t') ht
  have h4:dy (s.aT n t') w+(if w=(n:Int) then bT t else 0)=dy s w+(if w=(n:Int) then bT t' else 0):=by
   unfold dy
   rw[show(s.aT n t').at w=_ from mM hn w]
   by_cases e:w=(n:Int)
   ·subst e;simp only[if_pos];rw[AY ht];simp only[bO];omega
   ·simp only[if_neg e]
  have h5:mj (s.aT n t') w=cG s.ak w+cT s.bV w+cD s.cu w+cL s.aM w+cJ (s.aT n t').aA w:=rfl
  rw[h5];unfold mj at h1;omega
end
end Go.SLYthncobnjdhjnoaaGreat
namespace Go.SLYthncobnjdhjnoaaGreat
open Go Go.RowKit
section
variable{k:Nat}{s:Spc}{p q:List Int}
theorem Ei{l:List (Bool×Int)}{n:Nat}(hn:n<16)(hl:l.length=16)(h1:(l.getD n (false,0)).1=true)(_h0:0≤(l.getD n (false,0)).2):bo l (dM (l.getD n (false,0)).2 n)=some n:=by
 unfold bo
 have e:dM (l.getD n (false,0)).2 n % 65536=(n:Int)+1:=by unfold dM;omega
 rw[e,if_neg (by omega),show((n:Int)+1-1).toNat=n from by omega]
 have hx:=getD_some (d:=(false,(0:Int))) (show n<l.length by omega)
 rw[hx]
 simp only
 rw[if_pos (by simp only[and_true];exact h1)]
theorem Ok.Ej(h:Ok k s p q){n:Nat}{t:bA}(ht:s.aA[n]?=some (some t)):s.free n = {s with table:=s.table.set n (false,(s.table.getD n (false,0)).2),aA:=s.aA.set n none }:=by
 have hn:n<16:=h.lt ▸ (List.getElem?_eq_some_iff.1 ht).1
 have hx:=getD_some (d:=(false,(0:Int))) (show n<s.table.length by rw[h.ll];exact hn)
 have h0:=h.tk _ (List.mem_of_getElem? hx)
 unfold Spc.free
 rw[dC ht,(h.th n t ht).h,rb (Ei hn h.ll ((h.us n hn).2 ⟨t,ht⟩) h0.1)]
 rfl
theorem Ok.free(h:Ok k s p q){n:Nat}{t:bA}(ht:s.aA[n]?=some (some t)){p' q':List Int}
  (e:∀ w,(if w=(n:Int) then bT t else 0)+p'.count w+q.count w=jn w (some t)+p.count w+q'.count w):Ok k (s.free n) p' q':=by
 have hn:n<s.aA.length:=(List.getElem?_eq_some_iff.1 ht).1
 have hn16:n<16:=h.lt ▸ hn
 have hlt:n<s.table.length:=by rw[h.ll];exact hn16
 have hx:=getD_some (d:=(false,(0:Int))) hlt
 rw[h.Ej ht]
 refine⟨h.A1,?_,?_,fun o ho=>?_,fun m hm=>?_,fun m u hu=>?_,h.me,h.gt,h.tb,h.dk,h.wl,fun w=>?_⟩
 ·show(s.aA.set n _).length=16;rw[List.length_set];exact h.lt
 ·show(s.table.set n _).length=16;rw[List.length_set];exact h.ll
 ·rcases List.mem_or_eq_of_mem_set ho with ho | rfl
  ·exact h.tk o ho
  ·show 0≤(s.table.getD n (false,0)).2∧_
   exact h.tk _ (List.mem_of_getElem? hx)
 ·show((s.table.set n _).getD m (false,0)).1=true↔ ∃ t,(s.aA.set n none)[m]?=_
  by_cases e:n=m
  ·subst e
   rw[List.getElem?_set_self hn,List.getD_eq_getElem?_getD,List.getElem?_set_self hlt]
   exact⟨fun h=>(by cases h),fun⟨t,h⟩=>(by cases h)⟩
  ·rw[List.getElem?_set_ne e,List.getD_eq_getElem?_getD,List.getElem?_set_ne e, ← List.getD_eq_getElem?_getD]
   exact h.us m hm
 ·have hu:(s.aA.set n none)[m]?=some (some u):=hu
  by_cases e:n=m
  ·subst e;rw[List.getElem?_set_self hn] at hu;cases hu
  ·rw[List.getElem?_set_ne e] at hu
   show HZ ((s.table.set n _).getD m (false,0)) m u
   rw[List.getD_eq_getElem?_getD,List.getElem?_set_ne e, ← List.getD_eq_getElem?_getD]
   exact h.th m u hu
 ·have h1:=h.qe w;have h2:=e w
  have h3:cJ (s.aA.set n none) w+jn w (some t)=cJ s.aA w+0:=fB (f:=jn w) none ht
  have h4:dy {s with aA:=s.aA.set n none } w+(if w=(n:Int) then bT t else 0)=dy s w:=by
   unfold dy
   rw[mM hn w]
   by_cases e:w=(n:Int)
   ·subst e;simp only[if_pos];rw[AY ht];simp only[bO];omega
   ·simp only[if_neg e];omega
  have h5:dy {s with table:=s.table.set n (false,(s.table.getD n (false,0)).2),aA:=s.aA.set n none } w=dy {s with aA:=s.aA.set n none } w:=rfl
  rw[h5]
  unfold mj at h1 ⊢
  simp only
  omega
theorem Ok.begin(h:Ok k s p q)(hk:k≤1000000){f arg:Int}(ha:fu arg):Ok (k+1) (s.begin f arg).2.2 p q:=by
 cases hf:slotFree? s.table 0 with
 | none=>rw[js hf];exact h.more (Nat.le_succ _)
 | some n =>
  have hfr:∀ (l:List (Bool×Int)) (i n:Nat),slotFree? l i=some n→i≤n∧ ∃ o,l[n-i]?=some o∧o.1=false:=by
   intro l
   induction l with
   | nil=>intro i n h;cases h
   | cons o l ih =>
    intro i n h
    unfold slotFree? at h
    split at h
    ·obtain⟨a,o',b,c⟩:=ih (i+1) n h
     exact⟨by omega,o',by rw[show n-i=(n-(i+1))+1 from by omega];simpa using b,c⟩
    ·cases h;rename_i hb
     exact⟨Nat.le_refl _,o,by simp,by simpa using hb⟩
  obtain⟨-,o,ho,ho1⟩:=hfr _ _ _ hf
  rw[Nat.sub_zero] at ho
  have hlt:n<s.table.length:=(List.getElem?_eq_some_iff.1 ho).1
  have hn16:n<16:=h.ll ▸ hlt
  have hn:n<s.aA.length:=by rw[h.lt];exact hn16
  have hgd:s.table.getD n (false,0)=o:=by rw[List.getD_eq_getElem?_getD,ho];rfl
  have hno:s.aA[n]?=some none:=by
   obtain⟨x,hx⟩:=al hn
   cases x with
   | none=>exact hx
   | some t=>have:=(h.us n hn16).2 ⟨t,hx⟩;rw[hgd,ho1] at this;cases this
  have htk:=h.tk o (List.mem_of_getElem? ho)
  rw[eA hf,hgd]
  refine⟨h.A1,?_,?_,fun o' ho'=>?_,fun m hm=>?_,fun m u hu=>?_,h.me,h.gt,h.tb,h.dk,h.wl,fun w=>?_⟩
  ·show(s.aA.set n _).length=16;rw[List.length_set];exact h.lt
  ·show(s.table.set n _).length=16;rw[List.length_set];exact h.ll
  ·rcases List.mem_or_eq_of_mem_set ho' with ho' | rfl
   ·have:=h.tk o' ho';omega
   ·show 0≤o.2+1∧o.2+1≤((k+1:Nat):Int);omega
  ·show((s.table.set n _).getD m (false,0)).1=true↔ ∃ t,(s.aA.set n _)[m]?=_
   by_cases e:n=m
   ·subst e
    rw[List.getElem?_set_self hn,List.getD_eq_getElem?_getD,List.getElem?_set_self hlt]
    exact⟨fun _=>⟨_,rfl⟩,fun _=>rfl⟩
   ·rw[List.getElem?_set_ne e,List.getD_eq_getElem?_getD,List.getElem?_set_ne e, ← List.getD_eq_getElem?_getD]
    exact h.us m hm
  ·have hu:(s.aA.set n _)[m]?=some (some u):=hu
   by_cases e:n=m
   ·subst e;rw[List.getElem?_set_self hn] at hu;cases hu
    show HZ ((s.table.set n _).getD n (false,0)) n _
    rw[List.getD_eq_getElem?_getD,List.getElem?_set_self hlt]
    refine⟨rfl,⟨rfl,fun m=>?_,by show(-1:Int)≤ -1∧(-1:Int)<8;decide,by show(0:Int)≤0∧(0:Int)≤_;decide,?_⟩,by show(0:Int)≤0∧(0:Int)≤257;decide,fun h=>(by cases h),fun h=>rfl⟩
    ·have h0:(0:Int)≤0∧(0:Int)≤18446744073709551615:=by decide
     show 0≤([arg,0,0,0,0,0,0,0]:List Int).getD m 0∧_
     match m with
     | 0=>exact ha
     | 1=>exact h0
     | 2=>exact h0
     | 3=>exact h0
     | 4=>exact h0
     | 5=>exact h0
     | 6=>exact h0
     | 7=>exact h0
     | m+8=>exact h0
    ·show 0≤dM (o.2+1) n∧dM (o.2+1) n≤_;unfold dM;omega
   ·rw[List.getElem?_set_ne e] at hu
    show HZ ((s.table.set n _).getD m (false,0)) m u
    rw[List.getD_eq_getElem?_getD,List.getElem?_set_ne e, ← List.getD_eq_getElem?_getD]
    exact h.th m u hu
  ·have h1:=h.qe w
   have h3:cJ (s.aA.set n (some (qb f arg (dM (o.2+1) n)))) w+0=cJ s.aA w+jn w (some (qb f arg (dM (o.2+1) n))):=fB (f:=jn w) _ hno
   have hj:jn w (some (qb f arg (dM (o.2+1) n)))=0:=by unfold jn;exact if_neg (by rintro⟨a,b⟩;exact b a.symm)
   have h4:dy {s with aA:=s.aA.set n (some (qb f arg (dM (o.2+1) n))) } w=dy s w:=by
    unfold dy
    rw[mM hn w]
    by_cases e:w=(n:Int)
    ·subst e;simp only[if_pos];rw[mL,hno];rfl
    ·simp only[if_neg e]
   have h5:dy {s with table:=s.table.set n (true,o.2+1),aA:=s.aA.set n (some (qb f arg (dM (o.2+1) n))) } w=dy {s with aA:=s.aA.set n (some (qb f arg (dM (o.2+1) n))) } w:=rfl
   rw[h5]
   unfold mj at h1 ⊢
   simp only
   omega
end
end Go.SLYthncobnjdhjnoaaGreat
namespace Go.SLYthncobnjdhjnoaaGreat
open Go Go.RowKit
def opn(V:List Rec)(h:Int):Option Int:=match (V.filter fun r=>decide (r.af=h)).getLast? with | none=>none | some r=>if r.fin=true then none else some r.op
theorem Ek{V:List Rec}{r:Rec}{h:Int}(e:r.af=h):opn (V++[r]) h=if r.fin=true then none else some r.op:=by
 unfold opn;rw[List.filter_append];simp[e]
theorem B5{V:List Rec}{r:Rec}{h:Int}(e:r.af≠h):opn (V++[r]) h=opn V h:=by
 unfold opn;rw[List.filter_append];simp[e]
def rz(V:List Rec):Prop:=∀ a r b,V=a++r::b→ ∀ op,opn a r.af=some op→r.fin=true∧r.op=op∧r.x=0∧r.result=0
theorem rz.nil:rz []:=fun a r b e=>by cases a <;> cases e
theorem rz.snoc{V:List Rec}{r:Rec}(h:rz V)(hr:∀ op,opn V r.af=some op→r.fin=true∧r.op=op∧r.x=0∧r.result=0):rz (V++[r]):=fun a q b e=>by
 rcases List.eq_nil_or_concat b with rfl | ⟨b',z,rfl⟩
 ·have:=List.append_inj' e rfl
  obtain⟨rfl,h2⟩:=this
  cases h2
  exact hr
 ·rw[List.concat_eq_append, ← List.cons_append, ← List.append_assoc] at e
  have:=List.append_inj' e rfl
  exact h a q b' this.1
structure dD(s:Spc)(V:List Rec):Prop where
 pr:rz V
 op:∀ (n:Nat) (t:bA),s.aA[n]?=some (some t)→opn V t.handle=if bT t=1 then some t.op else none
 hd:∀ r∈V, ∃ (n:Nat) (k:Int),n<16∧r.af=dM k n∧k≤(s.table.getD n (false,0)).2
theorem tG{a b:Int}{n m:Nat}(hn:n<16)(hm:m<16)(h:dM a n=dM b m):n=m∧a=b:=by unfold dM at h;omega
section
variable{k:Nat}{s:Spc}{p q:List Int}{V:List Rec}{n:Nat}{t t':bA}
theorem dD.of(h:dD s V){s':Spc}(e1:s'.aA=s.aA)(e2:s'.table=s.table):dD s' V:=⟨h.pr,fun n t ht=>h.op n t (by rw[← e1];exact ht),fun r hr=>by rw[e2];exact h.hd r hr⟩
theorem B6(hO:Ok k s p q){m:Nat}{u:bA}(ht:s.aA[n]?=some (some t))(hu:s.aA[m]?=some (some u))(hne:n≠m):t.handle≠u.handle:=fun e=>by
 rw[(hO.th n t ht).h,(hO.th m u hu).h] at e
 exact hne (tG (hO.lt ▸ (List.getElem?_eq_some_iff.1 ht).1) (hO.lt ▸ (List.getElem?_eq_some_iff.1 hu).1) e).1
theorem dD.vj(h:dD s V)(hO:Ok k s p q)(ht:s.aA[n]?=some (some t)){r:Rec}(hr:r.af=t.handle)(hh:t'.handle=t.handle)(hp:∀ op,opn V t.handle=some op→r.fin=true∧r.op=op∧r.x=0∧r.result=0)
  (he:(if r.fin=true then none else some r.op)=if bT t'=1 then some t'.op else none):dD (s.aT n t') (V++[r]):=by
 have hn:n<s.aA.length:=(List.getElem?_eq_some_iff.1 ht).1
 refine⟨h.pr.snoc (by rw[hr];exact hp),fun m u hu=>?_,fun x hx=>?_⟩
 ·have hu:(s.aA.set n (some t'))[m]?=some (some u):=hu
  by_cases e:n=m
  ·subst e;rw[List.getElem?_set_self hn] at hu;cases hu
   rw[hh,Ek hr];exact he
  ·rw[List.getElem?_set_ne e] at hu
   rw[B5 (by rw[hr];exact B6 hO ht hu e)]
   exact h.op m u hu
 ·rcases List.mem_append.1 hx with hx | hx
  ·exact h.hd x hx
  ·rw[List.mem_singleton] at hx
   rw[hx,hr,(hO.th n t ht).h]
   exact⟨n,_,hO.lt ▸ hn,rfl,Int.le_refl _⟩
theorem dD.aT(h:dD s V)(ht:s.aA[n]?=some (some t))(hh:t'.handle=t.handle)(hb:bT t'=bT t)(ho:bT t=1→t'.op=t.op):dD (s.aT n t') V:=by
 have hn:n<s.aA.length:=(List.getElem?_eq_some_iff.1 ht).1
 refine⟨h.pr,fun m u hu=>?_,h.hd⟩
 have hu:(s.aA.set n (some t'))[m]?=some (some u):=hu
 by_cases e:n=m
 ·subst e;rw[List.getElem?_set_self hn] at hu;cases hu
  rw[hh,h.op n t ht,hb]
  by_cases e:bT t=1
  ·rw[if_pos e,if_pos e,ho e]
  ·rw[if_neg e,if_neg e]
 ·rw[List.getElem?_set_ne e] at hu
  exact h.op m u hu
theorem dD.tell(h:dD s V)(hO:Ok k s p q)(ht:s.aA[n]?=some (some t))(hb:bT t=0){o x y e:Int}:dD s (V++[⟨t.handle,o,x,y,e,true⟩]):=by
 have h0:opn V t.handle=none:=by rw[h.op n t ht,hb];rfl
 have:=h.vj (t':=t) hO ht (r:=⟨t.handle,o,x,y,e,true⟩) rfl rfl (fun op e=>by rw[h0] at e;cases e) (by rw[hb];rfl)
 refine this.of ?_ rfl
 show s.aA=s.aA.set n (some t)
 rw[jC ht]
theorem dD.free(h:dD s V)(hO:Ok k s p q)(ht:s.aA[n]?=some (some t)):dD (s.free n) V:=by
 have hn:n<s.aA.length:=(List.getElem?_eq_some_iff.1 ht).1
 have hlt:n<s.table.length:=by rw[hO.ll, ← hO.lt];exact hn
 rw[hO.Ej ht]
 refine⟨h.pr,fun m u hu=>?_,fun r hr=>?_⟩
 ·have hu:(s.aA.set n none)[m]?=some (some u):=hu
  by_cases e:n=m
  ·subst e;rw[List.getElem?_set_self hn] at hu;cases hu
  ·rw[List.getElem?_set_ne e] at hu;exact h.op m u hu
 ·obtain⟨m,k,h1,h2,h3⟩:=h.hd r hr
  refine⟨m,k,h1,h2,?_⟩
  show k≤((s.table.set n (false,(s.table.getD n (false,0)).2)).getD m (false,0)).2
  by_cases e:n=m
  ·subst e;rw[List.getD_eq_getElem?_getD,List.getElem?_set_self hlt];exact h3
  ·rw[List.getD_eq_getElem?_getD,List.getElem?_set_ne e, ← List.getD_eq_getElem?_getD];exact h3
theorem El{V:List Rec}{h:Int}(e:∀ r∈V,r.af≠h):opn V h=none:=by
 unfold opn
 rw[List.filter_eq_nil_iff.2 (fun r hr=>by simpa using e r hr)];rfl
theorem dD.begin(h:dD s V)(hO:Ok k s p q){f a:Int}:dD (s.begin f a).2.2 V:=by
 cases hf:slotFree? s.table 0 with
 | none=>rw[js hf];exact h
 | some n =>
  have hn16:n<16:=by
   have hfr:∀ (l:List (Bool×Int)) (i n:Nat),slotFree? l i=some n→n<i+l.length:=by
    intro l
    induction l with
    | nil=>intro i n h;cases h
    | cons o l ih =>
     intro i n h
     unfold slotFree? at h
     split at h
     ·have:=ih (i+1) n h;simp only[List.length_cons];omega
     ·cases h;simp only[List.length_cons];omega
   have:=hfr _ _ _ hf
   have:=hO.ll
   omega
  have hn:n<s.aA.length:=by rw[hO.lt];exact hn16
  have hlt:n<s.table.length:=by rw[hO.ll];exact hn16
  rw[eA hf]
  refine⟨h.pr,fun m u hu=>?_,fun r hr=>?_⟩
  ·have hu:(s.aA.set n _)[m]?=some (some u):=hu
   by_cases e:n=m
   ·subst e;rw[List.getElem?_set_self hn] at hu;cases hu
    refine(El fun r hr e=>?_).trans rfl
    obtain⟨m,k,h1,h2,h3⟩:=h.hd r hr
    rw[h2] at e
    obtain⟨rfl,rfl⟩:=tG h1 hn16 e
    omega
   ·rw[List.getElem?_set_ne e] at hu;exact h.op m u hu
  ·obtain⟨m,k,h1,h2,h3⟩:=h.hd r hr
   refine⟨m,k,h1,h2,?_⟩
   show k≤((s.table.set n (true,(s.table.getD n (false,0)).2+1)).getD m (false,0)).2
   by_cases e:n=m
   ·subst e;rw[List.getD_eq_getElem?_getD,List.getElem?_set_self hlt];show k≤(s.table.getD n (false,0)).2+1;omega
   ·rw[List.getD_eq_getElem?_getD,List.getElem?_set_ne e, ← List.getD_eq_getElem?_getD];exact h3
theorem xy{u:bA}{y:Int}:(u.fL y).handle=u.handle:=by show(if u.bR = -1 then u else u.put u.bR y).handle=_;split <;> rfl
theorem dD.dx(h:dD s V)(hO:Ok k s p q){w0:Int}{u:bA}(hu:s.at w0=some u)(hu0:u.cE≠0)(hu9:u.cE≠9){y:Int}:dD (s.dx w0.toNat y) (V++[u.jA y]):=by
 obtain⟨h0,hat⟩:=hG hu
 unfold Spc.dx
 rw[dC hat]
 have hb:bT u=1:=jc hu0 hu9
 refine h.vj hO hat rfl xy (fun op e=>?_) ?_
 ·rw[h.op _ u hat,hb,if_pos rfl] at e
  cases e
  exact⟨rfl,rfl,rfl,rfl⟩
 ·rw[show bT (u.fL y)=0 from mN rfl];rfl
end
end Go.SLYthncobnjdhjnoaaGreat
namespace Go.SLYthncobnjdhjnoaaGreat
open Go Go.RowKit
structure de(k:Nat)(s0:Spc)(d:Dng)(p q:List Int):Prop where
 ok:Ok k d.s p q
 rd:∀ w,dq d.s w+(if (d.out.aK=true∨d.out.ended=true)∧w=(d.n:Int) then 1 else 0)=dq s0 w+d.out.aw.count w
 wk:∀ w∈d.out.aw,dq s0 w=0
 rc:dD d.s (d.s.aB++d.ends)
 px:s0.aB <+: d.s.aB
section
variable{k:Nat}{s0:Spc}{d:Dng}{p q:List Int}{t:bA}
theorem gf{w:Int}{t:bA}:jn w (some t)=if t.av=w∧¬w = -1 then 1 else 0:=rfl
theorem cZ{t:bA}:rO (some t)=if t.cE=0 then 1 else 0:=rfl
theorem lg{s:Spc}{n:Nat}{t t':bA}(ht:s.aA[n]?=some (some t))(w:Int):dq (s.aT n t') w=if w=(n:Int) then rO (some t') else dq s w:=by
 unfold dq
 rw[show(s.aT n t').at w=_ from mM (List.getElem?_eq_some_iff.1 ht).1 w]
 split <;> rfl
theorem mO{s:Spc}{n:Nat}{t:bA}(ht:s.aA[n]?=some (some t)):dq s (n:Int)=rO (some t):=by unfold dq;rw[AY ht]
theorem de.qe(h:de k s0 d p q){p' q':List Int}(e:∀ w,p'.count w+q.count w=p.count w+q'.count w):de k s0 d p' q':=⟨h.ok.H2 e,h.rd,h.wk,h.rc,h.px⟩
theorem de.tell(h:de k s0 d p q)(ht:d.s.aA[d.n]?=some (some t))(hw:t.cE=0)(hn:d.ends=[]){x y e:Int}:de k s0 (d.tell x y e true) p q:=⟨h.ok.aB _,h.rd,h.wk,by
 have h1:=h.rc
 rw[hn,List.append_nil] at h1
 have h2:=h1.tell h.ok ht (mN hw) (o:=d.i.op) (x:=x) (y:=y) (e:=e)
 show dD (d.s.tell ⟨d.t.handle,d.i.op,x,y,e,true⟩) ((d.s.aB++[⟨d.t.handle,d.i.op,x,y,e,true⟩])++d.ends)
 rw[hn,List.append_nil,cP ht]
 exact h2.of rfl rfl,h.px.trans (List.prefix_append _ _)⟩
theorem de.own(h:de k s0 d p q)(ht:d.s.aA[d.n]?=some (some t)){t':bA}(hR:gk t')(hpc:0≤t'.pc∧t'.pc≤257)(e1:t'.handle=t.handle)(e2:t'.cE=t.cE)(e3:t'.av=t.av)(e4:t'.bB=t.bB)(e5:t'.op=t.op):de k s0 (d.aT t') p q:=by
 have ho:=h.ok.th d.n t ht
 refine⟨h.ok.aT ht ⟨e1.trans ho.h,hR,hpc,fun a=>by rw[e3];exact ho.d (by rw[← e4];exact a),fun a=>by rw[e3];exact ho.f (by rw[← e2];exact a)⟩ (fun w=>?_),fun w=>?_,h.wk,h.rc.aT ht e1 (by unfold bT;rw[e2]) (fun _=>e5),h.px⟩
 ·have hjj:jn w (some t')=jn w (some t):=by rw[gf,gf,e3]
  have hbb:bT t'=bT t:=by unfold bT;rw[e2]
  rw[hjj,hbb]
 ·have:=h.rd w
  have hr:dq (d.aT t').s w=dq d.s w:=by
   show dq (d.s.aT d.n t') w=_
   rw[lg ht]
   split
   ·rename_i e;rw[e,mO ht,cZ,cZ,e2]
   ·rfl
  rw[hr];exact this
theorem de.pass(h:de k s0 d p q)(ht:d.s.aA[d.n]?=some (some t))(hw:t.cE=0)(hn:d.ends=[]){x y e:Int}(he:0≤e∧e≤11):de k s0 (d.pass x y e) p q:=by
 have ho:=h.ok.th d.n t ht
 unfold Dng.pass
 rw[cP ht]
 exact de.own (d:=d.tell x y e true) (h.tell ht hw hn) ht (ho.R.put (by omega)) ho.pc rfl rfl rfl rfl rfl
theorem de.block(h:de k s0 d p ((d.n:Int)::q))(ht:d.s.aA[d.n]?=some (some t))(hw:t.cE=0)(hn:d.ends=[])(hs:d.out.aK=false)(hd:d.out.ended=false){a i x y:Int}(ha:a≠0∧a≠9)(hi : -1≤i∧i<8):de k s0 (d.block a i x y) p q:=by
 have ho:=h.ok.th d.n t ht
 have hTo:Ok k (d.tell x y 0 false).s p ((d.n:Int)::q):=h.ok.aB _
 have ht2:(d.tell x y 0 false).s.aA[d.n]?=some (some t):=ht
 unfold Dng.block
 rw[cP ht]
 refine⟨hTo.aT ht2 (t':={t with cE:=a,op:=d.i.op,bR:=i }) ⟨ho.h,ho.R.with hi,ho.pc,ho.d,fun e=>absurd e ha.2⟩ (fun w=>?_),fun w=>?_,h.wk,?_,h.px.trans (List.prefix_append _ _)⟩
 ·have e1:bT t=0:=mN hw
  have e2:bT {t with cE:=a,op:=d.i.op,bR:=i }=1:=jc ha.1 ha.2
  have e3:jn w (some {t with cE:=a,op:=d.i.op,bR:=i })=jn w (some t):=rfl
  rw[e1,e2,e3,List.count_cons]
  simp only[beq_iff_eq]
  by_cases e:w=(d.n:Int)
  ·rw[if_pos e,if_pos e,if_pos e.symm];omega
  ·rw[if_neg e,if_neg e,if_neg (fun h=>e h.symm)];omega
 ·have h1:=h.rd w
  rw[if_neg (by rw[hs,hd];simp)] at h1
  show dq ((d.tell x y 0 false).s.aT d.n {t with cE:=a,op:=d.i.op,bR:=i }) w+(if (true=true∨d.out.ended=true)∧w=(d.n:Int) then 1 else 0)=dq s0 w+d.out.aw.count w
  rw[lg ht2]
  by_cases e:w=(d.n:Int)
  ·rw[if_pos e,if_pos ⟨.inl rfl,e⟩]
   rw[e,mO ht] at h1
   have:rO (some t)=1:=by rw[cZ,if_pos hw]
   have:rO (some {t with cE:=a,op:=d.i.op,bR:=i })=0:=by rw[cZ];exact if_neg ha.1
   rw[e];omega
  ·rw[if_neg e,if_neg (fun h=>e h.2)]
   exact h1
 ·have h1:=h.rc
  rw[hn,List.append_nil] at h1
  have e2:bT {t with cE:=a,op:=d.i.op,bR:=i }=1:=jc ha.1 ha.2
  have h0:opn d.s.aB t.handle=none:=by rw[h1.op d.n t ht,mN hw];rfl
  have h2:=h1.vj (t':={t with cE:=a,op:=d.i.op,bR:=i }) h.ok ht (r:=⟨t.handle,d.i.op,x,y,0,false⟩) rfl rfl (fun op e=>by rw[h0] at e;cases e) (by rw[e2];rfl)
  show dD ((d.tell x y 0 false).s.aT d.n {t with cE:=a,op:=d.i.op,bR:=i }) ((d.s.aB++[⟨d.t.handle,d.i.op,x,y,0,false⟩])++d.ends)
  rw[hn,List.append_nil,cP ht]
  exact h2.of rfl rfl
theorem nT{u:bA}{y:Int}:(u.fL y).av=u.av:=by show(if u.bR = -1 then u else u.put u.bR y).av=_;split <;> rfl
theorem Ok.dx{s:Spc}(h:Ok k s p q){w0:Int}{u:bA}(hu:s.at w0=some u)(hu0:u.cE≠0)(hu9:u.cE≠9){y:Int}(hy:fu y):Ok k (s.dx w0.toNat y) p (w0::q):=by
 obtain⟨h0,hat⟩:=hG hu
 have ho:=h.th _ u hat
 have hc:((w0.toNat:Nat):Int)=w0:=by omega
 unfold Spc.dx
 rw[dC hat]
 refine h.aT hat ⟨?_,ho.R.fL hy,?_,?_,?_⟩ (fun w=>?_)
 ·rw[← ho.h];show(if u.bR = -1 then u else u.put u.bR y).handle=_;split <;> rfl
 ·show 0≤(if u.bR = -1 then u else u.put u.bR y).pc∧(if u.bR = -1 then u else u.put u.bR y).pc≤257;split <;> exact ho.pc
 ·intro e
  rw[nT];refine ho.d ?_
  rw[← e];show _=(if u.bR = -1 then u else u.put u.bR y).bB;split <;> rfl
 ·intro e;exact absurd (show(0:Int)=9 from e) (by decide)
 ·have e1:bT u=1:=jc hu0 hu9
  have e2:bT (u.fL y)=0:=mN rfl
  have e3:jn w (some (u.fL y))=jn w (some u):=by rw[gf,gf,nT]
  rw[e1,e2,e3,List.count_cons,hc]
  simp only[beq_iff_eq]
  by_cases e:w=w0
  ·rw[if_pos e,if_pos e,if_pos e.symm];omega
  ·rw[if_neg e,if_neg e,if_neg (fun h=>e h.symm)];omega
theorem nU{s:Spc}{w0:Int}{u:bA}(hu:s.at w0=some u){y:Int}(w:Int):dq (s.dx w0.toNat y) w=if w=w0 then 1 else dq s w:=by
 obtain⟨h0,hat⟩:=hG hu
 unfold Spc.dx
 rw[dC hat,lg hat,show((w0.toNat:Nat):Int)=w0 from by omega]
 rfl
theorem de.I7(h:de k s0 d p q){w0:Int}{u:bA}(hu:d.s.at w0=some u)(hu0:u.cE≠0)(hu9:u.cE≠9){y:Int}(hy:fu y)(hne:w0=(d.n:Int)→d.out.aK=false∧d.out.ended=false):de k s0 (d.cB w0.toNat y) p (w0::q):=by
 have h0:=(hG hu).1
 have hr:dq d.s w0=0:=by unfold dq;rw[hu,cZ];exact if_neg hu0
 refine⟨h.ok.dx hu hu0 hu9 hy,fun w=>?_,fun w hw=>?_,?_,h.px⟩
 ·have h1:=h.rd w
  show dq (d.s.dx w0.toNat y) w+(if (d.out.aK=true∨d.out.ended=true)∧w=(d.n:Int) then 1 else 0)=dq s0 w+(d.out.aw++[((w0.toNat:Nat):Int)]).count w
  rw[nU hu,List.count_append,List.count_singleton,show((w0.toNat:Nat):Int)=w0 from by omega]
  simp only[beq_iff_eq]
  generalize (if (d.out.aK=true∨d.out.ended=true)∧w=(d.n:Int) then 1 else 0)=B at h1 ⊢
  by_cases e:w=w0
  ·rw[if_pos e,if_pos e.symm]
   rw[e] at h1 ⊢
   omega
  ·rw[if_neg e,if_neg (fun h=>e h.symm)];omega
 ·have hw:w∈d.out.aw++[((w0.toNat:Nat):Int)]:=hw
  rcases List.mem_append.1 hw with hw | hw
  ·exact h.wk w hw
  ·rw[List.mem_singleton,show((w0.toNat:Nat):Int)=w0 from by omega] at hw
   subst hw
   have h1:=h.rd w
   by_cases e:w=(d.n:Int)
   ·obtain⟨e1,e2⟩:=hne e
    rw[if_neg (by rw[e1,e2];simp)] at h1;omega
   ·rw[if_neg (fun h=>e h.2)] at h1;omega
 ·have h2:=h.rc.dx h.ok hu hu0 hu9 (y:=y)
  show dD (d.s.dx w0.toNat y) (d.s.aB++(d.ends++[(d.s.t w0.toNat).jA y]))
  rw[← List.append_assoc,dC (hG hu).2]
  exact h2
theorem de.cB(h:de k s0 d p q){w0:Int}(hpq:q.count w0<p.count w0){y:Int}(hy:fu y)(hne:w0=(d.n:Int)→d.out.aK=false∧d.out.ended=false):de k s0 (d.cB w0.toNat y) p (w0::q):=by
 have hb:=h.ok.qe w0
 obtain⟨u,hu,hu0,hu9⟩:=iU (show 0<dy d.s w0 by omega)
 exact h.I7 hu hu0 hu9 hy hne
theorem de.bz(h:de k s0 d p q){g:Gates}(hg:qq d.s.eE g){p' q':List Int}(e:∀ w,cG g w+p'.count w+q.count w=cG d.s.ak w+p.count w+q'.count w):de k s0 (d.bz g) p' q':=⟨h.ok.ak hg e,h.rd,h.wk,h.rc.of rfl rfl,h.px⟩
theorem de.ek(h:de k s0 d p q){i:Nat}{u v:Tub}(hi:d.s.bV[i]?=some u)(hv:G9 v){p' q':List Int}(e:∀ w,cU w v+p'.count w+q.count w=cU w u+p.count w+q'.count w):de k s0 (d.ek i v) p' q':=by
 refine⟨h.ok.bV (by rw[List.length_set]) (fun x hx=>?_) (fun w=>?_),h.rd,h.wk,h.rc.of rfl rfl,h.px⟩
 ·rcases List.mem_or_eq_of_mem_set hx with hx | rfl
  ·exact h.ok.tb.2 x hx
  ·exact hv
 ·have h1:cT (d.s.bV.set i v) w+cU w u=cT d.s.bV w+cU w v:=fB (f:=cU w) v hi
  have:=e w;omega
theorem de.cN(h:de k s0 d p q){u:kW}(hu:zo u){p' q':List Int}(e:∀ w,cD u w+p'.count w+q.count w=cD d.s.cu w+p.count w+q'.count w):de k s0 (d.cN u) p' q':=⟨h.ok.cu hu e,h.rd,h.wk,h.rc.of rfl rfl,h.px⟩
theorem de.td(h:de k s0 d p q){u:kK}(hu:0≤u.now∧u.now≤1099511627776){p' q':List Int}(e:∀ w,cL u w+p'.count w+q.count w=cL d.s.aM w+p.count w+q'.count w):de k s0 (d.td u) p' q':=⟨h.ok.aM hu e,h.rd,h.wk,h.rc.of rfl rfl,h.px⟩
theorem rA(h:Ok k d.s p q){n:Nat}(ht:d.s.aA[n]?=some (some t))(w:Int):dq (d.s.free n) w=if w=(n:Int) then 0 else dq d.s w:=by
 rw[h.Ej ht]
 unfold dq
 rw[show({d.s with table:=d.s.table.set n (false,(d.s.table.getD n (false,0)).2),aA:=d.s.aA.set n none }:Spc).at w=({d.s with aA:=d.s.aA.set n none }:Spc).at w from rfl,mM (List.getElem?_eq_some_iff.1 ht).1 w]
 split <;> rfl
theorem de.free(h:de k s0 d p q){m:Nat}(ht:d.s.aA[m]?=some (some t))(h9:t.cE=9):de k s0 (d.free m) p q:=by
 have ho:=h.ok.th m t ht
 refine⟨h.ok.free ht (fun w=>?_),fun w=>?_,h.wk,h.rc.free h.ok ht,h.px⟩
 ·have e1:bT t=0:=by unfold bT;rw[if_pos (.inr h9)]
  have e2:jn w (some t)=0:=by rw[gf,ho.f h9];exact if_neg (by rintro⟨a,b⟩;exact b a.symm)
  rw[e1,e2];split <;> omega
 ·have h1:=h.rd w
  show dq (d.s.free m) w+_=_
  rw[rA h.ok ht]
  by_cases e:w=(m:Int)
  ·have h2:dq d.s w=0:=by rw[e,mO ht,cZ];exact if_neg (by omega)
   rw[if_pos e];rw[h2] at h1;exact h1
  ·rw[if_neg e];exact h1
theorem de.fin(h:de k s0 d [] [])(ht:d.s.aA[d.n]?=some (some t))(hw:t.cE=0)(hs:d.out.aK=false)(hd:d.out.ended=false){v:Int}(hv:fu v):de k s0 (d.fin v) [] []:=by
 have ho:=h.ok.th d.n t ht
 have hr0:rO (some t)=1:=by rw[cZ];exact if_pos hw
 have hbt:bT t=0:=mN hw
 have h1:=h.rd
 have hend:∀ w,(if (d.ended.out.aK=true∨d.ended.out.ended=true)∧w=(d.ended.n:Int) then 1 else 0)=if w=(d.n:Int) then 1 else 0:=fun w=>by
  by_cases e:w=(d.n:Int)
  ·rw[if_pos (show(d.ended.out.aK=true∨d.ended.out.ended=true)∧w=(d.ended.n:Int) from⟨.inr rfl,e⟩),if_pos e]
  ·rw[if_neg (show ¬((d.ended.out.aK=true∨d.ended.out.ended=true)∧w=(d.ended.n:Int)) from fun h=>e h.2),if_neg e]
 have hrd:∀ w,dq d.s w=dq s0 w+d.out.aw.count w:=fun w=>by
  have:=h1 w;rw[if_neg (by rw[hs,hd];simp)] at this;exact this
 cases hdt:t.bB with
 | true =>
  rw[AP ht hdt]
  refine⟨h.ok.free ht (fun w=>?_),fun w=>?_,h.wk,h.rc.free h.ok ht,h.px⟩
  ·have e2:jn w (some t)=0:=by rw[gf,ho.d hdt];exact if_neg (by rintro⟨a,b⟩;exact b a.symm)
   rw[hbt,e2];split <;> omega
  ·show dq (d.s.free d.n) w+(if (d.ended.out.aK=true∨d.ended.out.ended=true)∧w=(d.ended.n:Int) then 1 else 0)=dq s0 w+d.out.aw.count w
   rw[hend,rA h.ok ht, ← hrd]
   by_cases e:w=(d.n:Int)
   ·rw[if_pos e,if_pos e,e,mO ht,hr0]
   ·rw[if_neg e,if_neg e];rfl
 | false =>
  by_cases hj:t.av = -1
  ·rw[xh ht hdt hj]
   refine⟨h.ok.aT (s:=d.s) (t':={t with cE:=9,value:=v }) ht ⟨ho.h,⟨ho.R.l,ho.R.r,ho.R.i,hv,ho.R.h⟩,ho.pc,ho.d,fun _=>hj⟩ (fun w=>?_),fun w=>?_,h.wk,h.rc.aT (s:=d.s) (t':={t with cE:=9,value:=v }) ht rfl (by rw[hbt];try rfl) (fun e=>absurd e (by rw[hbt];decide)),h.px⟩
   ·have e1:bT {t with cE:=9,value:=v }=0:=by unfold bT;exact if_pos (.inr rfl)
    have e3:jn w (some {t with cE:=9,value:=v })=jn w (some t):=rfl
    rw[hbt,e1,e3]
   ·show dq (d.s.aT d.n {t with cE:=9,value:=v }) w+(if (d.ended.out.aK=true∨d.ended.out.ended=true)∧w=(d.ended.n:Int) then 1 else 0)=dq s0 w+d.out.aw.count w
    rw[hend,lg ht, ← hrd]
    by_cases e:w=(d.n:Int)
    ·rw[if_pos e,if_pos e,e,mO ht,hr0,cZ,if_neg (by show(9:Int)≠0;decide)]
    ·rw[if_neg e,if_neg e];rfl
  ·rw[xi ht hdt hj]
   -- who joined cB on: it is counted by this thread's own word
   have hcj:1≤mj d.s t.av:=by
    have:jn t.av (some t)=1:=by rw[gf];exact if_pos ⟨rfl,hj⟩
    have h2:jn t.av (some t)≤cJ d.s.aA t.av:=ee (f:=jn t.av) (List.mem_of_getElem? ht)
    unfold mj;omega
   have hb:=h.ok.qe t.av
   obtain⟨u,hu,hu0,hu9⟩:=iU (s:=d.s) (w:=t.av) (by simp at hb;omega)
   obtain⟨h0,hat⟩:=hG hu
   have hne:t.av.toNat≠d.n:=fun e=>by rw[e,ht] at hat;cases hat;exact hu0 hw
   have hc:((t.av.toNat:Nat):Int)=t.av:=by omega
   have hk:=h.ok.dx hu hu0 hu9 hv
   have ht2:(d.s.dx t.av.toNat v).aA[d.n]?=some (some t):=by
    unfold Spc.dx;exact eW ht hne
   refine⟨hk.free (n:=d.n) ht2 (fun w=>?_),fun w=>?_,fun w hw=>?_,?_,h.px⟩
   ·rw[hbt,gf,List.count_cons]
    simp only[beq_iff_eq,List.count_nil]
    by_cases e:t.av=w
    ·rw[if_pos (show t.av=w∧¬w = -1 from⟨e,by rw[← e];exact hj⟩),if_pos e];split <;> omega
    ·rw[if_neg (show ¬(t.av=w∧¬w = -1) from fun h=>e h.1),if_neg e];split <;> omega
   ·show dq ((d.s.dx t.av.toNat v).free d.n) w+(if (d.ended.out.aK=true∨d.ended.out.ended=true)∧w=(d.ended.n:Int) then 1 else 0)=dq s0 w+(d.out.aw++[((t.av.toNat:Nat):Int)]).count w
    rw[hend,rA (d:={d with s:=d.s.dx t.av.toNat v }) hk ht2,hc,List.count_append,List.count_singleton]
    simp only[beq_iff_eq]
    rw[nU hu]
    have h2:=hrd w
    by_cases e:w=(d.n:Int)
    ·rw[if_pos e,if_pos e,if_neg (show ¬t.av=w by rw[e];omega)]
     rw[e,mO ht,hr0] at h2
     rw[e];omega
    ·rw[if_neg e,if_neg e]
     by_cases e2:w=t.av
     ·rw[if_pos e2,if_pos e2.symm]
      have:dq d.s w=0:=by rw[e2];unfold dq;rw[hu,cZ];exact if_neg hu0
      omega
     ·rw[if_neg e2,if_neg (fun h=>e2 h.symm)];omega
   ·have hw:w∈d.out.aw++[((t.av.toNat:Nat):Int)]:=hw
    rcases List.mem_append.1 hw with hw | hw
    ·exact h.wk w hw
    ·rw[List.mem_singleton,hc] at hw
     have h2:=hrd w
     have:dq d.s w=0:=by rw[hw];unfold dq;rw[hu,cZ];exact if_neg hu0
     omega
   ·have h2:=h.rc.dx h.ok hu hu0 hu9 (y:=v)
    have h3:=h2.free hk (n:=d.n) ht2
    show dD ((d.s.dx t.av.toNat v).free d.n) (d.s.aB++(d.ends++[(d.s.t t.av.toNat).jA v]))
    rw[← List.append_assoc,dC hat]
    exact h3
end
end Go.SLYthncobnjdhjnoaaGreat
namespace Go.SLYthncobnjdhjnoaaGreat
open Go Go.RowKit
theorem AZ{n:Int}:fu (yM n):=by unfold yM fu;omega
theorem vk:fu mg:=by unfold mg fu;decide
theorem qt{n:Int}(h:fu n):fu (iw n):=by unfold iw;split;exact vk;exact h
theorem A0{o:Option Nat}(h:∀ r,o=some r→r<18446744073709551616):fu (BP o):=by
 cases o with
 | none=>exact vk
 | some r=>have:=h r rfl;exact qt ⟨by omega,by omega⟩
theorem fO{c:Prop}[Decidable c]{a b:Int}(h1:fu a)(h2:fu b):fu (if c then a else b):=by split;exact h1;exact h2
theorem Ha{b:Bool}:fu (yY b):=by unfold yY;exact fO ⟨by decide,by decide⟩ ⟨by decide,by decide⟩
theorem Em{neg:Bool}{win:Ordering}{x y:Nat}(hx:x<18446744073709551616)(hy:y<18446744073709551616):fu ((jz neg win x y:Nat):Int):=by
 have h1:Go.FloatKind.f64.encode (.infinity neg)<18446744073709551616:=by cases neg <;> decide +kernel
 unfold jz
 simp only
 unfold fu
 repeat' split
 all_goals omega
theorem Gg{op a b:Int}(ha:fu a)(hb:fu b):fu (bZ op a b):=by
 have hx:a.toNat<18446744073709551616:=by have:=ha.1;have:=ha.2;omega
 have hy:b.toNat<18446744073709551616:=by have:=hb.1;have:=hb.2;omega
 have h0:fu 0:=⟨by decide,by decide⟩
 have hmin:fu (wY a b):=by unfold wY;exact fO vk (qt (Em hx hy))
 have hmax:fu (wZ a b):=by unfold wZ;exact fO vk (qt (Em hx hy))
 have hti:fu (j8 a):=by unfold j8;exact fO h0 (fO ⟨by decide,by decide⟩ (fO ⟨by decide,by decide⟩ AZ))
 have htf:fu (k7 a):=by
  unfold k7
  refine qt ⟨by omega,?_⟩
  have:Go.FloatKind.f64.nearest (Go.IntKind.i64.wrap a)<18446744073709551616:=(Ieee.Format.write_lt Ieee.double (.number (decide (Go.IntKind.i64.wrap a<0)) (Go.IntKind.i64.wrap a).natAbs 0):_)
  omega
 unfold bZ
 refine fO ha (fO AZ (fO AZ (fO AZ (fO Ha (fO (A0 fun r h=>Ieee.Format.add_lt _ h) (fO (A0 fun r h=>Ieee.Format.sub_lt _ h) (fO (A0 fun r h=>Ieee.Format.mul_lt _ h) (fO (A0 fun r h=>Ieee.Format.div_lt _ h) (fO hmin (fO hmax (fO Ha (fO hti (fO htf h0)))))))))))))
end Go.SLYthncobnjdhjnoaaGreat
namespace Go.SLYthncobnjdhjnoaaGreat
open Go Go.RowKit
def b2(p:Prop)[Decidable p]:Nat:=if p then 1 else 0
theorem lh{w:Int}{l:List eu}{a b:Int}:dn w (l++[⟨a,b⟩])=dn w l+b2 (a=w):=by
 unfold dn b2 G8;rw[List.countP_append];simp[List.countP_cons]
theorem oU{w:Int}{l:List eu}{c:Int}:dn w (aI l c).2.2+b2 ((aI l c).2.1=true∧(aI l c).1.who=w)=dn w l:=by
 by_cases h0:l.length=0
 ·rw[uS h0];unfold b2;rw[if_neg (by rintro⟨a,b⟩;cases a)];rfl
 ·rw[ql h0]
  have hp:=nA (t:=c) (n:=l.length) (by omega)
  have hx:l[pick c l.length]?=some (l.getD (pick c l.length) ⟨0,0⟩):=getD_some hp
  have:=kl (P:=G8 w) hx
  unfold dn b2
  rw[← this]
  simp only[true_and,G8,decide_eq_true_eq]
theorem oV{w:Int}{l:List eu}(h:dn w l=0):kJ l w=false:=by
 unfold kJ
 rw[List.any_eq_false]
 intro x hx e
 have:0<dn w l:=List.countP_pos_iff.2 ⟨x,hx,e⟩
 omega
theorem zq{g:Gates}{w:Int}(h:cG g w=0):g.waits w=false:=by
 unfold cG at h
 unfold Gates.waits
 rw[Bool.or_eq_false_iff,Bool.or_eq_false_iff,List.any_eq_false,List.any_eq_false,List.any_eq_false]
 refine⟨⟨fun x hx=>?_,fun x hx=>?_⟩,fun x hx=>?_⟩
 ·have:=ee (f:=fun m:ei=>dn w m.wait) hx
  rw[oV (by omega)];simp
 ·have:=ee (f:=dn w) hx
  rw[oV (by omega)];simp
 ·have:=ee (f:=fun m:jR=>dn w m.wait) hx
  rw[oV (by omega)];simp
theorem d1:(1:Int)≠0:=by decide
theorem d4:(4:Int)≠0:=by decide
theorem d5:(5:Int)≠0:=by decide
section
variable{g:Gates}{p:gD}
theorem vn{i:Nat}{x y:ei}(h:g.cR[i]?=some x)(w:Int):cG {g with cR:=g.cR.set i y } w+dn w x.wait=cG g w+dn w y.wait:=by
 have:=fB (f:=fun m:ei=>dn w m.wait) y h
 unfold cG;simp only at this ⊢;omega
theorem En{i:Nat}{x y:List eu}(h:g.gp[i]?=some x)(w:Int):cG {g with gp:=g.gp.set i y } w+dn w x=cG g w+dn w y:=by
 have:=fB (f:=dn w) y h
 unfold cG;simp only at this ⊢;omega
theorem vq{i:Nat}{x y:jR}(h:g.dU[i]?=some x)(w:Int):cG {g with dU:=g.dU.set i y } w+dn w x.wait=cG g w+dn w y.wait:=by
 have:=fB (f:=fun m:jR=>dn w m.wait) y h
 unfold cG;simp only at this ⊢;omega
theorem qq.cR(h:qq p g){i:Nat}{y:ei}:qq p {g with cR:=g.cR.set i y }:=⟨by simp only[List.length_set];exact h.m,h.c,h.s,h.sc,fun r hr w hw=>by simp only[List.length_set];exact h.cm r hr w hw⟩
theorem qq.gp(h:qq p g){i:Nat}{y:List eu}(hy:∀ w∈y,0≤w.mutex∧w.mutex<(g.cR.length:Int)):qq p {g with gp:=g.gp.set i y }:=⟨h.m,by simp only[List.length_set];exact h.c,h.s,h.sc,fun r hr w hw=>by
 rcases List.mem_or_eq_of_mem_set hr with hr | rfl
 ·exact h.cm r hr w hw
 ·exact hy w hw⟩
theorem qq.dU(h:qq p g){i:Nat}{y:jR}(hy:0≤y.count∧y.count≤1048576):qq p {g with dU:=g.dU.set i y }:=⟨h.m,h.c,by simp only[List.length_set];exact h.s,fun x hx=>by
 rcases List.mem_or_eq_of_mem_set hx with hx | rfl
 ·exact h.sc x hx
 ·exact hy,h.cm⟩
theorem dS{q:Prop}[Decidable q](h:¬q):b2 q=0:=if_neg h
theorem km{q:Prop}[Decidable q](h:q):b2 q=1:=if_pos h
theorem H3(h:qq p g){n m:Int}:qq p (g.lock n m).2.2∧ ∀ w,cG (g.lock n m).2.2 w=cG g w+b2 (((g.lock n m).2.1=0∧(g.lock n m).1=false)∧n=w):=by
 have nope:∀ (b:Bool) (e:Int),(e≠0∨b=true)→ ∀ w,cG g w=cG g w+b2 ((e=0∧b=false)∧n=w):=fun b e he w=>by
  rw[dS (by rintro⟨⟨a,c⟩, -⟩;rcases he with he | he;exact he a;rw[he] at c;cases c)];rfl
 by_cases hm:0≤m∧m<(g.cR.length:Int)
 ·obtain⟨x,hx,hgx⟩:=cx hm
  cases hb:(g.waits n || x.is n) with
  | true=>rw[pI hgx hb];exact⟨h,nope _ _ (.inl d4)⟩
  | false =>
   rw[tq hgx hb]
   cases hh:x.held with
   | true =>
    rw[uT hh]
    refine⟨h.cR,fun w=>?_⟩
    have:=vn (y:={x with wait:=x.wait++[⟨n,0⟩] }) hx w
    rw[lh] at this
    have e:b2 (((0:Int)=0∧false=false)∧n=w)=b2 (n=w):=by unfold b2;simp
    rw[e];simp only at this ⊢;omega
   | false =>
    rw[uU hh]
    refine⟨h.cR,fun w=>?_⟩
    have:=vn (y:={x with held:=true,owner:=n }) hx w
    rw[dS (by rintro⟨⟨a,c⟩, -⟩;cases c)]
    simp only at this ⊢;omega
 ·rw[tp hm];exact⟨h,nope _ _ (.inl d1)⟩
theorem pP{x:ei}{c w:Int}:dn w (x.unlock c).2.2.wait+b2 ((x.unlock c).2.1=true∧(x.unlock c).1=w)=dn w x.wait:=oU
theorem Eo(h:qq p g){n m c:Int}:qq p (g.unlock n m c).2.2.2∧ ∀ w,cG (g.unlock n m c).2.2.2 w+b2 ((g.unlock n m c).2.1=true∧(g.unlock n m c).1=w)=cG g w:=by
 have nope:∀ w,cG g w+b2 (false=true∧(0:Int)=w)=cG g w:=fun w=>by rw[dS (by rintro⟨a, -⟩;cases a)];rfl
 by_cases hm:0≤m∧m<(g.cR.length:Int)
 ·obtain⟨x,hx,hgx⟩:=cx hm
  cases hb:x.is n with
  | false=>rw[nI hgx hb];exact⟨h,nope⟩
  | true =>
   rw[pK hgx hb]
   refine⟨h.cR,fun w=>?_⟩
   have:=vn (y:=(x.unlock c).2.2) hx w
   have:=pP (x:=x) (c:=c) (w:=w)
   simp only at *;omega
 ·rw[pJ hm];exact⟨h,nope⟩
theorem H4(h:qq p g){n c m ch:Int}(hw0:g.waits n=false):qq p (g.wait n c m ch).2.2.2∧ ∀ w,cG (g.wait n c m ch).2.2.2 w+b2 ((g.wait n c m ch).2.1=true∧(g.wait n c m ch).1=w)=cG g w+b2 ((g.wait n c m ch).2.2.1=0∧n=w):=by
 have nope:∀ e:Int,e≠0→ ∀ w,cG g w+b2 (false=true∧(0:Int)=w)=cG g w+b2 (e=0∧n=w):=fun e he w=>by rw[dS (by rintro⟨a, -⟩;cases a),dS (fun h=>he h.1)]
 by_cases hm:0≤m∧m<(g.cR.length:Int)
 ·by_cases hc:0≤c∧c<(g.gp.length:Int)
  ·obtain⟨x,hx,hgx⟩:=cx hm
   obtain⟨r,hr,hgr⟩:=cx hc
   cases hb:x.is n with
   | false=>rw[mF hgx hgr hw0 hb];exact⟨h,nope _ d5⟩
   | true =>
    rw[oN hgx hgr hw0 hb]
    have h1:=h.cR (i:=m.toNat) (y:=(x.unlock ch).2.2)
    refine⟨h1.gp (i:=c.toNat) (y:=r++[⟨n,m⟩]) (fun w hw=>?_),fun w=>?_⟩
    ·simp only[List.length_set]
     rcases List.mem_append.1 hw with hw | hw
     ·exact h.cm r (List.mem_of_getElem? hr) w hw
     ·rw[List.mem_singleton] at hw;rw[hw];exact hm
    ·have a1:=vn (y:=(x.unlock ch).2.2) hx w
     have a2:=pP (x:=x) (c:=ch) (w:=w)
     have a3:=En (g:={g with cR:=g.cR.set m.toNat (x.unlock ch).2.2 }) (y:=r++[⟨n,m⟩]) hr w
     rw[lh] at a3
     have e:b2 ((0:Int)=0∧n=w)=b2 (n=w):=by unfold b2;simp
     simp only[] at *
     omega
  ·rw[mE hc];exact⟨h,nope _ d1⟩
 ·rw[mD hm];exact⟨h,nope _ d1⟩
theorem H5(h:qq p g){n s:Int}(hw0:g.waits n=false):qq p (g.down n s).2.2∧ ∀ w,cG (g.down n s).2.2 w=cG g w+b2 (((g.down n s).2.1=0∧(g.down n s).1=false)∧n=w):=by
 by_cases hs:0≤s∧s<(g.dU.length:Int)
 ·obtain⟨x,hx,hgx⟩:=cx hs
  have hxc:=h.sc x (List.mem_of_getElem? hx)
  by_cases hc:0<x.count
  ·rw[tu hgx hw0 hc]
   refine⟨h.dU (by simp only;omega),fun w=>?_⟩
   have:=vq (y:={x with count:=x.count-1 }) hx w
   rw[dS (by rintro⟨⟨a,c⟩, -⟩;cases c)]
   simp only at this ⊢;omega
  ·rw[pN hgx hw0 hc]
   refine⟨h.dU hxc,fun w=>?_⟩
   have:=vq (y:={x with wait:=x.wait++[⟨n,0⟩] }) hx w
   rw[lh] at this
   have e:b2 (((0:Int)=0∧false=false)∧n=w)=b2 (n=w):=by unfold b2;simp
   rw[e];simp only at this ⊢;omega
 ·rw[tt hs]
  exact⟨h,fun w=>by rw[dS (by rintro⟨⟨a,c⟩, -⟩;exact d1 a)];rfl⟩
theorem JY(h:qq p g){s c:Int}:qq p (g.up s c).2.2.2∧ ∀ w,cG (g.up s c).2.2.2 w+b2 ((g.up s c).2.1=true∧(g.up s c).1=w)=cG g w:=by
 have no:∀ w,b2 (false=true∧(0:Int)=w)=0:=fun w=>dS (by rintro⟨a, -⟩;cases a)
 by_cases hs:0≤s∧s<(g.dU.length:Int)
 ·obtain⟨x,hx,hgx⟩:=cx hs
  have hxc:=h.sc x (List.mem_of_getElem? hx)
  cases ht:(aI x.wait c).2.1 with
  | true =>
   rw[tv hgx ht]
   refine⟨h.dU hxc,fun w=>?_⟩
   have a1:=vq (y:={x with wait:=(aI x.wait c).2.2 }) hx w
   have a2:=oU (w:=w) (l:=x.wait) (c:=c)
   rw[ht] at a2
   simp only at *;omega
  | false =>
   by_cases hc:1048576≤x.count
   ·rw[tz hgx ht hc];exact⟨h,fun w=>by rw[no];rfl⟩
   ·rw[AM hgx ht hc]
    refine⟨h.dU (by simp only;omega),fun w=>?_⟩
    have:=vq (y:={x with count:=x.count+1 }) hx w
    rw[no];simp only at this ⊢;omega
 ·rw[AL hs];exact⟨h,fun w=>by rw[no];rfl⟩
theorem Hb:∀ (n:Nat) (c:Int) (r:List eu) (ms:List ei) (out:List Int) (w:Int),n≤r.length→(∀ y∈r,0≤y.mutex∧y.mutex<(ms.length:Int))→
  dn w (sigLoop n c r ms out).1+lf (fun m:ei=>dn w m.wait) (sigLoop n c r ms out).2.1+(sigLoop n c r ms out).2.2.count w=dn w r+lf (fun m:ei=>dn w m.wait) ms+out.count w∧ ∀ y∈(sigLoop n c r ms out).1,y∈r
 | 0,_,_,_,_,_,_,_=>⟨rfl,fun _ h=>h⟩
 | n+1,c,r,ms,out,w,hn,hr=>by
  obtain⟨h1,h2,h3⟩:=jD (l:=r) (c:=c) (by omega)
  have hm:=hr _ h1
  obtain⟨x,hx⟩:=al (show(aI r c).1.mutex.toNat<ms.length by omega)
  have ht:(aI r c).2.1=true:=by rw[ql (by omega)]
  have hgx:ms.getD (aI r c).1.mutex.toNat ⟨[],false,0⟩=x:=by rw[List.getD_eq_getElem?_getD,hx];rfl
  unfold sigLoop
  simp only
  rw[hgx]
  obtain⟨a1,a2⟩:=Hb n c (aI r c).2.2 (ms.set (aI r c).1.mutex.toNat (x.lock (aI r c).1.who).2) (if (x.lock (aI r c).1.who).1=true then out++[(aI r c).1.who] else out) w (by omega) (fun y hy=>by rw[List.length_set];exact hr y (h3 y hy))
  refine⟨a1.trans ?_,fun y hy=>h3 y (a2 y hy)⟩
  have b1:=oU (w:=w) (l:=r) (c:=c)
  have b3:=fB (f:=fun m:ei=>dn w m.wait) (x.lock (aI r c).1.who).2 hx
  have e:b2 ((aI r c).2.1=true∧(aI r c).1.who=w)=b2 ((aI r c).1.who=w):=by unfold b2;simp[ht]
  rw[e] at b1
  cases hh:x.held with
  | true =>
   rw[uT hh] at b3 ⊢
   simp only[Bool.false_eq_true,if_false] at b3 ⊢
   rw[lh] at b3
   omega
  | false =>
   rw[uU hh] at b3 ⊢
   simp only[if_true] at b3 ⊢
   rw[List.count_append,List.count_singleton]
   have e2:(if ((aI r c).1.who == w)=true then 1 else 0)=b2 ((aI r c).1.who=w):=by unfold b2;simp
   rw[e2];omega
theorem Ep(h:qq p g){c ch:Int}{all:Bool}:qq p (g.signal c ch all).2.2∧ ∀ w,cG (g.signal c ch all).2.2 w+(g.signal c ch all).1.count w=cG g w:=by
 by_cases hc:0≤c∧c<(g.gp.length:Int)
 ·obtain⟨r,hr,hgr⟩:=cx hc
  have hrm:=h.cm r (List.mem_of_getElem? hr)
  rw[pM hgr rfl]
  have hs:=fun w=>Hb (if all=true then r.length else min r.length 1) (if all=true then 0 else ch) r g.cR [] w (by split <;> omega) hrm
  refine⟨⟨?_,?_,h.s,h.sc,fun y hy w hw=>?_⟩,fun w=>?_⟩
  ·rw[nR];exact h.m
  ·simp only[List.length_set];exact h.c
  ·rw[nR]
   rcases List.mem_or_eq_of_mem_set hy with hy | rfl
   ·exact h.cm y hy w hw
   ·exact hrm w ((hs 0).2 w hw)
  ·have a1:=(hs w).1
   have a2:=fB (f:=dn w) (sigLoop (if all=true then r.length else min r.length 1) (if all=true then 0 else ch) r g.cR []).1 hr
   unfold cG
   simp only[List.count_nil] at *
   omega
 ·rw[pL hc];exact⟨h,fun w=>rfl⟩
end
end Go.SLYthncobnjdhjnoaaGreat
namespace Go.SLYthncobnjdhjnoaaGreat
open Go Go.RowKit
theorem mP{n w:Int}:[n].count w=b2 (n=w):=by rw[List.count_singleton];unfold b2;simp
theorem xz{ok:Bool}{n w:Int}:(if ok=true then [n] else []).count w=b2 (ok=true∧n=w):=by
 cases ok
 ·simp[b2]
 ·simp only[if_true,mP,true_and]
structure St(k:Nat)(s0:Spc)(d:Dng)(t:bA):Prop where
 h:de k s0 d [] []
 ht:d.s.aA[d.n]?=some (some t)
 hw:t.cE=0
 hs:d.out.aK=false
 he:d.out.ended=false
 I:mi d.i
 hn:d.ends=[]
section
variable{k:Nat}{s0:Spc}{d:Dng}{p q:List Int}{t:bA}
theorem St.o(S:St k s0 d t):HZ (d.s.table.getD d.n (false,0)) d.n t:=S.h.ok.th d.n t S.ht
theorem St.zero(S:St k s0 d t):mj d.s d.n=0:=by
 have:=S.h.ok.qe d.n
 have e:dy d.s d.n=0:=by unfold dy;rw[AY S.ht];exact mN S.hw
 simp at this;omega
theorem St.a(S:St k s0 d t):fu d.a:=by unfold Dng.a;rw[cP S.ht];exact S.o.R.r _
theorem St.b(S:St k s0 d t):fu d.b:=by unfold Dng.b;rw[cP S.ht];exact S.o.R.r _
theorem St.pass(S:St k s0 d t){x y e:Int}(he:0≤e∧e≤11):de k s0 (d.pass x y e) [] []:=S.h.pass S.ht S.hw S.hn he
theorem de.given{ok:Bool}{n:Int}(h:de k s0 d (if ok=true then [n] else []) [])(hne:ok=true→n=(d.n:Int)→d.out.aK=false∧d.out.ended=false):de k s0 (d.given n ok) [] []:=by
 unfold Dng.given
 cases ok with
 | false=>exact h
 | true =>
  have:=de.cB (y:=0) h (w0:=n) (by simp) ⟨by decide,by decide⟩ (hne rfl)
  exact this.qe (fun w=>by simp)
theorem Er{g:Gates}{n c m ch:Int}(h:(g.wait n c m ch).2.2.1≠0):(g.wait n c m ch).2.1=false:=by
 unfold Gates.wait at h ⊢
 repeat' split
 all_goals first | rfl | skip
 rename_i h1 h2 h3 h4
 rw[h1,h2] at h
 simp only at h
 rw[if_neg h3,if_pos h4] at h
 exact absurd rfl h
theorem St.waits(S:St k s0 d t):d.s.ak.waits d.n=false:=zq (by have:=S.zero;unfold mj at this;omega)
theorem Es{g:Gates}{n c m ch:Int}(hw0:g.waits n=false)(h:(g.wait n c m ch).2.2.1=0):1≤cG (g.wait n c m ch).2.2.2 n:=by
 by_cases hm:0≤m∧m<(g.cR.length:Int)
 ·by_cases hc:0≤c∧c<(g.gp.length:Int)
  ·obtain⟨x,hx,hgx⟩:=cx hm
   obtain⟨r,hr,hgr⟩:=cx hc
   cases hb:x.is n with
   | false=>rw[mF hgx hgr hw0 hb] at h;exact absurd h d5
   | true =>
    rw[oN hgx hgr hw0 hb]
    have a3:=En (g:={g with cR:=g.cR.set m.toNat (x.unlock ch).2.2 }) (y:=r++[⟨n,m⟩]) hr n
    have a4:dn n r≤cG {g with cR:=g.cR.set m.toNat (x.unlock ch).2.2 } n:=by
     have:=ee (f:=dn n) (List.mem_of_getElem? hr)
     unfold cG;simp only;omega
    rw[lh,km rfl] at a3
    simp only at a3 ⊢
    omega
  ·rw[mE hc] at h;exact absurd h d1
 ·rw[mD hm] at h;exact absurd h d1
theorem St.mutex(S:St k s0 d t):de k s0 d.mutex [] []:=by
 unfold Dng.mutex
 simp only
 split
 ·obtain⟨hg,hc⟩:=H3 (n:=d.n) (m:=d.i.n) S.h.ok.gt
  split
  ·rename_i hb
   have h1:=S.h.bz hg (p':=[]) (q':=[(d.n:Int)]) (fun w=>by
    rw[hc w,mP]
    have:b2 (((d.s.ak.lock d.n d.i.n).2.1=0∧(d.s.ak.lock d.n d.i.n).1=false)∧(d.n:Int)=w)=b2 ((d.n:Int)=w):=by unfold b2;simp[hb]
    rw[this];simp)
   exact h1.block S.ht S.hw S.hn S.hs S.he ⟨by decide,by decide⟩ (by decide)
  ·rename_i hb
   have h1:=S.h.bz hg (p':=[]) (q':=[]) (fun w=>by rw[hc w,dS (fun h=>hb h.1)];rfl)
   exact h1.pass S.ht S.hw S.hn AQ
 ·split
  ·obtain⟨hg,hc⟩:=Eo (n:=d.n) (m:=d.i.n) (c:=d.choice) S.h.ok.gt
   have h1:=S.h.bz hg (p':=if (d.s.ak.unlock d.n d.i.n d.choice).2.1=true then [(d.s.ak.unlock d.n d.i.n d.choice).1] else []) (q':=[]) (fun w=>by rw[xz];have:=hc w;simp;omega)
   exact(h1.pass S.ht S.hw S.hn oQ).given (fun _ _=>⟨S.hs,S.he⟩)
  ·obtain⟨hg,hc⟩:=H4 (n:=d.n) (c:=d.i.n) (m:=d.i.c) (ch:=d.choice) S.h.ok.gt S.waits
   have hc2:=fun w=>hc w
   split
   ·rename_i he
    have h1:=S.h.bz hg (p':=[]) (q':=[]) (fun w=>by
     have:=hc w
     rw[dS (fun h=>by rw[Er he] at h;exact absurd h.1 (by simp)),dS (fun h=>he h.1)] at this
     simp;omega)
    exact h1.pass S.ht S.hw S.hn AR
   ·rename_i he
    have he:(d.s.ak.wait d.n d.i.n d.i.c d.choice).2.2.1=0:=Decidable.not_not.mp he
    have hno:(d.s.ak.wait d.n d.i.n d.i.c d.choice).2.1=true→¬(d.s.ak.wait d.n d.i.n d.i.c d.choice).1=(d.n:Int):=fun ho hn=>by
     have h1:=hc d.n
     have h2:cG d.s.ak d.n=0:=by have:=S.zero;unfold mj at this;omega
     have h3:=Es (g:=d.s.ak) (n:=d.n) (c:=d.i.n) (m:=d.i.c) (ch:=d.choice) S.waits he
     rw[km ⟨ho,hn⟩,km ⟨he,rfl⟩] at h1
     omega
    have h1:=S.h.bz hg (p':=if (d.s.ak.wait d.n d.i.n d.i.c d.choice).2.1=true then [(d.s.ak.wait d.n d.i.n d.i.c d.choice).1] else []) (q':=[(d.n:Int)]) (fun w=>by
     rw[xz,mP]
     have:=hc w
     have e:b2 ((d.s.ak.wait d.n d.i.n d.i.c d.choice).2.2.1=0∧(d.n:Int)=w)=b2 ((d.n:Int)=w):=by unfold b2;simp[he]
     rw[e] at this
     simp;omega)
    exact(h1.block S.ht S.hw S.hn S.hs S.he ⟨by decide,by decide⟩ (by decide)).given (fun ho hn=>absurd hn (hno ho))
theorem St.dU(S:St k s0 d t):de k s0 d.dU [] []:=by
 unfold Dng.dU
 simp only
 split
 ·obtain⟨hg,hc⟩:=JY (s:=d.i.n) (c:=d.choice) S.h.ok.gt
  have h1:=S.h.bz hg (p':=if (d.s.ak.up d.i.n d.choice).2.1=true then [(d.s.ak.up d.i.n d.choice).1] else []) (q':=[]) (fun w=>by rw[xz];have:=hc w;simp;omega)
  exact(h1.pass S.ht S.hw S.hn D8).given (fun _ _=>⟨S.hs,S.he⟩)
 ·obtain⟨hg,hc⟩:=H5 (n:=d.n) (s:=d.i.n) S.h.ok.gt S.waits
  split
  ·rename_i hb
   have h1:=S.h.bz hg (p':=[]) (q':=[(d.n:Int)]) (fun w=>by
    rw[hc w,mP]
    have:b2 (((d.s.ak.down d.n d.i.n).2.1=0∧(d.s.ak.down d.n d.i.n).1=false)∧(d.n:Int)=w)=b2 ((d.n:Int)=w):=by unfold b2;simp[hb]
    rw[this];simp)
   exact h1.block S.ht S.hw S.hn S.hs S.he ⟨by decide,by decide⟩ (by decide)
  ·rename_i hb
   have h1:=S.h.bz hg (p':=[]) (q':=[]) (fun w=>by rw[hc w,dS (fun h=>hb h.1)];rfl)
   exact h1.pass S.ht S.hw S.hn AS
/-! those who go on by a signal -/
theorem Ok.JZ{s:Spc}(h:Ok k s p q){w0:Int}{u:bA}(hu:s.at w0=some u)(hu0:u.cE≠0)(hu9:u.cE≠9):Ok k (s.aT w0.toNat {u with cE:=1 }) p q:=by
 obtain⟨h0,hat⟩:=hG hu
 have ho:=h.th _ u hat
 refine h.aT (t':={u with cE:=1 }) hat ⟨ho.h,⟨ho.R.l,ho.R.r,ho.R.i,ho.R.v,ho.R.h⟩,ho.pc,ho.d,fun e=>absurd (show(1:Int)=9 from e) (by decide)⟩ (fun w=>?_)
 have e1:bT u=1:=jc hu0 hu9
 have e2:bT {u with cE:=1 }=1:=jc (t:={u with cE:=1 }) (by show(1:Int)≠0;decide) (by show(1:Int)≠9;decide)
 have e3:jn w (some {u with cE:=1 })=jn w (some u):=rfl
 rw[e1,e2,e3]
theorem Et{s:Spc}{w0:Int}{u:bA}(hu:s.at w0=some u)(hu0:u.cE≠0)(hu9:u.cE≠9)(w:Int):dy (s.aT w0.toNat {u with cE:=1 }) w=dy s w∧dq (s.aT w0.toNat {u with cE:=1 }) w=dq s w:=by
 obtain⟨h0,hat⟩:=hG hu
 have hc:((w0.toNat:Nat):Int)=w0:=by omega
 have e:(s.aT w0.toNat {u with cE:=1 }).at w=if w=w0 then some {u with cE:=1 } else s.at w:=by
  have:=mM (s:=s) (n:=w0.toNat) (o:=some {u with cE:=1 }) (List.getElem?_eq_some_iff.1 hat).1 w
  rw[hc] at this;exact this
 unfold dy dq
 rw[e]
 by_cases hw:w=w0
 ·rw[if_pos hw,hw,hu]
  refine⟨?_,?_⟩
  ·show bT {u with cE:=1 }=bT u
   exact(jc (t:={u with cE:=1 }) (by show(1:Int)≠0;decide) (by show(1:Int)≠9;decide)).trans (jc hu0 hu9).symm
  ·rw[cZ,cZ,if_neg (by show ¬(1:Int)=0;decide),if_neg hu0]
 ·rw[if_neg hw];exact⟨rfl,rfl⟩
theorem de.cv:∀ (l:List Int) (d:Dng),de k s0 d p q→(∀ w∈l,0<dy d.s w)→de k s0 {d with s:=cv d.s l } p q
 | [],_,h,_=>h
 | w::l,d,h,hl=>by
  obtain⟨u,hu,hu0,hu9⟩:=iU (hl w List.mem_cons_self)
  have hat:=(hG hu).2
  have hk:=Et hu hu0 hu9
  have h2:de k s0 {d with s:=d.s.aT w.toNat {u with cE:=1 } } p q:=⟨h.ok.JZ hu hu0 hu9,fun w'=>by
   have:=h.rd w'
   show dq (d.s.aT w.toNat {u with cE:=1 }) w'+_=_
   rw[(hk w').2];exact this,h.wk,h.rc.aT hat rfl (by rw[jc hu0 hu9];exact jc (t:={u with cE:=1 }) (by show(1:Int)≠0;decide) (by show(1:Int)≠9;decide)) (fun _=>rfl),h.px⟩
  have h3:=de.cv l _ h2 (fun w' hw'=>by
   show 0<dy (d.s.aT w.toNat {u with cE:=1 }) w'
   rw[(hk w').1];exact hl w' (List.mem_cons_of_mem _ hw'))
  show de k s0 {d with s:=Go.SLYthncobnjdhjnoaaGreat.cv (d.s.aT w.toNat {d.s.t w.toNat with cE:=1 }) l } p q
  rw[show d.s.t w.toNat=u from dC hat]
  exact h3
theorem de.dc:∀ (l:List Int) (d:Dng),de k s0 d l []→d.out.aK=false∧d.out.ended=false→de k s0 (d.dc l) [] []
 | [],_,h,_=>h
 | w::l,d,h,hs=>by
  have h1:=h.cB (w0:=w) (y:=0) (by simp) ⟨by decide,by decide⟩ (fun _=>hs)
  refine de.dc l _ ?_ hs
  exact(h1.qe (fun w'=>by simp[List.count_cons]))
theorem de.kG{l:List Int}(h:de k s0 d l [])(hs:d.out.aK=false∧d.out.ended=false):de k s0 (d.kG l) [] []:=by
 unfold Dng.kG
 refine de.dc l _ (de.cv d.waits d h (fun w hw=>?_)) hs
 have:=h.ok.qe w
 have h1:0<cG d.s.ak w:=by
  obtain⟨x,hx,hw⟩:=List.mem_flatMap.1 hw
  obtain⟨y,hy,rfl⟩:=List.mem_map.1 hw
  have h2:=ee (f:=fun m:ei=>dn y.who m.wait) (List.mem_of_mem_take hx)
  have h3:0<dn y.who x.wait:=List.countP_pos_iff.2 ⟨y,hy,by simp[G8]⟩
  unfold cG;omega
 unfold mj at this
 simp at this;omega
theorem St.signal(S:St k s0 d t){all:Bool}:de k s0 (((d.bz (d.s.ak.signal d.i.n d.choice all).2.2).pass d.i.n 0 (d.s.ak.signal d.i.n d.choice all).2.1).kG (d.s.ak.signal d.i.n d.choice all).1) [] []:=by
 obtain⟨hg,hc⟩:=Ep (c:=d.i.n) (ch:=d.choice) (all:=all) S.h.ok.gt
 have h1:=S.h.bz hg (p':=(d.s.ak.signal d.i.n d.choice all).1) (q':=[]) (fun w=>by have:=hc w;simp;omega)
 exact(h1.pass S.ht S.hw S.hn gA).kG ⟨S.hs,S.he⟩
end
end Go.SLYthncobnjdhjnoaaGreat
namespace Go.SLYthncobnjdhjnoaaGreat
open Go Go.RowKit
section
variable{k:Nat}{s0:Spc}{d:Dng}{p q:List Int}{t:bA}
theorem zr{l:List Int}(h:∀ n,fu (l.getD n 0)){i n:Nat}{x:Int}(hx:fu x):fu ((l.set i x).getD n 0):=nP hx h
theorem Eu{l:List Int}(h:∀ x∈l,fu x){i:Nat}(hi:i<l.length):fu (l.getD i 0):=h _ (List.mem_of_getElem? (getD_some hi))
theorem H6{f:gZ}{m:List Int}{i:Ins}{z:gZ×List Int}(h:kO f m i=some z)(hI:mi i)(hl:f.aD.length=8)(hr:∀ n,fu (f.aD.getD n 0))(hp:0≤f.pc∧f.pc≤256)(hm:∀ x∈m,fu x) :
  z.1.aD.length=8∧(∀ n,fu (z.1.aD.getD n 0))∧(0≤z.1.pc∧z.1.pc≤257)∧z.2.length=m.length∧ ∀ x∈z.2,fu x:=by
 have hn:=hI.n
 have hj:=hI.j
 unfold kO at h
 split at h
 ·cases h;exact⟨hl,hr,⟨hn.1,by have:=hj (.inl ‹_›);show i.n≤257;omega⟩,rfl,hm⟩
 split at h
 ·cases h
  refine⟨hl,hr,?_,rfl,hm⟩
  show 0≤(if f.q9 i.a=0 then i.n else f.pc+1)∧(if f.q9 i.a=0 then i.n else f.pc+1)≤257
  have:=hj (.inr ‹_›)
  split <;> omega
 split at h
 ·cases h
  exact⟨by show(f.aD.set _ _).length=8;rw[List.length_set];exact hl,fun n=>zr hr ⟨hn.1,hn.2⟩,by show 0≤f.pc+1∧f.pc+1≤257;omega,rfl,hm⟩
 split at h
 ·split at h
  ·cases h
   refine⟨by show(f.aD.set _ _).length=8;rw[List.length_set];exact hl,fun n=>zr hr (Eu hm ?_),by show 0≤f.pc+1∧f.pc+1≤257;omega,rfl,hm⟩
   have:=(hr i.b.toNat).1
   unfold gZ.q9 at *;omega
  ·cases h
 split at h
 ·split at h
  ·cases h
   refine⟨hl,hr,by show 0≤f.pc+1∧f.pc+1≤257;omega,by show(m.set _ _).length=_;rw[List.length_set],fun x hx=>?_⟩
   rcases List.mem_or_eq_of_mem_set hx with hx | rfl
   ·exact hm x hx
   ·exact hr _
  ·cases h
 ·cases h
  refine⟨by show(f.aD.set _ _).length=8;rw[List.length_set];exact hl,fun n=>zr hr (Gg (hr _) ?_),by show 0≤f.pc+1∧f.pc+1≤257;omega,rfl,hm⟩
  split
  ·exact⟨by decide,by decide⟩
  ·exact hr _
theorem St.told(S:St k s0 d t):de k s0 d.told [] []∧d.told.s.aA=d.s.aA∧d.told.s.mem=d.s.mem∧d.told.n=d.n∧d.told.out=d.out:=by
 unfold Dng.told
 split
 ·exact⟨S.h.tell S.ht S.hw S.hn,rfl,rfl,rfl,rfl⟩
 ·split
  ·exact⟨S.h.tell S.ht S.hw S.hn,rfl,rfl,rfl,rfl⟩
  ·exact⟨S.h,rfl,rfl,rfl,rfl⟩
theorem St.plain(S:St k s0 d t)(hpc:t.pc≤256):de k s0 d.plain [] []:=by
 have ho:=S.o
 cases hd:kO t.lU d.s.mem d.i with
 | none =>
  rw[lb S.ht hd]
  have hm:fu 18446744073709551615:=⟨by decide,by decide⟩
  split
  ·exact de.fin (d:=d.tell d.b 0 6 true) (S.h.tell S.ht S.hw S.hn) S.ht S.hw S.hs S.he hm
  ·exact de.fin (d:=d.tell d.a d.b 6 true) (S.h.tell S.ht S.hw S.hn) S.ht S.hw S.hs S.he hm
 | some z =>
  rw[iS S.ht hd]
  obtain⟨h1,e1,e2,e3,e4⟩:=S.told
  obtain⟨a1,a2,a3,a4,a5⟩:=H6 hd S.I ho.R.l ho.R.r ⟨ho.pc.1,hpc⟩ S.h.ok.me.2
  have h2:de k s0 (d.told.aT (t.mB z.1)) [] []:=h1.own (t:=t) (by rw[e1,e3];exact S.ht) ⟨a1,a2,ho.R.i,ho.R.v,ho.R.h⟩ a3 rfl rfl rfl rfl rfl
  have h3:de k s0 {d.told.aT (t.mB z.1) with s:={(d.told.aT (t.mB z.1)).s with mem:=z.2 } } [] []:=⟨h2.ok.mem (by show z.2.length=d.told.s.mem.length;rw[e2];exact a4) a5,h2.rd,h2.wk,h2.rc.of rfl rfl,h2.px⟩
  have e5:({d.told with s:={d.told.s.aT d.n (t.mB z.1) with mem:=z.2 } }:Dng) = {d.told.aT (t.mB z.1) with s:={(d.told.aT (t.mB z.1)).s with mem:=z.2 } }:=by
   rw[← e3];rfl
  rw[e5];exact h3
theorem St.spawn(S:St k s0 d t)(hk:k≤1000000):de (k+1) s0 d.spawn [] []:=by
 have hb:=S.b
 have hok:=S.h.ok.begin hk (f:=d.i.n) hb
 have hrd:=S.h.rd
 unfold Dng.spawn
 simp only
 cases hf:slotFree? d.s.table 0 with
 | none =>
  have e:d.s.begin d.i.n d.b=(0,2,d.s):=js hf
  rw[e] at hok ⊢
  simp only[show ¬((2:Int)=0) from by decide,if_false]
  rw[cP (d:={d with s:=d.s,out:=d.out }) S.ht]
  have h1:de (k+1) s0 d [] []:=⟨hok,hrd,S.h.wk,S.h.rc,S.h.px⟩
  have ho:=S.o
  have h2:=h1.own S.ht (t':=t.put d.i.a 0) (ho.R.put (by decide)) ho.pc rfl rfl rfl rfl rfl
  exact h2.pass (t:=t.put d.i.a 0) (cS S.ht) S.hw S.hn (by decide)
 | some n =>
  obtain⟨t1,ht1,ht1e⟩:=tB (f:=d.i.n) (arg:=d.b) hf (by
   have:=S.h.ok.lt
   have hfr:∀ (l:List (Bool×Int)) (i n:Nat),slotFree? l i=some n→n<i+l.length:=by
    intro l
    induction l with
    | nil=>intro i n h;cases h
    | cons o l ih =>
     intro i n h
     unfold slotFree? at h
     split at h
     ·have:=ih (i+1) n h;simp only[List.length_cons];omega
     ·cases h;simp only[List.length_cons];omega
   have:=hfr _ _ _ hf
   have:=S.h.ok.ll
   omega)
  have e1:(d.s.begin d.i.n d.b).1=(n:Int):=by rw[eA hf]
  have e2:(d.s.begin d.i.n d.b).2.1=0:=by rw[eA hf]
  have e3:(d.s.begin d.i.n d.b).2.2.aA=d.s.aA.set n (some t1):=by rw[ht1e,eA hf]
  have hn:n<d.s.aA.length:=by
   have:=(List.getElem?_eq_some_iff.1 ht1).1
   rw[e3,List.length_set] at this;exact this
  have hno:d.s.aA[n]?=some none:=by
   obtain⟨x,hx⟩:=al hn
   cases x with
   | none=>exact hx
   | some u =>
    have hfr:∀ (l:List (Bool×Int)) (i n:Nat),slotFree? l i=some n→i≤n∧ ∃ o,l[n-i]?=some o∧o.1=false:=by
     intro l
     induction l with
     | nil=>intro i n h;cases h
     | cons o l ih =>
      intro i n h
      unfold slotFree? at h
      split at h
      ·obtain⟨a,o',b,c⟩:=ih (i+1) n h
       exact⟨by omega,o',by rw[show n-i=(n-(i+1))+1 from by omega];simpa using b,c⟩
      ·cases h;rename_i hb
       exact⟨Nat.le_refl _,o,by simp,by simpa using hb⟩
    obtain⟨-,o,ho,ho1⟩:=hfr _ _ _ hf
    rw[Nat.sub_zero] at ho
    have:=(S.h.ok.us n (S.h.ok.lt ▸ hn)).2 ⟨u,hx⟩
    rw[List.getD_eq_getElem?_getD,ho] at this
    rw[show(Option.getD (some o) (false,(0:Int)))=o from rfl,ho1] at this
    cases this
  have hne:n≠d.n:=fun e=>by rw[e,S.ht] at hno;cases hno
  have ht2:(d.s.begin d.i.n d.b).2.2.aA[d.n]?=some (some t):=by rw[e3,List.getElem?_set_ne hne];exact S.ht
  rw[e2,e1]
  simp only[if_true,Int.toNat_natCast]
  rw[dC ht1]
  have h1:de (k+1) s0 {d with s:=(d.s.begin d.i.n d.b).2.2,out:={d.out with aw:=d.out.aw++[(n:Int)] } } [] []:=⟨hok,fun w=>by
   have h2:=hrd w
   rw[if_neg (by rw[S.hs,S.he];simp)] at h2
   show dq (d.s.begin d.i.n d.b).2.2 w+(if (d.out.aK=true∨d.out.ended=true)∧w=(d.n:Int) then 1 else 0)=dq s0 w+(d.out.aw++[(n:Int)]).count w
   rw[if_neg (by rw[S.hs,S.he];simp),List.count_append,mP]
   have h3:dq (d.s.begin d.i.n d.b).2.2 w=if w=(n:Int) then 1 else dq d.s w:=by
    unfold dq
    have:=mM (s:=d.s) (n:=n) (o:=some t1) hn w
    rw[show(d.s.begin d.i.n d.b).2.2.at w=({d.s with aA:=d.s.aA.set n (some t1) }:Spc).at w from by unfold Spc.at;rw[e3],this]
    split
    ·rw[cZ,ht1e];exact if_pos rfl
    ·rfl
   rw[h3]
   have h4:dq d.s (n:Int)=0:=by unfold dq;rw[mL,hno];rfl
   by_cases e:w=(n:Int)
   ·rw[if_pos e,km e.symm];rw[e] at h2 ⊢;omega
   ·rw[if_neg e,dS (fun h=>e h.symm)];omega,fun w hw=>by
   have hw:w∈d.out.aw++[(n:Int)]:=hw
   rcases List.mem_append.1 hw with hw | hw
   ·exact S.h.wk w hw
   ·rw[List.mem_singleton] at hw
    subst hw
    have h2:=hrd (n:Int)
    rw[if_neg (by rw[S.hs,S.he];simp)] at h2
    have h4:dq d.s (n:Int)=0:=by unfold dq;rw[mL,hno];rfl
    omega,S.h.rc.begin S.h.ok |>.of rfl rfl |> fun h=>(by
   show dD (d.s.begin d.i.n d.b).2.2 ((d.s.begin d.i.n d.b).2.2.aB++d.ends)
   rw[iC];exact h),by show s0.aB <+: (d.s.begin d.i.n d.b).2.2.aB;rw[iC];exact S.h.px⟩
  rw[cP (d:={d with s:=(d.s.begin d.i.n d.b).2.2,out:={d.out with aw:=d.out.aw++[(n:Int)] } }) ht2]
  have ho:=h1.ok.th d.n t ht2
  have hh1:=h1.ok.th n t1 ht1
  have h2:=h1.own ht2 (t':=t.put d.i.a t1.handle) (ho.R.put hh1.R.h) ho.pc rfl rfl rfl rfl rfl
  exact h2.pass (t:=t.put d.i.a t1.handle) (cS ht2) S.hw S.hn (by decide)
theorem de.other(h:de k s0 d p q){m:Nat}{u u':bA}(hu:d.s.aA[m]?=some (some u))(hh:HZ (d.s.table.getD m (false,0)) m u')(hhd:u'.handle=u.handle)(hop:u'.op=u.op)(hw:u'.cE=u.cE){q':List Int}(e:∀ w,jn w (some u')+q.count w=jn w (some u)+q'.count w):de k s0 {d with s:=d.s.aT m u' } p q':=by
 refine⟨h.ok.aT hu hh (fun w=>?_),fun w=>?_,h.wk,h.rc.aT hu hhd (by unfold bT;rw[hw]) (fun _=>hop),h.px⟩
 ·have e1:bT u'=bT u:=by unfold bT;rw[hw]
  have:=e w
  rw[e1];omega
 ·have h1:=h.rd w
  show dq (d.s.aT m u') w+_=_
  have:dq (d.s.aT m u') w=dq d.s w:=by
   rw[lg hu]
   split
   ·rename_i e;rw[e,mO hu,cZ,cZ,hw]
   ·rfl
  rw[this];exact h1
theorem tH(h:Ok k d.s p q)(x:Int)(m:Nat)(e:bo d.s.table x=some m):∃ u,d.s.aA[m]?=some (some u):=by
 obtain⟨h1,h2,h3,h4⟩:=AG e
 exact(h.us m (h.ll ▸ h1)).1 h3
theorem pQ(h:Ok k d.s p q){x:Int}(e:(d.other x).2=0):∃ m u,(d.other x).1=m∧m≠d.n∧d.s.aA[m]?=some (some u)∧u.bB=false∧u.av = -1:=by
 cases hf:bo d.s.table x with
 | none=>rw[rp hf] at e;cases e
 | some m =>
  obtain⟨u,hu⟩:=tH h x m hf
  by_cases h1:m=d.n∨u.bB=true
  ·rw[ke hf hu h1] at e;cases e
  ·by_cases h2:u.av = -1
   ·exact⟨m,u,by rw[rq hf hu h1 h2],fun h=>h1 (.inl h),hu,by cases hd:u.bB with | false=>rfl | true=>exact absurd (.inr hd) h1,h2⟩
   ·rw[mH hf hu h1 h2] at e;cases e
theorem xA{s:Spc}{n m:Nat}{u:bA}(h:s.aA[m]?=some (some u))(hne:n≠m):(s.free n).aA[m]?=some (some u):=by
 unfold Spc.free;simp only;rw[List.getElem?_set_ne hne];exact h
theorem St.fq(S:St k s0 d t):de k s0 d.fq [] []:=by
 unfold Dng.fq
 simp only
 split
 ·exact S.pass nQ
 ·rename_i e
  obtain⟨m,u,e1,hne,hu,hd,hj⟩:=pQ S.h.ok (Decidable.not_not.mp e)
  have hOu:=S.h.ok.th m u hu
  rw[e1,dC hu]
  split
  ·rename_i h9
   exact(S.h.free hu h9).pass (t:=t) (xA S.ht hne) S.hw S.hn (by decide)
  ·exact(S.h.other hu (u':={u with bB:=true }) ⟨hOu.h,⟨hOu.R.l,hOu.R.r,hOu.R.i,hOu.R.v,hOu.R.h⟩,hOu.pc,fun _=>hj,hOu.f⟩ rfl rfl rfl (fun w=>rfl)).pass (t:=t) (eW S.ht hne) S.hw S.hn (by decide)
theorem St.join(S:St k s0 d t):de k s0 d.join [] []:=by
 have ho:=S.o
 unfold Dng.join
 simp only
 split
 ·exact S.pass nQ
 ·rename_i e
  obtain⟨m,u,e1,hne,hu,hd,hj⟩:=pQ S.h.ok (Decidable.not_not.mp e)
  have hOu:=S.h.ok.th m u hu
  rw[e1,dC hu]
  split
  ·rename_i h9
   rw[cP S.ht]
   have h1:=S.h.own S.ht (t':=t.put d.i.a u.value) (ho.R.put hOu.R.v) ho.pc rfl rfl rfl rfl rfl
   have hu2:(d.aT (t.put d.i.a u.value)).s.aA[m]?=some (some u):=eW hu (Ne.symm hne)
   exact(h1.free hu2 h9).pass (t:=t.put d.i.a u.value) (xA (cS S.ht) hne) S.hw S.hn (by decide)
  ·rename_i h9
   have h1:de k s0 {d with s:=d.s.aT m {u with av:=d.n } } [] [(d.n:Int)]:=S.h.other hu (u':={u with av:=d.n }) ⟨hOu.h,⟨hOu.R.l,hOu.R.r,hOu.R.i,hOu.R.v,hOu.R.h⟩,hOu.pc,fun e=>absurd (show u.bB=true from e) (by rw[hd];simp),fun e=>absurd (show u.cE=9 from e) h9⟩ rfl rfl rfl (fun w=>by
    rw[gf,gf,hj,if_neg (show ¬((-1:Int)=w∧¬w = -1) from fun h=>h.2 h.1.symm),mP]
    unfold b2
    by_cases e:(d.n:Int)=w
    ·rw[if_pos (show(d.n:Int)=w∧¬w = -1 from⟨e,by omega⟩),if_pos e];simp
    ·rw[if_neg (show ¬((d.n:Int)=w∧¬w = -1) from fun h=>e h.1),if_neg e];simp)
   exact h1.block (eW S.ht hne) S.hw S.hn S.hs S.he ⟨by decide,by decide⟩ (by have:=S.I.a;omega)
end
end Go.SLYthncobnjdhjnoaaGreat
