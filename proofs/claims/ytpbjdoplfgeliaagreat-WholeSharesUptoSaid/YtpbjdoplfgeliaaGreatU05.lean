/- Walks. Conditions: none. -/
import Derived.Test.YtpbjdoplfgeliaaGreatU04
import Derived.Laws.StructEq
import Derived.Test.YtpbjdoplfgeliaaGreatU03
namespace Go.SLYtpbjdoplfgeliaaGreat
open Go Go.RowKit
section
variable{k:Nat}{s0:Spc}{d:Dng}{p q:List Int}{t:bI}
theorem Cb{l:List Int}(h:∀ n,fK (l.getD n 0)){i n:Nat}{x:Int}(hx:fK x):fK ((l.set i x).getD n 0):=pN hx h
theorem HF{l:List Int}(h:∀ x∈l,fK x){i:Nat}(hi:i<l.length):fK (l.getD i 0):=h _ (List.mem_of_getElem? (getD_some hi))
theorem Mj{f:iZ}{m:List Int}{i:Ins}{z:iZ×List Int}(h:mB f m i=some z)(hI:oa i)(hl:f.aE.length=8)(hr:∀ n,fK (f.aE.getD n 0))(hp:0≤f.pc∧f.pc≤256)(hm:∀ x∈m,fK x) :
  z.1.aE.length=8∧(∀ n,fK (z.1.aE.getD n 0))∧(0≤z.1.pc∧z.1.pc≤257)∧z.2.length=m.length∧ ∀ x∈z.2,fK x:=by
 have hn:=hI.n
 have hj:=hI.j
 unfold mB at h
 split at h
 ·cases h;exact⟨hl,hr,⟨hn.1,by have:=hj (.inl ‹_›);show i.n≤257;omega⟩,rfl,hm⟩
 split at h
 ·cases h
  refine⟨hl,hr,?_,rfl,hm⟩
  show 0≤(if f.tR i.a=0 then i.n else f.pc+1)∧(if f.tR i.a=0 then i.n else f.pc+1)≤257
  have:=hj (.inr ‹_›)
  split <;> omega
 split at h
 ·cases h
  exact⟨by show(f.aE.set _ _).length=8;rw[List.length_set];exact hl,fun n=>Cb hr ⟨hn.1,hn.2⟩,by show 0≤f.pc+1∧f.pc+1≤257;omega,rfl,hm⟩
 split at h
 ·split at h
  ·cases h
   refine⟨by show(f.aE.set _ _).length=8;rw[List.length_set];exact hl,fun n=>Cb hr (HF hm ?_),by show 0≤f.pc+1∧f.pc+1≤257;omega,rfl,hm⟩
   have:=(hr i.b.toNat).1
   unfold iZ.tR at *;omega
  ·cases h
 split at h
 ·split at h
  ·cases h
   refine⟨hl,hr,by show 0≤f.pc+1∧f.pc+1≤257;omega,by show(m.set _ _).length=_;rw[List.length_set],fun x hx=>?_⟩
   rcases List.mem_or_eq_of_mem_set hx with hx | rfl
   ·exact hm x hx
   ·exact hr _
  ·cases h
 ·cases h
  refine⟨by show(f.aE.set _ _).length=8;rw[List.length_set];exact hl,fun n=>Cb hr (J7 (hr _) ?_),by show 0≤f.pc+1∧f.pc+1≤257;omega,rfl,hm⟩
  split
  ·exact⟨by decide,by decide⟩
  ·exact hr _
theorem St.told(S:St k s0 d t):dG k s0 d.told [] []∧d.told.s.aF=d.s.aF∧d.told.s.mem=d.s.mem∧d.told.n=d.n∧d.told.out=d.out:=by
 unfold Dng.told
 split
 ·exact⟨S.h.tell S.ht S.hw S.hn,rfl,rfl,rfl,rfl⟩
 ·split
  ·exact⟨S.h.tell S.ht S.hw S.hn,rfl,rfl,rfl,rfl⟩
  ·exact⟨S.h,rfl,rfl,rfl,rfl⟩
theorem St.plain(S:St k s0 d t)(hpc:t.pc≤256):dG k s0 d.plain [] []:=by
 have ho:=S.o
 cases hd:mB t.nE d.s.mem d.i with
 | none =>
  rw[mW S.ht hd]
  have hm:fK 18446744073709551615:=⟨by decide,by decide⟩
  split
  ·exact dG.fin (d:=d.tell d.b 0 6 true) (S.h.tell S.ht S.hw S.hn) S.ht S.hw S.hs S.he hm
  ·exact dG.fin (d:=d.tell d.a d.b 6 true) (S.h.tell S.ht S.hw S.hn) S.ht S.hw S.hs S.he hm
 | some z =>
  rw[j9 S.ht hd]
  obtain⟨h1,e1,e2,e3,e4⟩:=S.told
  obtain⟨a1,a2,a3,a4,a5⟩:=Mj hd S.I ho.R.l ho.R.r ⟨ho.pc.1,hpc⟩ S.h.ok.me.2
  have h2:dG k s0 (d.told.aX (t.oy z.1)) [] []:=h1.own (t:=t) (by rw[e1,e3];exact S.ht) ⟨a1,a2,ho.R.i,ho.R.v,ho.R.h⟩ a3 rfl rfl rfl rfl rfl
  have h3:dG k s0 {d.told.aX (t.oy z.1) with s:={(d.told.aX (t.oy z.1)).s with mem:=z.2 } } [] []:=⟨h2.ok.mem (by show z.2.length=d.told.s.mem.length;rw[e2];exact a4) a5,h2.rd,h2.wk,h2.rc.of rfl rfl,h2.px⟩
  have e5:({d.told with s:={d.told.s.aX d.n (t.oy z.1) with mem:=z.2 } }:Dng) = {d.told.aX (t.oy z.1) with s:={(d.told.aX (t.oy z.1)).s with mem:=z.2 } }:=by
   rw[← e3];rfl
  rw[e5];exact h3
theorem St.spawn(S:St k s0 d t)(hk:k≤1000000):dG (k+1) s0 d.spawn [] []:=by
 have hb:=S.b
 have hok:=S.h.ok.begin hk (f:=d.i.n) hb
 have hrd:=S.h.rd
 unfold Dng.spawn
 simp only
 cases hf:slotFree? d.s.table 0 with
 | none =>
  have e:d.s.begin d.i.n d.b=(0,2,d.s):=kH hf
  rw[e] at hok ⊢
  simp only[show ¬((2:Int)=0) from by decide,if_false]
  rw[dj (d:={d with s:=d.s,out:=d.out }) S.ht]
  have h1:dG (k+1) s0 d [] []:=⟨hok,hrd,S.h.wk,S.h.rc,S.h.px⟩
  have ho:=S.o
  have h2:=h1.own S.ht (t':=t.put d.i.a 0) (ho.R.put (by decide)) ho.pc rfl rfl rfl rfl rfl
  exact h2.pass (t:=t.put d.i.a 0) (dp S.ht) S.hw S.hn (by decide)
 | some n =>
  obtain⟨t1,ht1,ht1e⟩:=wJ (f:=d.i.n) (arg:=d.b) hf (by
   have:=S.h.ok.lt
   have hfr:∀ (l:List (Bool×Int)) (i n:Nat),slotFree? l i=some n→n<i+l.length:=by
    intro l
    induction l with
    | nil=>intro i n h;cases h
    | cons o l ih =>
     intro i n h
     unfold slotFree? at h
     split at h
     ·have:=ih (i+1) n h;simp only[List.length_cons];omega
     ·cases h;simp only[List.length_cons];omega
   have:=hfr _ _ _ hf
   have:=S.h.ok.ll
   omega)
  have e1:(d.s.begin d.i.n d.b).1=(n:Int):=by rw[fc hf]
  have e2:(d.s.begin d.i.n d.b).2.1=0:=by rw[fc hf]
  have e3:(d.s.begin d.i.n d.b).2.2.aF=d.s.aF.set n (some t1):=by rw[ht1e,fc hf]
  have hn:n<d.s.aF.length:=by
   have:=(List.getElem?_eq_some_iff.1 ht1).1
   rw[e3,List.length_set] at this;exact this
  have hno:d.s.aF[n]?=some none:=by
   obtain⟨x,hx⟩:=ai hn
   cases x with
   | none=>exact hx
   | some u =>
    have hfr:∀ (l:List (Bool×Int)) (i n:Nat),slotFree? l i=some n→i≤n∧ ∃ o,l[n-i]?=some o∧o.1=false:=by
     intro l
     induction l with
     | nil=>intro i n h;cases h
     | cons o l ih =>
      intro i n h
      unfold slotFree? at h
      split at h
      ·obtain⟨a,o',b,c⟩:=ih (i+1) n h
       exact⟨by omega,o',by rw[show n-i=(n-(i+1))+1 from by omega];simpa using b,c⟩
      ·cases h;rename_i hb
       exact⟨Nat.le_refl _,o,by simp,by simpa using hb⟩
    obtain⟨-,o,ho,ho1⟩:=hfr _ _ _ hf
    rw[Nat.sub_zero] at ho
    have:=(S.h.ok.us n (S.h.ok.lt ▸ hn)).2 ⟨u,hx⟩
    rw[List.getD_eq_getElem?_getD,ho] at this
    rw[show(Option.getD (some o) (false,(0:Int)))=o from rfl,ho1] at this
    cases this
  have hne:n≠d.n:=fun e=>by rw[e,S.ht] at hno;cases hno
  have ht2:(d.s.begin d.i.n d.b).2.2.aF[d.n]?=some (some t):=by rw[e3,List.getElem?_set_ne hne];exact S.ht
  rw[e2,e1]
  simp only[if_true,Int.toNat_natCast]
  rw[dS ht1]
  have h1:dG (k+1) s0 {d with s:=(d.s.begin d.i.n d.b).2.2,out:={d.out with av:=d.out.av++[(n:Int)] } } [] []:=⟨hok,fun w=>by
   have h2:=hrd w
   rw[if_neg (by rw[S.hs,S.he];simp)] at h2
   show c0 (d.s.begin d.i.n d.b).2.2 w+(if (d.out.aQ=true∨d.out.ended=true)∧w=(d.n:Int) then 1 else 0)=c0 s0 w+(d.out.av++[(n:Int)]).count w
   rw[if_neg (by rw[S.hs,S.he];simp),List.count_append,oO]
   have h3:c0 (d.s.begin d.i.n d.b).2.2 w=if w=(n:Int) then 1 else c0 d.s w:=by
    unfold c0
    have:=oL (s:=d.s) (n:=n) (o:=some t1) hn w
    rw[show(d.s.begin d.i.n d.b).2.2.at w=({d.s with aF:=d.s.aF.set n (some t1) }:Spc).at w from by unfold Spc.at;rw[e3],this]
    split
    ·rw[du,ht1e];exact if_pos rfl
    ·rfl
   rw[h3]
   have h4:c0 d.s (n:Int)=0:=by unfold c0;rw[oK,hno];rfl
   by_cases e:w=(n:Int)
   ·rw[if_pos e,lO e.symm];rw[e] at h2 ⊢;omega
   ·rw[if_neg e,ey (fun h=>e h.symm)];omega,fun w hw=>by
   have hw:w∈d.out.av++[(n:Int)]:=hw
   rcases List.mem_append.1 hw with hw | hw
   ·exact S.h.wk w hw
   ·rw[List.mem_singleton] at hw
    subst hw
    have h2:=hrd (n:Int)
    rw[if_neg (by rw[S.hs,S.he];simp)] at h2
    have h4:c0 d.s (n:Int)=0:=by unfold c0;rw[oK,hno];rfl
    omega,S.h.rc.begin S.h.ok |>.of rfl rfl |> fun h=>(by
   show ee (d.s.begin d.i.n d.b).2.2 ((d.s.begin d.i.n d.b).2.2.aA++d.ends)
   rw[jK];exact h),by show s0.aA <+: (d.s.begin d.i.n d.b).2.2.aA;rw[jK];exact S.h.px⟩
  rw[dj (d:={d with s:=(d.s.begin d.i.n d.b).2.2,out:={d.out with av:=d.out.av++[(n:Int)] } }) ht2]
  have ho:=h1.ok.th d.n t ht2
  have hh1:=h1.ok.th n t1 ht1
  have h2:=h1.own ht2 (t':=t.put d.i.a t1.handle) (ho.R.put hh1.R.h) ho.pc rfl rfl rfl rfl rfl
  exact h2.pass (t:=t.put d.i.a t1.handle) (dp ht2) S.hw S.hn (by decide)
theorem dG.other(h:dG k s0 d p q){m:Nat}{u u':bI}(hu:d.s.aF[m]?=some (some u))(hh:Me (d.s.table.getD m (false,0)) m u')(hhd:u'.handle=u.handle)(hop:u'.op=u.op)(hw:u'.cS=u.cS){q':List Int}(e:∀ w,jn w (some u')+q.count w=jn w (some u)+q'.count w):dG k s0 {d with s:=d.s.aX m u' } p q':=by
 refine⟨h.ok.aX hu hh (fun w=>?_),fun w=>?_,h.wk,h.rc.aX hu hhd (by unfold bT;rw[hw]) (fun _=>hop),h.px⟩
 ·have e1:bT u'=bT u:=by unfold bT;rw[hw]
  have:=e w
  rw[e1];omega
 ·have h1:=h.rd w
  show c0 (d.s.aX m u') w+_=_
  have:c0 (d.s.aX m u') w=c0 d.s w:=by
   rw[mY hu]
   split
   ·rename_i e;rw[e,oN hu,du,du,hw]
   ·rfl
  rw[this];exact h1
theorem wP(h:Ok k d.s p q)(x:Int)(m:Nat)(e:bC d.s.table x=some m):∃ u,d.s.aF[m]?=some (some u):=by
 obtain⟨h1,h2,h3,h4⟩:=Dl e
 exact(h.us m (h.ll ▸ h1)).1 h3
theorem rV(h:Ok k d.s p q){x:Int}(e:(d.other x).2=0):∃ m u,(d.other x).1=m∧m≠d.n∧d.s.aF[m]?=some (some u)∧u.bN=false∧u.ay = -1:=by
 cases hf:bC d.s.table x with
 | none=>rw[ue hf] at e;cases e
 | some m =>
  obtain⟨u,hu⟩:=wP h x m hf
  by_cases h1:m=d.n∨u.bN=true
  ·rw[lK hf hu h1] at e;cases e
  ·by_cases h2:u.ay = -1
   ·exact⟨m,u,by rw[uf hf hu h1 h2],fun h=>h1 (.inl h),hu,by cases hd:u.bN with | false=>rfl | true=>exact absurd (.inr hd) h1,h2⟩
   ·rw[oG hf hu h1 h2] at e;cases e
theorem Aw{s:Spc}{n m:Nat}{u:bI}(h:s.aF[m]?=some (some u))(hne:n≠m):(s.free n).aF[m]?=some (some u):=by
 unfold Spc.free;simp only;rw[List.getElem?_set_ne hne];exact h
theorem St.fW(S:St k s0 d t):dG k s0 d.fW [] []:=by
 unfold Dng.fW
 simp only
 split
 ·exact S.pass pO
 ·rename_i e
  obtain⟨m,u,e1,hne,hu,hd,hj⟩:=rV S.h.ok (Decidable.not_not.mp e)
  have hOu:=S.h.ok.th m u hu
  rw[e1,dS hu]
  split
  ·rename_i h9
   exact(S.h.free hu h9).pass (t:=t) (Aw S.ht hne) S.hw S.hn (by decide)
  ·exact(S.h.other hu (u':={u with bN:=true }) ⟨hOu.h,⟨hOu.R.l,hOu.R.r,hOu.R.i,hOu.R.v,hOu.R.h⟩,hOu.pc,fun _=>hj,hOu.f⟩ rfl rfl rfl (fun w=>rfl)).pass (t:=t) (fC S.ht hne) S.hw S.hn (by decide)
theorem St.join(S:St k s0 d t):dG k s0 d.join [] []:=by
 have ho:=S.o
 unfold Dng.join
 simp only
 split
 ·exact S.pass pO
 ·rename_i e
  obtain⟨m,u,e1,hne,hu,hd,hj⟩:=rV S.h.ok (Decidable.not_not.mp e)
  have hOu:=S.h.ok.th m u hu
  rw[e1,dS hu]
  split
  ·rename_i h9
   rw[dj S.ht]
   have h1:=S.h.own S.ht (t':=t.put d.i.a u.value) (ho.R.put hOu.R.v) ho.pc rfl rfl rfl rfl rfl
   have hu2:(d.aX (t.put d.i.a u.value)).s.aF[m]?=some (some u):=fC hu (Ne.symm hne)
   exact(h1.free hu2 h9).pass (t:=t.put d.i.a u.value) (Aw (dp S.ht) hne) S.hw S.hn (by decide)
  ·rename_i h9
   have h1:dG k s0 {d with s:=d.s.aX m {u with ay:=d.n } } [] [(d.n:Int)]:=S.h.other hu (u':={u with ay:=d.n }) ⟨hOu.h,⟨hOu.R.l,hOu.R.r,hOu.R.i,hOu.R.v,hOu.R.h⟩,hOu.pc,fun e=>absurd (show u.bN=true from e) (by rw[hd];simp),fun e=>absurd (show u.cS=9 from e) h9⟩ rfl rfl rfl (fun w=>by
    rw[gQ,gQ,hj,if_neg (show ¬((-1:Int)=w∧¬w = -1) from fun h=>h.2 h.1.symm),oO]
    unfold b2
    by_cases e:(d.n:Int)=w
    ·rw[if_pos (show(d.n:Int)=w∧¬w = -1 from⟨e,by omega⟩),if_pos e];simp
    ·rw[if_neg (show ¬((d.n:Int)=w∧¬w = -1) from fun h=>e h.1),if_neg e];simp)
   exact h1.block (fC S.ht hne) S.hw S.hn S.hs S.he ⟨by decide,by decide⟩ (by have:=S.I.a;omega)
end
end Go.SLYtpbjdoplfgeliaaGreat
namespace Go.SLYtpbjdoplfgeliaaGreat
open Go Go.RowKit
theorem Mk:fK 0:=⟨by decide,by decide⟩
theorem vP{l:List Int}{w:Int}(h:l.count w=0):l.contains w=false:=by
 cases e:l.contains w with
 | false=>rfl
 | true =>
  have:w∈l:=by simpa using e
  have:=List.count_pos_iff.2 this
  omega
theorem um{u:Tub}{n:Int}(h:cU n u=0):u.waits n=false:=by
 unfold cU at h
 unfold Tub.waits
 rw[vP (by omega),Bool.false_or,List.any_eq_false]
 intro x hx e
 have:0<u.hZ.countP fun x=>decide (x.who=n):=List.countP_pos_iff.2 ⟨x,hx,e⟩
 omega
theorem eB{l:List Int}{x w:Int}:(x::l).count w=l.count w+b2 (x=w):=by rw[List.count_cons];unfold b2;simp
theorem HG{l:List Ptr}{a b w:Int}:(l++[(⟨a,b⟩:Ptr)]).countP (fun x:Ptr=>decide (x.who=w))=l.countP (fun x=>decide (x.who=w))+b2 (a=w):=by
 rw[List.countP_append];unfold b2;simp[List.countP_cons]
theorem EX{l:List Ptr}{x:Ptr}{w:Int}:(x::l).countP (fun x=>decide (x.who=w))=l.countP (fun x=>decide (x.who=w))+b2 (x.who=w):=by
 rw[List.countP_cons];unfold b2;simp
theorem Nr{u:Tub}(h:Lg u){n x:Int}(hx:fK x)(hw:u.waits n=false):Lg (u.put n x).2.2.2∧ ∀ w,cU w (u.put n x).2.2.2+b2 ((u.put n x).2.2.1=true∧(u.put n x).2.1=w)=cU w u+b2 ((u.put n x).1=false∧n=w):=by
 cases hg:u.gM with
 | cons a r =>
  rw[sK hw hg]
  refine⟨⟨h.r,h.l,h.w,h.p⟩,fun w=>?_⟩
  have e1:b2 (true=true∧a=w)=b2 (a=w):=by unfold b2;simp
  rw[ey (q:=true=false∧n=w) (by rintro⟨a, -⟩;cases a),e1]
  unfold cU
  rw[hg,eB];simp only;omega
 | nil =>
  by_cases hr:(u.words.length:Int)<u.room
  ·rw[pH hw hg hr]
   refine⟨⟨h.r,?_,?_,h.p⟩,fun w=>?_⟩
   ·have:=h.r;rw[List.length_append];simp only[List.length_cons,List.length_nil];omega
   ·intro y hy
    rcases List.mem_append.1 hy with hy | hy
    ·exact h.w y hy
    ·rw[List.mem_singleton] at hy;rw[hy];exact hx
   ·rw[ey (q:=true=false∧n=w) (by rintro⟨a, -⟩;cases a),ey (q:=false=true∧(0:Int)=w) (by rintro⟨a, -⟩;cases a)];rfl
  ·rw[pI hw hg hr]
   refine⟨⟨h.r,h.l,h.w,fun y hy=>?_⟩,fun w=>?_⟩
   ·rcases List.mem_append.1 hy with hy | hy
    ·exact h.p y hy
    ·rw[List.mem_singleton] at hy;rw[hy];exact hx
   ·have e1:b2 (false=false∧n=w)=b2 (n=w):=by unfold b2;simp
    rw[ey (q:=false=true∧(0:Int)=w) (by rintro⟨a, -⟩;cases a),e1]
    unfold cU
    rw[HG];simp only;omega
theorem Ns{u:Tub}(h:Lg u){n:Int}(hw:u.waits n=false):Lg (u.get n).2.2.2.2∧fK (u.get n).1∧ ∀ w,cU w (u.get n).2.2.2.2+b2 ((u.get n).2.2.2.1=true∧(u.get n).2.2.1=w)=cU w u+b2 ((u.get n).2.1=false∧n=w):=by
 have n1:∀ w,b2 (true=false∧n=w)=0:=fun w=>ey (by rintro⟨a, -⟩;cases a)
 have n2:∀ w,b2 (false=true∧(0:Int)=w)=0:=fun w=>ey (by rintro⟨a, -⟩;cases a)
 cases hg:u.words with
 | nil =>
  rw[get_none hw hg]
  refine⟨⟨h.r,h.l,h.w,h.p⟩,Mk,fun w=>?_⟩
  have e1:b2 (false=false∧n=w)=b2 (n=w):=by unfold b2;simp
  rw[n2,e1]
  unfold cU
  rw[List.count_append,oO];simp only;omega
 | cons x r =>
  have hwx:=h.w x (by rw[hg];exact List.mem_cons_self)
  have hwr:∀ y∈r,fK y:=fun y hy=>h.w y (by rw[hg];exact List.mem_cons_of_mem _ hy)
  have hl:=h.l
  rw[hg,List.length_cons] at hl
  cases hp:u.hZ with
  | nil =>
   rw[pJ hw hg hp]
   refine⟨⟨h.r,by show r.length≤8;omega,hwr,h.p⟩,hwx,fun w=>?_⟩
   rw[n1,n2];rfl
  | cons y q =>
   rw[pK hw hg hp]
   refine⟨⟨h.r,?_,?_,fun z hz=>h.p z (by rw[hp];exact List.mem_cons_of_mem _ hz)⟩,hwx,fun w=>?_⟩
   ·show(r++[y.x]).length≤8
    rw[List.length_append];simp only[List.length_cons,List.length_nil];omega
   ·intro z hz
    rcases List.mem_append.1 hz with hz | hz
    ·exact hwr z hz
    ·rw[List.mem_singleton] at hz;rw[hz];exact h.p y (by rw[hp];exact List.mem_cons_self)
   ·have e1:b2 (true=true∧y.who=w)=b2 (y.who=w):=by unfold b2;simp
    rw[n1,e1]
    unfold cU
    rw[hp,EX];simp only;omega
theorem Ml{d:lj}{r:wh}{w:Int}:cD {d with wait:=d.wait++[r] } w=cD d w+b2 (r.who=w):=by
 unfold cD;rw[List.countP_append];unfold b2;simp[List.countP_cons]
theorem Nt{d:lj}(h:B8 d){r:wh}(hx:fK r.x)(hw:cD d r.who=0):B8 (d.ask r).2∧ ∀ w,cD (d.ask r).2 w=cD d w+b2 ((d.ask r).1=0∧r.who=w):=by
 cases hb:(decide (r.block<0) || decide ((d.blocks.length:Int)≤r.block)) with
 | true =>
  rw[Du hb]
  exact⟨h,fun w=>by rw[ey (fun h=>d1 h.1)];rfl⟩
 | false =>
  have hn:d.wait.any (fun x=>decide (x.who=r.who))=false:=by
   rw[List.any_eq_false]
   intro x hx e
   have:0<cD d r.who:=List.countP_pos_iff.2 ⟨x,hx,e⟩
   omega
  rw[G9 hb hn]
  refine⟨⟨h.l,h.b,fun y hy=>?_⟩,fun w=>?_⟩
  ·rcases List.mem_append.1 hy with hy | hy
   ·exact h.w y hy
   ·rw[List.mem_singleton] at hy
    subst hy
    simp only[Bool.or_eq_false_iff,decide_eq_false_iff_not] at hb
    exact⟨by omega,by show _<(d.blocks.length:Int);omega,hx⟩
  ·rw[Ml]
   have e1:b2 ((0:Int)=0∧r.who=w)=b2 (r.who=w):=by unfold b2;simp
   rw[e1]
theorem Mm{l:List (Int×Int)}{n v w:Int}(h:l.countP (fun x=>decide (x.1=n))=0):(mapSet l n v).countP (fun x=>decide (x.1=w))=l.countP (fun x=>decide (x.1=w))+b2 (n=w):=by
 induction l with
 | nil=>unfold mapSet b2;simp[List.countP_cons]
 | cons a l ih =>
  rw[List.countP_cons] at h
  have ha:¬a.1=n:=fun e=>by rw[if_pos (by simpa using e)] at h;omega
  unfold mapSet
  rw[if_neg ha,List.countP_cons,List.countP_cons,ih (by omega)]
  omega
theorem Ax{l:List (Int×Int)}{n:Int}(h:l.countP (fun x=>decide (x.1=n))=0):mJ l n=none:=by
 unfold mJ
 rw[List.find?_eq_none.2]
 ·rfl
 ·intro x hx e
  have:0<l.countP (fun x=>decide (x.1=n)):=List.countP_pos_iff.2 ⟨x,hx,e⟩
  omega
theorem Kb{u:mu}(h:0≤u.now∧u.now≤1099511627776){n x:Int}(hx:1≤x∧x≤1099511627776)(hz:cL u n=0):(0≤(u.sleep n x).2.now∧(u.sleep n x).2.now≤1099511627776)∧ ∀ w,cL (u.sleep n x).2 w=cL u w+b2 (n=w):=by
 unfold mu.sleep
 rw[if_neg (by omega),Ax hz,if_neg (by simp)]
 exact⟨h,fun w=>Mm hz⟩
section
variable{k:Nat}{s0:Spc}{d:Dng}{p q:List Int}{t:bI}
theorem St.bW(S:St k s0 d t)(ht:d.i.n<(d.s.cj.length:Int)):d.s.cj[d.i.n.toNat]?=some d.bW∧Lg d.bW∧d.bW.waits d.n=false:=by
 have hn:=S.I.n
 have h1:d.s.cj[d.i.n.toNat]?=some d.bW:=getD_some (by omega)
 have hm:=List.mem_of_getElem? h1
 refine⟨h1,S.h.ok.tb.2 _ hm,um ?_⟩
 have h2:cU d.n d.bW≤cT d.s.cj d.n:=eI (f:=cU d.n) hm
 have:=S.zero
 unfold nV at this;omega
theorem St.put(S:St k s0 d t)(ht:d.i.n<(d.s.cj.length:Int)):dG k s0 d.put [] []:=by
 obtain⟨h1,h2,h3⟩:=S.bW ht
 obtain⟨h4,h5⟩:=Nr h2 S.a h3
 unfold Dng.put
 simp only
 split
 ·rename_i hb
  have hg:(d.bW.put d.n d.a).2.2.1=false:=by
   cases hg:d.bW.gM with
   | cons a r=>rw[sK h3 hg] at hb;cases hb
   | nil =>
    by_cases hr:(d.bW.words.length:Int)<d.bW.room
    ·rw[pH h3 hg hr] at hb;cases hb
    ·rw[pI h3 hg hr]
  have h6:=S.h.eM h1 h4 (p':=[]) (q':=[(d.n:Int)]) (fun w=>by
   have:=h5 w
   rw[ey (fun h=>by rw[hg] at h;exact absurd h.1 (by simp))] at this
   have e:b2 ((d.bW.put d.n d.a).1=false∧(d.n:Int)=w)=b2 ((d.n:Int)=w):=by unfold b2;simp[hb]
   rw[e] at this;rw[oO];simp;omega)
  exact h6.block S.ht S.hw S.hn S.hs S.he ⟨by decide,by decide⟩ (by decide)
 ·rename_i hb
  have hb:(d.bW.put d.n d.a).1=true:=by simpa using hb
  have h6:=S.h.eM h1 h4 (p':=if (d.bW.put d.n d.a).2.2.1=true then [(d.bW.put d.n d.a).2.1] else []) (q':=[]) (fun w=>by
   have:=h5 w
   rw[ey (q:=(d.bW.put d.n d.a).1=false∧_) (fun h=>by rw[hb] at h;exact absurd h.1 (by simp))] at this
   rw[Ar];simp;omega)
  have h7:=h6.pass S.ht S.hw S.hn (x:=d.i.n) (y:=d.a) (e:=0) (by decide)
  split
  ·rename_i hg
   rw[if_pos hg] at h7
   exact(h7.cq (by simp) S.a (fun _=>⟨S.hs,S.he⟩)).su (fun w=>by simp)
  ·rename_i hg
   rw[if_neg hg] at h7
   exact h7
theorem St.get(S:St k s0 d t)(ht:d.i.n<(d.s.cj.length:Int)):dG k s0 d.get [] []:=by
 have ho:=S.o
 obtain⟨h1,h2,h3⟩:=S.bW ht
 obtain⟨h4,hW,h5⟩:=Ns h2 h3
 unfold Dng.get
 simp only
 split
 ·rename_i hb
  have hg:(d.bW.get d.n).2.2.2.1=false:=by
   cases hg:d.bW.words with
   | nil=>rw[get_none h3 hg]
   | cons x r =>
    cases hp:d.bW.hZ with
    | nil=>rw[pJ h3 hg hp]
    | cons y q=>rw[pK h3 hg hp] at hb;cases hb
  have h6:=S.h.eM h1 h4 (p':=[]) (q':=[(d.n:Int)]) (fun w=>by
   have:=h5 w
   rw[ey (fun h=>by rw[hg] at h;exact absurd h.1 (by simp))] at this
   have e:b2 ((d.bW.get d.n).2.1=false∧(d.n:Int)=w)=b2 ((d.n:Int)=w):=by unfold b2;simp[hb]
   rw[e] at this;rw[oO];simp;omega)
  exact h6.block S.ht S.hw S.hn S.hs S.he ⟨by decide,by decide⟩ (by have:=S.I.a;omega)
 ·rename_i hb
  have hb:(d.bW.get d.n).2.1=true:=by simpa using hb
  have h6:=S.h.eM h1 h4 (p':=if (d.bW.get d.n).2.2.2.1=true then [(d.bW.get d.n).2.2.1] else []) (q':=[]) (fun w=>by
   have:=h5 w
   rw[ey (q:=(d.bW.get d.n).2.1=false∧_) (fun h=>by rw[hb] at h;exact absurd h.1 (by simp))] at this
   rw[Ar];simp;omega)
  rw[show(d.eM d.i.n.toNat (d.bW.get d.n).2.2.2.2).t=t from dj S.ht]
  have h8:=h6.own S.ht (t':=t.put d.i.a (d.bW.get d.n).1) (ho.R.put hW) ho.pc rfl rfl rfl rfl rfl
  have h7:=h8.pass (t:=t.put d.i.a (d.bW.get d.n).1) (dp S.ht) S.hw S.hn (x:=d.i.n) (y:=(d.bW.get d.n).1) (e:=0) (by decide)
  split
  ·rename_i hg
   rw[if_pos hg] at h7
   exact(h7.cq (by simp) ⟨by decide,by decide⟩ (fun _=>⟨S.hs,S.he⟩)).su (fun w=>by simp)
  ·rename_i hg
   rw[if_neg hg] at h7
   exact h7
theorem St.ask(S:St k s0 d t){b y i:Int}(hy:fK y)(hi : -1≤i∧i<8):dG k s0 (d.ask b y i) [] []:=by
 unfold Dng.ask
 simp only
 split
 ·have hz:cD d.s.ca d.n=0:=by have:=S.zero;unfold nV at this;omega
  obtain⟨h1,h2⟩:=Nt S.h.ok.dk (r:=⟨d.n,b,decide (d.i.op=34),y⟩) hy hz
  split
  ·rename_i he
   have h6:=S.h.dc h1 (p':=[]) (q':=[]) (fun w=>by rw[h2 w,ey (fun h=>he h.1)];rfl)
   exact h6.pass S.ht S.hw S.hn He
  ·rename_i he
   have he:=Decidable.not_not.mp he
   have h6:=S.h.dc h1 (p':=[]) (q':=[(d.n:Int)]) (fun w=>by
    rw[h2 w,oO]
    have e:b2 ((d.s.ca.ask ⟨d.n,b,decide (d.i.op=34),y⟩).1=0∧(d.n:Int)=w)=b2 ((d.n:Int)=w):=by unfold b2;simp[he]
    simp only[e];simp)
   exact h6.block S.ht S.hw S.hn S.hs S.he ⟨by decide,by decide⟩ hi
 ·exact S.pass (by decide)
theorem St.sleep(S:St k s0 d t):dG k s0 d.sleep [] []:=by
 have ha:=S.a
 unfold Dng.sleep
 simp only
 split
 ·exact S.pass (by decide)
 ·split
  ·exact S.pass (by decide)
  ·rename_i h0 h1
   have hz:cL d.s.aT d.n=0:=by have:=S.zero;unfold nV at this;omega
   obtain⟨h2,h3⟩:=Kb S.h.ok.wl (n:=d.n) (x:=d.a) ⟨by have:=ha.1;omega,by omega⟩ hz
   have h6:=S.h.wu h2 (p':=[]) (q':=[(d.n:Int)]) (fun w=>by rw[h3 w,oO];simp)
   exact h6.block S.ht S.hw S.hn S.hs S.he ⟨by decide,by decide⟩ (by decide)
theorem St.kernel(S:St k s0 d t)(ht:d.i.op=35∨d.i.op=36→d.i.n<(d.s.cj.length:Int)):dG k s0 d.kernel [] []:=by
 have hi:=S.I.a
 unfold Dng.kernel
 split
 ·exact S.ask ⟨by decide,by decide⟩ (by omega)
 split
 ·exact S.ask S.b (by decide)
 split
 ·exact S.put (ht (.inl ‹_›))
 split
 ·exact S.get (ht (.inr ‹_›))
 split
 ·exact S.sleep
 ·exact S.pass (by decide)
theorem dG.more(h:dG k s0 d p q){k':Nat}(hk:k≤k'):dG k' s0 d p q:=⟨h.ok.more hk,h.rd,h.wk,h.rc,h.px⟩
theorem St.call(S:St k s0 d t)(hk:k≤1000000)(ht:d.i.op=35∨d.i.op=36→d.i.n<(d.s.cj.length:Int)):dG (k+1) s0 d.call [] []:=by
 have ho:=S.o
 have up:∀ {e:Dng},dG k s0 e [] []→dG (k+1) s0 e [] []:=fun h=>h.more (Nat.le_succ _)
 unfold Dng.call
 simp only
 split
 ·exact S.spawn hk
 split
 ·rw[dj S.ht]
  have h1:=S.h.own S.ht (t':=t.put d.i.a t.handle) (ho.R.put ho.R.h) ho.pc rfl rfl rfl rfl rfl
  exact up (h1.pass (t:=t.put d.i.a t.handle) (dp S.ht) S.hw S.hn (by decide))
 split
 ·have h1:=S.pass (x:=0) (y:=0) (e:=0) (by decide)
  exact up ⟨h1.ok,h1.rd,h1.wk,h1.rc,h1.px⟩
 split
 ·exact up S.join
 split
 ·exact up S.fW
 split
 ·exact up (dG.fin (d:=d.tell d.a 0 0 true) (S.h.tell S.ht S.hw S.hn) S.ht S.hw S.hs S.he S.a)
 split
 ·exact up S.mutex
 split
 ·exact up S.signal
 split
 ·exact up S.ez
 ·exact up (S.kernel ht)
end
end Go.SLYtpbjdoplfgeliaaGreat
namespace Go.SLYtpbjdoplfgeliaaGreat
open Go Go.RowKit
theorem O6:∀ (n:Nat) (l:List Int),(∀ x∈l,0≤x∧x<(n:Int))→(∀ w,l.count w≤1)→l.length≤n
 | 0,l,h,_=>by
  cases l with
  | nil=>exact Nat.le_refl _
  | cons a l=>have:=h a List.mem_cons_self;omega
 | n+1,l,h,hc=>by
  have h1:=O6 n (l.filter fun x => !decide (x=(n:Int))) (fun x hx=>by
   obtain⟨a,b⟩:=List.mem_filter.1 hx
   have:=h x a
   have:¬x=(n:Int):=by simpa using b
   omega) (fun w=>Nat.le_trans (List.Sublist.count_le w List.filter_sublist) (hc w))
  have h2:=List.length_eq_countP_add_countP (fun x=>decide (x=(n:Int))) (l:=l)
  have h3:l.countP (fun x=>decide (x=(n:Int)))=l.count (n:Int):=by unfold List.count;congr 1
  rw[← List.countP_eq_length_filter] at h1
  have h4:=hc (n:Int)
  have h5:l.countP (fun x => !decide (x=(n:Int)))=l.countP (fun a=>decide ¬(decide (a=(n:Int)))=true):=by congr 1;funext x;simp
  omega
section
variable{k:Nat}{s:Spc}
theorem pU{α:Type}{f:α→Int}{l:List α}(hl:s.aF.length=16)(h:∀ w,l.countP (fun x=>decide (f x=w))≤dW s w):l.length≤16:=by
 have e:∀ w,(l.map f).count w=l.countP (fun x=>decide (f x=w)):=fun w=>by
  unfold List.count;rw[List.countP_map];congr 1
 have:=O6 16 (l.map f) (fun x hx=>by
  obtain⟨y,hy,rfl⟩:=List.mem_map.1 hx
  have h1:0<l.countP (fun x=>decide (f x=f y)):=List.countP_pos_iff.2 ⟨y,hy,by simp⟩
  obtain⟨t,ht, -, -⟩:=kc (Nat.lt_of_lt_of_le h1 (h (f y)))
  obtain⟨h0,hat⟩:=ja ht
  have:=(List.getElem?_eq_some_iff.1 hat).1
  exact⟨h0,by omega⟩) (fun w=>by rw[e];exact Nat.le_trans (h w) Hr)
 rw[List.length_map] at this;exact this
theorem m0{w:Int}(h:0<dW s w):0≤w∧ ∃ u,s.aF[w.toNat]?=some (some u):=by
 obtain⟨t,ht, -, -⟩:=kc h
 exact⟨(ja ht).1,t,(ja ht).2⟩
theorem Mn{p:gn}(hc:((((((((((0<p.funcs.length∧p.funcs.length≤8)∧0≤p.words∧p.words≤64)∧0≤p.bx∧p.bx≤4)∧0≤p.conds∧p.conds≤4)∧0≤p.blocks∧p.blocks≤64)∧0≤p.prio∧p.prio≤7)∧p.bK.length≤4)∧p.bf.length≤4)∧(p.funcs.all fun f=>decide (f.length≤256))=true)∧(p.bK.all fun n=>decide (0≤n) && decide (n≤1048576))=true)∧(p.bf.all fun n=>decide (0<n) && (decide (0≤n) && decide (n≤8)))=true){op:Int}(h:¬op=1):(bV p op).any=false∧(bV p op).n≤1000:=by
 unfold bV
 rw[if_neg h]
 repeat' split
 all_goals exact⟨rfl,by simp only;omega⟩
theorem HH{p:gn}(hc:gw p=true){i:Ins}(h:iT p i=true)(hn:fK i.n):oa i∧(cls i.op≠1→i.n≤1099511627776)∧(i.op=35∨i.op=36→i.n<(p.bf.length:Int)):=by
 unfold gw at hc
 simp only[Bool.and_eq_true,decide_eq_true_eq,within] at hc
 unfold iT at h
 split at h
 ·cases h
 ·rename_i hcl
  simp only[Bool.and_eq_true] at h
  obtain⟨⟨⟨h1,h2⟩,h3⟩,h4⟩:=h
  have hr:∀ {n:Int} {b:Bool},wg n b=true→0≤n∧n<8:=fun h=>by
   simp[wg] at h;omega
  refine⟨⟨hr h1,hr h2,?_,hn,fun hj=>?_⟩,fun hc1=>?_,fun ho=>?_⟩
  ·split at h3
   ·simp at h3;omega
   ·exact hr h3
  ·unfold Form.below at h4
   rcases hj with hj | hj
   ·rw[show bV p i.op=⟨0,false,257,false⟩ from by unfold bV;repeat (first | rw[if_pos (by omega)] | rw[if_neg (by omega)])] at h4
    simp at h4;omega
   ·rw[show bV p i.op=⟨1,false,257,false⟩ from by unfold bV;repeat (first | rw[if_pos (by omega)] | rw[if_neg (by omega)])] at h4
    simp at h4;omega
  ·have hn1:¬i.op=1:=fun e=>hc1 (by unfold cls;rw[if_pos (by omega)])
   obtain⟨g1,g2⟩:=Mn hc hn1
   unfold Form.below at h4
   rw[g1] at h4
   simp at h4
   split at h4
   ·omega
   ·have:=(by simpa using h4:_∧_).2
    omega
  ·unfold Form.below at h4
   rw[show bV p i.op=⟨1,false,p.bf.length,false⟩ from by unfold bV;repeat (first | rw[if_pos (by omega)] | rw[if_neg (by omega)])] at h4
   simp at h4
   exact h4.2
theorem Ok.aI(h:Ok k s [] [])(hk:k≤1000000)(hr:s.aA.length≤800000000):hU s:=by
 have hcap:gw s.fb=true:=by
  have:=h.DH.1;unfold dD at this
  split at this
  ·assumption
  ·cases this
 have hall:∀ f∈s.fb.funcs, ∀ i∈f,iT s.fb i=true:=by
  have:=h.DH.1;unfold dD at this
  rw[if_pos hcap] at this
  split at this
  ·rename_i ha
   intro f hf i hi
   have:=List.all_eq_true.1 (List.all_eq_true.1 ha f hf) i hi
   exact this
  ·cases this
 have hc:=hcap
 unfold gw at hc
 simp only[Bool.and_eq_true,decide_eq_true_eq,within,List.all_eq_true] at hc
 obtain⟨⟨⟨⟨⟨⟨⟨⟨⟨⟨⟨c1,c2⟩,c3⟩,c4⟩,c5⟩,c6⟩,c7⟩,c8⟩,c9⟩,c10⟩,c11⟩,c12⟩:=hc
 have hbal:∀ w,nV s w=dW s w:=fun w=>by have:=h.su w;simpa using this
 have bG:∀ w,cG s.al w≤dW s w:=fun w=>by have:=hbal w;unfold nV at this;omega
 have bU:∀ w,cT s.cj w≤dW s w:=fun w=>by have:=hbal w;unfold nV at this;omega
 have bD:∀ w,cD s.ca w≤dW s w:=fun w=>by have:=hbal w;unfold nV at this;omega
 have bL:∀ w,cL s.aT w≤dW s w:=fun w=>by have:=hbal w;unfold nV at this;omega
 have hm:∀ x∈s.al.dn,x.wait.length≤16:=fun x hx=>pU (f:=fun y:eW=>y.who) h.lt fun w=>by
  have:=eI (f:=fun m:eK=>dQ w m.wait) hx
  have:=bG w
  have e:x.wait.countP (fun y=>decide (y.who=w))=dQ w x.wait:=rfl
  unfold cG at this;omega
 have hcn:∀ x∈s.al.hJ,x.length≤16:=fun x hx=>pU (f:=fun y:eW=>y.who) h.lt fun w=>by
  have:=eI (f:=dQ w) hx
  have:=bG w
  have e:x.countP (fun y=>decide (y.who=w))=dQ w x:=rfl
  unfold cG at this;omega
 have hsm:∀ x∈s.al.ez,x.wait.length≤16:=fun x hx=>pU (f:=fun y:eW=>y.who) h.lt fun w=>by
  have:=eI (f:=fun m:k6=>dQ w m.wait) hx
  have:=bG w
  have e:x.wait.countP (fun y=>decide (y.who=w))=dQ w x.wait:=rfl
  unfold cG at this;omega
 have hug:∀ u∈s.cj, ∀ w,u.gM.count w≤dW s w∧u.hZ.countP (fun x=>decide (x.who=w))≤dW s w:=fun u hu w=>by
  have h1:cU w u≤cT s.cj w:=eI (f:=cU w) hu
  have h2:=bU w
  unfold cU at h1;exact⟨by omega,by omega⟩
 have hd16:s.ca.wait.length≤16:=pU (f:=fun r:wh=>r.who) h.lt bD
 have hw16:s.aT.ia.length≤16:=pU (f:=fun r:Int×Int=>r.1) h.lt bL
 refine⟨h.lt,⟨by rw[h.ll];decide,fun o ho=>?_⟩,fun n t e=>⟨(h.th n t e).R,(h.th n t e).pc⟩,fun x m e=>wP (d:=⟨s,0,⟨0,0,0,0,0⟩,0,lG.z,[]⟩) h x m e,fun n e=>?_,fun n t ht hw hj=>?_,hr,by rw[h.me.1];omega,⟨by rw[h.gt.m];omega,by rw[h.gt.c];omega,by rw[h.gt.s];omega,fun x hx=>Nat.le_trans (hm x hx) (by decide),fun x hx=>Nat.le_trans (hcn x hx) (by decide),fun x hx=>Nat.le_trans (hsm x hx) (by decide)⟩,h.gt.sc,h.gt.cm,fun w hw=>m0 ?_,by rw[h.gt.m];omega,⟨fun x hx=>Nat.le_trans (hm x hx) (by decide),fun x hx=>Nat.le_trans (hcn x hx) (by decide)⟩,fun f hf i hi=>?_,⟨by omega,fun f hf=>c10 f hf⟩,fun u hu=>?_,fun u hu=>⟨fun w hw=>m0 ?_,fun x hx=>m0 ?_⟩,fun u hu=>(h.tb.2 u hu).w,by omega,fun r hr=>?_,fun r hr=>m0 ?_,h.wl,by omega,fun x hx=>m0 ?_⟩
 ·have:=h.tk o ho;omega
 ·obtain⟨o,ho,hb⟩:∃ o,s.table[n]?=some o∧o.1=false:=by
   have hfr:∀ (l:List (Bool×Int)) (i n:Nat),slotFree? l i=some n→i≤n∧ ∃ o,l[n-i]?=some o∧o.1=false:=by
    intro l
    induction l with
    | nil=>intro i n h;cases h
    | cons o l ih =>
     intro i n h
     unfold slotFree? at h
     split at h
     ·obtain⟨a,o',b,c⟩:=ih (i+1) n h
      exact⟨by omega,o',by rw[show n-i=(n-(i+1))+1 from by omega];simpa using b,c⟩
     ·cases h;rename_i hb
      exact⟨Nat.le_refl _,o,by simp,by simpa using hb⟩
   obtain⟨-,o,ho,hb⟩:=hfr _ _ _ e
   exact⟨o,by simpa using ho,hb⟩
  have hn:n<16:=h.ll ▸ (List.getElem?_eq_some_iff.1 ho).1
  obtain⟨x,hx⟩:=ai (show n<s.aF.length by rw[h.lt];exact hn)
  cases x with
  | none=>exact hx
  | some t =>
   have:=(h.us n hn).2 ⟨t,hx⟩
   rw[List.getD_eq_getElem?_getD,ho,show(Option.getD (some o) (false,(0:Int)))=o from rfl,hb] at this
   cases this
 ·have h1:1≤cJ s.aF t.ay:=by
   have:jn t.ay (some t)=1:=by rw[gQ];exact if_pos ⟨rfl,hj⟩
   have h2:jn t.ay (some t)≤cJ s.aF t.ay:=eI (f:=jn t.ay) (List.mem_of_getElem? ht)
   omega
  have h2:=hbal t.ay
  obtain⟨u,hu,hu0,hu9⟩:=kc (s:=s) (w:=t.ay) (by unfold nV at h2;omega)
  obtain⟨h0,hat⟩:=ja hu
  exact⟨h0,fun e=>by rw[e,ht] at hat;cases hat;exact hu0 hw,u,hat⟩
 ·refine Nat.lt_of_lt_of_le ?_ (bG w)
  unfold cG
  rcases hw with ⟨x,hx,y,hy,rfl⟩ | ⟨x,hx,y,hy,rfl⟩ | ⟨x,hx,y,hy,rfl⟩
  ·have h1:=eI (f:=fun m:eK=>dQ y.who m.wait) hx
   have h2:0<dQ y.who x.wait:=List.countP_pos_iff.2 ⟨y,hy,by simp[Lf]⟩
   omega
  ·have h1:=eI (f:=dQ y.who) hx
   have h2:0<dQ y.who x:=List.countP_pos_iff.2 ⟨y,hy,by simp[Lf]⟩
   omega
  ·have h1:=eI (f:=fun m:k6=>dQ y.who m.wait) hx
   have h2:0<dQ y.who x.wait:=List.countP_pos_iff.2 ⟨y,hy,by simp[Lf]⟩
   omega
 ·have:=HH hcap (hall f hf i hi) (h.DH.2 f hf i hi)
  rw[h.tb.1];exact this
 ·have h1:=h.tb.2 u hu
  exact⟨Nat.le_trans h1.l (by decide),Nat.le_trans (pU (f:=fun x:Ptr=>x.who) h.lt fun w=>(hug u hu w).2) (by decide),Nat.le_trans (pU (f:=fun x:Int=>x) h.lt fun w=>by
   have:=(hug u hu w).1
   have e:u.gM.countP (fun x=>decide (x=w))=u.gM.count w:=by unfold List.count;congr 1
   omega) (by decide)⟩
 ·exact Nat.lt_of_lt_of_le (List.count_pos_iff.2 hw) (hug u hu w).1
 ·exact Nat.lt_of_lt_of_le (List.countP_pos_iff.2 ⟨x,hx,by simp⟩) (hug u hu x.who).2
 ·have:=h.dk.w r hr;exact⟨this.1,this.2.1⟩
 ·exact Nat.lt_of_lt_of_le (List.countP_pos_iff.2 ⟨r,hr,by simp⟩) (bD r.who)
 ·exact Nat.lt_of_lt_of_le (List.countP_pos_iff.2 ⟨x,hx,by simp⟩) (bL x.1)
end
end Go.SLYtpbjdoplfgeliaaGreat
namespace Go.SLYtpbjdoplfgeliaaGreat
open Go Go.RowKit
section
variable{k:Nat}{s:Spc}
theorem dG.start(h:Ok k s [] [])(hR:ee s s.aA){n:Nat}{i:Ins}{c:Int}:dG k s (s.dR n i c) [] []:=⟨h,fun w=>by simp[Spc.dR,lG.z],fun w hw=>(by cases hw),by show ee s (s.aA++[]);rw[List.append_nil];exact hR,List.prefix_refl _⟩
theorem Mp{d:Dng}(h:dG k s d [] []){n:Int}(hn:n=(d.n:Int)):Ok k d.finish.2 [] []∧(∀ w,c0 d.finish.2 w+(if (d.finish.1.aQ=true∨d.finish.1.ended=true)∧w=n then 1 else 0)=c0 s w+d.finish.1.av.count w)∧(∀ w∈d.finish.1.av,c0 s w=0)∧ee d.finish.2 d.finish.2.aA∧s.aA <+: d.finish.2.aA:=by
 subst hn
 exact⟨h.ok.aA _,h.rd,h.wk,h.rc.of rfl rfl,h.px.trans (List.prefix_append _ _)⟩
theorem EY(d:Dng)(a:List Int):(d.dA a).n=d.n:=by
 induction a generalizing d with
 | nil=>rfl
 | cons x l ih=>exact(ih _).trans rfl
theorem DI{d:Dng}{v:Int}:(d.fin v).n=d.n:=by
 unfold Dng.fin
 split
 ·rfl
 ·split <;> rfl
theorem Kc{d:Dng}:d.plain.n=d.n:=by
 unfold Dng.plain
 split
 ·simp only
  split
  ·rfl
  ·split <;> rfl
 ·split
  ·exact DI
  ·exact DI
theorem DJ{d:Dng}{n:Int}{ok:Bool}:(d.given n ok).n=d.n:=by unfold Dng.given;split <;> rfl
theorem Lj{d:Dng}{b y i:Int}:(d.ask b y i).n=d.n:=by
 unfold Dng.ask
 simp only
 repeat' split
 all_goals rfl
theorem Mq{d:Dng}:d.call.n=d.n:=by
 unfold Dng.call
 simp only
 split
 ·rfl
 split
 ·rfl
 split
 ·rfl
 split
 ·unfold Dng.join;simp only;repeat' split
  all_goals rfl
 split
 ·unfold Dng.fW;simp only;repeat' split
  all_goals rfl
 split
 ·exact DI
 split
 ·unfold Dng.mutex;simp only;repeat' split
  all_goals first | rfl | exact DJ
 split
 ·exact EY _ _
 split
 ·unfold Dng.ez;simp only;repeat' split
  all_goals first | rfl | exact DJ
 ·unfold Dng.kernel
  split
  ·exact Lj
  split
  ·exact Lj
  split
  ·unfold Dng.put;simp only;repeat' split
   all_goals rfl
  split
  ·unfold Dng.get;simp only;repeat' split
   all_goals rfl
  split
  ·unfold Dng.sleep;simp only;repeat' split
   all_goals rfl
  ·rfl
theorem Kd{s:Spc}(hO:hU s){f:iZ}{i:Ins}(e:dZ s.fb f=some i):f.pc≤256:=by
 unfold dZ at e
 split at e
 ·cases e
 ·have hlt:=(List.getElem?_eq_some_iff.1 e).1
  cases hf:s.fb.funcs[f.fn.toNat]? with
  | none=>rw[List.getD_eq_getElem?_getD,hf] at hlt;exact absurd hlt (Nat.not_lt_zero _)
  | some g =>
   rw[List.getD_eq_getElem?_getD,hf] at hlt
   have h1:f.pc.toNat<g.length:=hlt
   have h2:=hO.Av.2 g (List.mem_of_getElem? hf)
   omega
theorem Ok.run(h:Ok k s [] [])(hR:ee s s.aA)(hk:k≤1000000)(hr:s.aA.length≤800000000){n c:Int} :
  Ok (k+1) (s.run n c).2.2 [] []∧(∀ w,c0 (s.run n c).2.2 w+(if ((s.run n c).1.aQ=true∨(s.run n c).1.ended=true)∧w=n then 1 else 0)=c0 s w+(s.run n c).1.av.count w)∧
  ((s.run n c).2.1≠0→(s.run n c).2.2=s∧(s.run n c).1=lG.z)∧(s.run n c).2.2.aA.length≤s.aA.length+400002∧((s.run n c).2.1=0↔c0 s n=1)∧(∀ w∈(s.run n c).1.av,c0 s w=0)∧ee (s.run n c).2.2 (s.run n c).2.2.aA∧s.aA <+: (s.run n c).2.2.aA:=by
 have hO:=h.aI hk hr
 have hup:Ok (k+1) s [] []:=h.more (Nat.le_succ _)
 cases hat:s.at n with
 | none =>
  rw[Ai hat]
  refine⟨hup,fun w=>by simp[lG.z],fun _=>⟨rfl,rfl⟩,by simp only;omega,?_,fun w hw=>(by cases hw),hR,List.prefix_refl _⟩
  simp only
  unfold c0;rw[hat];simp[rO]
 | some t =>
  by_cases hw:t.cS≠0
  ·rw[Aj hat hw]
   refine⟨hup,fun w=>by simp[lG.z],fun _=>⟨rfl,rfl⟩,by simp only;omega,?_,fun w hw=>(by cases hw),hR,List.prefix_refl _⟩
   simp only
   unfold c0;rw[hat,du,if_neg hw];simp
  ·have hw0:t.cS=0:=Decidable.not_not.mp hw
   obtain⟨h0,ht⟩:=ja hat
   obtain⟨m,rfl⟩:∃ m:Nat,n=(m:Int):=⟨n.toNat,by omega⟩
   rw[Int.toNat_natCast] at ht
   have hrd:c0 s (m:Int)=1:=by unfold c0;rw[hat,du,if_pos hw0]
   have fin:∀ {z:Dng} {a b:Nat},dG (k+1) s z [] []→z.n=m→eF (s.dR m ⟨0,0,0,0,0⟩ c) z a b→a≤1→b≤400001→s.run (m:Int) c=(z.finish.1,0,z.finish.2)→
     Ok (k+1) (s.run (m:Int) c).2.2 [] []∧(∀ w,c0 (s.run (m:Int) c).2.2 w+(if ((s.run (m:Int) c).1.aQ=true∨(s.run (m:Int) c).1.ended=true)∧w=(m:Int) then 1 else 0)=c0 s w+(s.run (m:Int) c).1.av.count w)∧
     ((s.run (m:Int) c).2.1≠0→(s.run (m:Int) c).2.2=s∧(s.run (m:Int) c).1=lG.z)∧(s.run (m:Int) c).2.2.aA.length≤s.aA.length+400002∧((s.run (m:Int) c).2.1=0↔c0 s (m:Int)=1)∧(∀ w∈(s.run (m:Int) c).1.av,c0 s w=0)∧ee (s.run (m:Int) c).2.2 (s.run (m:Int) c).2.2.aA∧s.aA <+: (s.run (m:Int) c).2.2.aA:=fun {z a b} hz hzn hg ha hb e=>by
    rw[e]
    obtain⟨g1,g2,g3,g4,g5⟩:=Mp hz (n:=(m:Int)) (by rw[hzn])
    refine⟨g1,g2,fun hne=>absurd rfl hne,?_,⟨fun _=>hrd,fun _=>rfl⟩,g3,g4,g5⟩
    show(z.s.aA++z.ends).length≤_
    rw[List.length_append]
    have h1:z.s.aA.length≤s.aA.length+a:=hg.1
    have h2:z.ends.length≤0+b:=hg.2
    omega
   cases hn:dZ s.fb t.nE with
   | none =>
    have h1:dG k s (((s.dR m ⟨23,0,0,0,0⟩ c).tell 0 0 0 true).fin 0) [] []:=dG.fin (dG.tell (dG.start h hR) ht hw0 rfl) ht hw0 rfl rfl Mk
    exact fin (h1.more (Nat.le_succ _)) DI (cA (gC.trans kQ) rfl rfl) (by decide) (by decide) (DD hat hw hn rfl)
   | some i =>
    obtain⟨hI,hIn,hIt⟩:=wM hO hn
    have hpc:=Kd hO hn
    have hpc:t.pc≤256:=hpc
    by_cases hc:cls i.op=1
    ·have S:St k s (s.dR m i c) t:=⟨dG.start h hR,ht,hw0,rfl,rfl,hI,rfl⟩
     exact fin ((S.plain hpc).more (Nat.le_succ _)) Kc (cA oI rfl rfl) (by decide) (by decide) (wN hat hw hn hc rfl)
    ·have ho:=h.th m t ht
     have h1:dG k s ((s.dR m i c).aX {t with pc:=t.pc+1 }) [] []:=dG.own (dG.start h hR) ht (t':={t with pc:=t.pc+1 }) ⟨ho.R.l,ho.R.r,ho.R.i,ho.R.v,ho.R.h⟩ (by have:=ho.pc;show 0≤t.pc+1∧t.pc+1≤257;omega) rfl rfl rfl rfl rfl
     have S:St k s ((s.dR m i c).aX {t with pc:=t.pc+1 }) {t with pc:=t.pc+1 }:=⟨h1,dp ht,hw0,rfl,rfl,hI,rfl⟩
     exact fin (S.call hk hIt) Mq (cA (qY hO.Ca.2) rfl rfl) (by decide) (by decide) (Ak hat hw hn hc rfl)
/-! a request is done -/
theorem Mr{d:lj}(h:B8 d){c:Int}(hd:(d.done c).2.2.1=true):B8 (d.done c).2.2.2∧fK (d.done c).2.1∧ ∀ w,cD (d.done c).2.2.2 w+b2 ((d.done c).1.who=w)=cD d w:=by
 by_cases h0:d.wait.length=0
 ·rw[qT h0] at hd;cases hd
 ·have hp:=j7 (t:=c) (n:=d.wait.length) (by omega)
  have hx:d.wait[pick c d.wait.length]?=some (d.wait.getD (pick c d.wait.length) yx):=getD_some hp
  have hm:=List.mem_of_getElem? hx
  generalize hr:d.wait.getD (pick c d.wait.length) yx=r at hx hm
  have hrw:=h.w r hm
  have hcn:∀ w,(d.wait.eraseIdx (pick c d.wait.length)).countP (fun r=>decide (r.who=w))+b2 (r.who=w)=d.wait.countP (fun r=>decide (r.who=w)):=fun w=>by
   have:=lN (P:=fun r:wh=>decide (r.who=w)) hx
   unfold b2;simpa using this
  cases hw:r.write with
  | true =>
   rw[oD h0 hr hw]
   refine⟨⟨by simp only[List.length_set];exact h.l,fun x hx=>?_,fun y hy=>?_⟩,Mk,fun w=>hcn w⟩
   ·rcases List.mem_or_eq_of_mem_set hx with hx | rfl
    ·exact h.b x hx
    ·exact hrw.2.2
   ·simp only[List.length_set];exact h.w y (List.mem_of_mem_eraseIdx hy)
  | false =>
   rw[qU h0 hr hw]
   exact⟨⟨h.l,h.b,fun y hy=>h.w y (List.mem_of_mem_eraseIdx hy)⟩,HF h.b (by omega),fun w=>hcn w⟩
theorem Ok.ob(h:Ok k s [] [])(hR:ee s s.aA){c:Int} :
  Ok k (s.done c).2.2 [] []∧(∀ w,c0 (s.done c).2.2 w+(if ((s.done c).1.aQ=true∨(s.done c).1.ended=true) then 1 else 0)=c0 s w+(s.done c).1.av.count w)∧
  ((s.done c).2.1≠0→(s.done c).2.2=s∧(s.done c).1=lG.z)∧(s.done c).2.2.aA.length≤s.aA.length+1∧(s.done c).1.aQ=false∧(s.done c).1.ended=false∧ee (s.done c).2.2 (s.done c).2.2.aA∧s.aA <+: (s.done c).2.2.aA:=by
 cases hd:(s.ca.done c).2.2.1 with
 | false =>
  rw[rS hd]
  exact⟨h,fun w=>by simp[lG.z],fun _=>⟨rfl,rfl⟩,by simp,rfl,rfl,hR,List.prefix_refl _⟩
 | true =>
  obtain⟨g1,g2,g3⟩:=Mr h.dk hd
  have h1:Ok k {s with ca:=(s.ca.done c).2.2.2 } [(s.ca.done c).1.who] []:=h.ca g1 (fun w=>by rw[oO];have:=g3 w;simp;omega)
  have hb:=h1.su (s.ca.done c).1.who
  obtain⟨u,hu,hu0,hu9⟩:=kc (s:={s with ca:=(s.ca.done c).2.2.2 }) (w:=(s.ca.done c).1.who) (by simp at hb;omega)
  obtain⟨h0,hat⟩:=ja hu
  rw[rT hd hat]
  have h2:=h1.dN hu hu0 hu9 g2
  refine⟨(h2.Mf (p':=[]) (q':=[]) (fun w=>by simp)).aA _,fun w=>?_,fun hne=>absurd rfl hne,by simp[Spc.tell,Spc.dN,Spc.aX],rfl,rfl,?_,List.prefix_append _ _⟩
  rotate_left
  ·have hR1:ee {s with ca:=(s.ca.done c).2.2.2 } s.aA:=hR.of rfl rfl
   exact(hR1.dN h1 hu hu0 hu9 (y:=(s.ca.done c).2.1)).of rfl rfl
  show c0 (({s with ca:=(s.ca.done c).2.2.2 }:Spc).dN (s.ca.done c).1.who.toNat (s.ca.done c).2.1) w+(if (false=true∨false=true) then 1 else 0)=c0 s w+[(s.ca.done c).1.who].count w
  simp only[Bool.false_eq_true,or_self,if_false,Nat.add_zero]
  rw[pT hu,oO]
  have hs:∀ w,c0 {s with ca:=(s.ca.done c).2.2.2 } w=c0 s w:=fun w=>rfl
  by_cases e:w=(s.ca.done c).1.who
  ·have:c0 s w=0:=by rw[← hs,e];unfold c0;rw[hu,du];exact if_neg hu0
   rw[if_pos e,lO e.symm];omega
  ·rw[if_neg e,ey (fun h=>e h.symm),hs];rfl
/-! a moment -/
theorem Ay(l:List Int)(w:Int):(gx l).count w=l.count w:=by
 have hi:∀ (a:Int) (m:List Int),(cZ a m).count w=m.count w+b2 (a=w):=by
  intro a m
  induction m with
  | nil=>rw[show cZ a []=[a] from rfl,oO];simp
  | cons b m ih =>
   unfold cZ
   split
   ·rw[eB]
   ·rw[eB,ih,eB];omega
 induction l with
 | nil=>rfl
 | cons a l ih=>show(cZ a (gx l)).count w=_;rw[hi,ih,eB]
theorem EZ(l:List (Int×Int))(n w:Int):(gp l n).countP (fun x=>decide (x.1=w))=if w=n then 0 else l.countP (fun x=>decide (x.1=w)):=by
 unfold gp
 rw[List.countP_filter]
 by_cases e:w=n
 ·rw[if_pos e,List.countP_eq_zero]
  intro x hx
  simp[e]
 ·rw[if_neg e]
  apply List.countP_congr
  intro x hx
  simp only[Bool.and_eq_true,decide_eq_true_eq,Bool.not_eq_true',decide_eq_false_iff_not]
  exact⟨fun h=>h.1,fun h=>⟨h,fun h2=>e (h.symm.trans h2)⟩⟩
theorem uo:∀ (a:List Int) (l:List (Int×Int)) (w:Int),(a.foldl gp l).countP (fun x=>decide (x.1=w))=if w∈a then 0 else l.countP (fun x=>decide (x.1=w))
 | [],_,_=>by simp
 | n::a,l,w=>by
  rw[List.foldl_cons,uo a,EZ]
  by_cases h:w∈a
  ·rw[if_pos h,if_pos (List.mem_cons_of_mem _ h)]
  ·rw[if_neg h]
   by_cases e:w=n
   ·rw[if_pos e,if_pos (by rw[e];exact List.mem_cons_self)]
   ·rw[if_neg e,if_neg (by simp[e,h])]
theorem Ms{u:mu}(h:0≤u.now∧u.now≤1099511627776)(hb:∀ w,cL u w≤1):(0≤u.tick.2.now∧u.tick.2.now≤1099511627776)∧ ∀ w,cL u.tick.2 w+u.due.count w=cL u w:=by
 refine⟨by show 0≤min (u.now+1) 1099511627776∧min (u.now+1) 1099511627776≤_;omega,fun w=>?_⟩
 have h1:cL u.tick.2 w=if w∈u.due then 0 else cL u w:=uo u.due u.ia w
 have h2:u.due.count w=(u.ia.filter fun p=>decide (p.2≤min (u.now+1) 1099511627776)).countP (fun x=>decide (x.1=w)):=by
  unfold mu.due;rw[Ay];unfold List.count;rw[List.countP_map];congr 1
 have h3:(u.ia.filter fun p=>decide (p.2≤min (u.now+1) 1099511627776)).countP (fun x=>decide (x.1=w))≤cL u w:=List.Sublist.countP_le List.filter_sublist
 rw[h1]
 by_cases hm:w∈u.due
 ·have:=List.count_pos_iff.2 hm
  have:=hb w
  rw[if_pos hm];omega
 ·have:=List.count_eq_zero.2 hm
  rw[if_neg hm];omega
theorem Ok.cK:∀ (l:List Int) (s:Spc),Ok k s l []→ee s s.aA→Ok k (cK s l) [] []∧(∀ w,c0 (cK s l) w=c0 s w+l.count w)∧ee (cK s l) (cK s l).aA∧s.aA <+: (cK s l).aA
 | [],_,h,hR=>⟨h,fun w=>rfl,hR,List.prefix_refl _⟩
 | n::l,s,h,hR=>by
  have hb:=h.su n
  rw[eB,lO rfl] at hb
  obtain⟨u,hu,hu0,hu9⟩:=kc (s:=s) (w:=n) (by simp at hb;omega)
  have h1:=h.dN hu hu0 hu9 (y:=0) Mk
  have h2:Ok k ((s.dN n.toNat 0).tell ((s.t n.toNat).ku 0)) l []:=(h1.Mf (fun w=>by rw[eB,eB];simp)).aA _
  have hR2:ee ((s.dN n.toNat 0).tell ((s.t n.toNat).ku 0)) ((s.dN n.toNat 0).tell ((s.t n.toNat).ku 0)).aA:=by
   show ee ((s.dN n.toNat 0).tell ((s.t n.toNat).ku 0)) (s.aA++[(s.t n.toNat).ku 0])
   rw[dS (ja hu).2]
   exact(hR.dN h hu hu0 hu9 (y:=0)).of rfl rfl
  obtain⟨h3,h4,h6,h7⟩:=Ok.cK l _ h2 hR2
  refine⟨h3,fun w=>(h4 w).trans ?_,h6,List.IsPrefix.trans (List.prefix_append _ _) h7⟩
  have h5:c0 ((s.dN n.toNat 0).tell ((s.t n.toNat).ku 0)) w=c0 (s.dN n.toNat 0) w:=rfl
  rw[h5,pT hu,eB]
  by_cases e:w=n
  ·have:c0 s w=0:=by rw[e];unfold c0;rw[hu,du];exact if_neg hu0
   rw[if_pos e,lO e.symm];omega
  ·rw[if_neg e,ey (fun h=>e h.symm)];omega
theorem Ok.wQ(h:Ok k s [] [])(hR:ee s s.aA) :
  Ok k s.tick.2 [] []∧(∀ w,c0 s.tick.2 w=c0 s w+s.tick.1.av.count w)∧s.tick.2.aA.length≤s.aA.length+16∧s.tick.1.aQ=false∧s.tick.1.ended=false∧ee s.tick.2 s.tick.2.aA∧s.aA <+: s.tick.2.aA:=by
 have hbal:∀ w,nV s w=dW s w:=fun w=>by have:=h.su w;simpa using this
 have bL:∀ w,cL s.aT w≤dW s w:=fun w=>by have:=hbal w;unfold nV at this;omega
 obtain⟨g1,g2⟩:=Ms h.wl (fun w=>Nat.le_trans (bL w) Hr)
 have h1:Ok k {s with aT:=s.aT.tick.2 } s.aT.due []:=h.aT g1 (fun w=>by have:=g2 w;simp;omega)
 obtain⟨h2,h3,h4,h5⟩:=Ok.cK s.aT.due _ h1 (hR.of rfl rfl)
 refine⟨h2,fun w=>(h3 w).trans rfl,?_,rfl,rfl,h4,h5⟩
 show(Go.SLYtpbjdoplfgeliaaGreat.cK _ s.aT.due).aA.length≤_
 rw[pQ]
 have:=pR s.aT
 have:s.aT.ia.length≤16:=pU (f:=fun r:Int×Int=>r.1) h.lt bL
 show s.aA.length+_≤_
 omega
end
end Go.SLYtpbjdoplfgeliaaGreat
namespace Go.SLYtpbjdoplfgeliaaGreat
open Go Go.RowKit
theorem ur{α:Type}{f:α→Nat}{n:Nat}{x:α}(h:f x=0):mX f (List.replicate n x)=0:=qZ (fun y hy=>by rw[(List.mem_replicate.1 hy).2];exact h)
theorem Ok.new{p:gn}(h:Hq p):Ok 1 (Spc.new p) [] []:=by
 have hcap:gw p=true:=by
  have:=h.1;unfold dD at this
  split at this
  ·assumption
  ·cases this
 have hc:=hcap
 unfold gw at hc
 simp only[Bool.and_eq_true,decide_eq_true_eq,within,List.all_eq_true] at hc
 obtain⟨⟨⟨⟨⟨⟨⟨⟨⟨⟨⟨c1,c2⟩,c3⟩,c4⟩,c5⟩,c6⟩,c7⟩,c8⟩,c9⟩,c10⟩,c11⟩,c12⟩:=hc
 have cl:∀ {n:Int},0≤n→n≤4→aN n 4=n:=fun a b=>by unfold aN;omega
 have h0:Ok 0 ⟨p,List.replicate 16 (false,0),List.replicate 16 none,List.replicate p.words.toNat 0,Gates.new p.bx p.conds p.bK,p.bf.map Tub.new,lj.new p.blocks,mu.new,[]⟩ [] []:=by
  refine⟨h,by simp,by simp,fun o ho=>?_,fun n hn=>?_,fun n t ht=>?_,⟨by simp,fun x hx=>?_⟩,⟨?_,?_,?_,fun x hx=>?_,fun r hr w hw=>?_⟩,⟨by simp,fun u hu=>?_⟩,⟨?_,fun x hx=>?_,fun r hr=>?_⟩,(by show(0:Int)≤0∧(0:Int)≤1099511627776;decide),fun w=>?_⟩
  ·rw[(List.mem_replicate.1 ho).2];decide
  ·rw[List.getD_eq_getElem?_getD,List.getElem?_replicate,List.getElem?_replicate,if_pos hn,if_pos hn]
   exact⟨fun h=>(by cases h),fun⟨t,h⟩=>(by cases h)⟩
  ·have ht:(List.replicate 16 (none:Option bI))[n]?=some (some t):=ht
   rw[List.getElem?_replicate] at ht
   split at ht <;> cases ht
  ·rw[(List.mem_replicate.1 hx).2];exact Mk
  ·show(List.replicate (aN p.bx 4).toNat _).length=_;rw[List.length_replicate,cl (by omega) (by omega)]
  ·show(List.replicate (aN p.conds 4).toNat _).length=_;rw[List.length_replicate,cl (by omega) (by omega)]
  ·show((p.bK.take 4).map _).length=p.bK.length;rw[List.length_map,List.length_take];omega
  ·obtain⟨n,hn,rfl⟩:=List.mem_map.1 (show x∈(p.bK.take 4).map fun n=>(⟨[],aN n 1048576⟩:k6) from hx)
   show 0≤aN n 1048576∧aN n 1048576≤1048576;unfold aN;omega
  ·have hr:r∈List.replicate (aN p.conds 4).toNat ([]:List eW):=hr
   rw[(List.mem_replicate.1 hr).2] at hw;cases hw
  ·obtain⟨n,hn,rfl⟩:=List.mem_map.1 (show u∈p.bf.map Tub.new from hu)
   exact⟨by show min (max n 1) 8≤8;omega,by show 0≤8;decide,fun x hx=>(by cases hx),fun x hx=>(by cases hx)⟩
  ·show(List.replicate (aN p.blocks 64).toNat _).length≤64;rw[List.length_replicate];unfold aN;omega
  ·have hx:x∈List.replicate (aN p.blocks 64).toNat (0:Int):=hx
   rw[(List.mem_replicate.1 hx).2];exact Mk
  ·cases hr
  ·have e1:cG (Gates.new p.bx p.conds p.bK) w=0:=by
    unfold cG Gates.new
    simp only
    rw[ur (f:=fun m:eK=>dQ w m.wait) rfl,ur (f:=dQ w) rfl,qZ (fun x hx=>by
     obtain⟨n,hn,rfl⟩:=List.mem_map.1 hx;rfl)]
   have e2:cT (p.bf.map Tub.new) w=0:=qZ (fun x hx=>by obtain⟨n,hn,rfl⟩:=List.mem_map.1 hx;rfl)
   have e3:cJ (List.replicate 16 none) w=0:=ur rfl
   unfold nV dW
   simp only[e1,e2,e3]
   have e4:∀ (s:Spc),s.aF=List.replicate 16 none→s.at w=none:=fun s hs=>by
    unfold Spc.at aL
    split
    ·rfl
    ·rw[hs,List.getElem?_replicate];split <;> rfl
   rw[e4 _ rfl]
   rfl
 exact Ok.begin h0 (by decide) Mk
theorem ee.new{p:gn}:ee (Spc.new p) (Spc.new p).aA:=by
 have e:(Spc.new p).aA=[]:=by unfold Spc.new;rw[jK]
 rw[e]
 refine⟨uj.nil,fun n t ht=>?_,fun r hr=>by cases hr⟩
 have hb:∀ (n:Nat) (t:bI),(Spc.new p).aF[n]?=some (some t)→bT t=0:=fun n t ht=>by
  unfold Spc.new at ht
  rw[fc (n:=0) rfl] at ht
  have ht:((List.replicate 16 (none:Option bI)).set 0 _)[n]?=some (some t):=ht
  by_cases e:0=n
  ·subst e;rw[List.getElem?_set_self (by simp)] at ht;cases ht;rfl
  ·rw[List.getElem?_set_ne e,List.getElem?_replicate] at ht
   split at ht <;> cases ht
 rw[hb n t ht];rfl
end Go.SLYtpbjdoplfgeliaaGreat
namespace Go.SLYtpbjdoplfgeliaaGreat
open Go Go.RowKit
def gE(k:Nat)(s:Spc):Prop:=Ok k s [] []∧s.aA.length≤400002 * k∧ee s s.aA
theorem gE.rec{k:Nat}{s:Spc}(h:gE k s)(hk:k≤1990):s.aA.length≤800000000:=by have:=h.2.1;omega
theorem gE.aI{k:Nat}{s:Spc}(h:gE k s)(hk:k≤1990):hU s:=h.1.aI (by omega) (h.rec hk)
theorem gE.run{k:Nat}{s:Spc}(h:gE k s)(hk:k≤1990)(n c:Int):gE (k+1) (s.run n c).2.2:=by
 obtain⟨a, -, -,b, -, -,r, -⟩:=h.1.run h.2.2 (n:=n) (c:=c) (by omega) (h.rec hk)
 have:=h.2.1
 exact⟨a,by omega,r⟩
theorem gE.done{k:Nat}{s:Spc}(h:gE k s)(c:Int):gE (k+1) (s.done c).2.2:=by
 obtain⟨a, -, -,b, -, -,r, -⟩:=h.1.ob h.2.2 (c:=c)
 have:=h.2.1
 exact⟨a.more (Nat.le_succ _),by omega,r⟩
theorem gE.tick{k:Nat}{s:Spc}(h:gE k s):gE (k+1) s.tick.2:=by
 obtain⟨a, -,b, -, -,r, -⟩:=h.1.wQ h.2.2
 have:=h.2.1
 exact⟨a.more (Nat.le_succ _),by omega,r⟩
theorem gE.Oo{k:Nat}{s:Spc}(h:gE k s)(hk:k≤1990)(n c:Int):s.aA <+: (s.run n c).2.2.aA:=(h.1.run h.2.2 (n:=n) (c:=c) (by omega) (h.rec hk)).2.2.2.2.2.2.2
theorem gE.Nu{k:Nat}{s:Spc}(h:gE k s)(c:Int):s.aA <+: (s.done c).2.2.aA:=(h.1.ob h.2.2 (c:=c)).2.2.2.2.2.2.2
theorem gE.Nv{k:Nat}{s:Spc}(h:gE k s):s.aA <+: s.tick.2.aA:=(h.1.wQ h.2.2).2.2.2.2.2.2
theorem gE.new{p:gn}(h:Hq p):gE 1 (Spc.new p):=⟨Ok.new h,by
 have:(Spc.new p).aA=[]:=by unfold Spc.new;rw[jK]
 rw[this];simp,ee.new⟩
/-! the laws' own fact -/
def Mt:List Ins:=[⟨20,1,0,0,1⟩,⟨21,2,1,0,0⟩,⟨38,2,0,0,0⟩]
def Mu:List Ins:=[⟨1,3,0,0,9⟩,⟨23,3,0,0,0⟩]
def Pn:gn:=⟨[Mt,Mu],4,1,1,[0],[1],2,0⟩
def zp(b n:Nat):Value:=.slice (some ⟨b,0,none⟩) n n
def Po(x y z1 z2 z3:Nat):bc:=⟨zp z1 2,[(zp x 3,Mt),(zp y 2,Mu)],4,1,1,zp z2 1,[0],zp z3 1,[1],2,0⟩
def PJ(x y z1 z2 z3:Nat):aa:=seps [arr z1 0 [zp x 3,zp y 2],arr z2 0 [.int .i64 0],arr z3 0 [.int .i64 1],arr x 0 (rows dM Mt),arr y 0 (rows dM Mu)]
def Oq:Spc:=Spc.new Pn
def Ot:Spc:=(Oq.run 0 0).2.2
def Ou:Spc:=(Ot.run 0 0).2.2
def Ov:Spc:=(Ou.run 1 0).2.2
def Pp:Spc:=(Ov.run 1 0).2.2
def PK:List Rec:=[⟨65537,20,1,65538,0,true⟩,⟨65537,21,65538,0,0,false⟩,⟨65538,23,9,0,0,true⟩,⟨65537,21,0,9,0,true⟩]
def O7:bI:=⟨0,2,[0,65538,9,0,0,0,0,0],65537,0,0,false, -1,21, -1⟩
deriving instance DecidableEq for bI
end Go.SLYtpbjdoplfgeliaaGreat
namespace Go.SLYtpbjdoplfgeliaaGreat
open Go Go.RowKit
structure N5 where
 eP:Int
 slot:Int
 choice:Int
def Ke(x:N5):List Value:=[.int .i64 x.eP,.int .i64 x.slot,.int .i64 x.choice]
def Jr(s:Spc)(a:N5):Spc:=if a.eP=0 then (s.run a.slot a.choice).2.2 else if a.eP=1 then (s.done a.choice).2.2 else s.tick.2
theorem gE.more{k:Nat}{s:Spc}(h:gE k s){k':Nat}(hk:k≤k'):gE k' s:=⟨h.1.more hk,by have:=h.2.1;omega,h.2.2⟩
theorem gE.same{k:Nat}{s:Spc}(h:gE k s)(hk:k≤1990){n c:Int}(he:(s.run n c).2.1≠0):(s.run n c).2.2=s∧(s.run n c).1=lG.z:=(h.1.run h.2.2 (by omega) (h.rec hk)).2.2.1 he
theorem gE.lt{k:Nat}{s:Spc}(h:gE k s):s.aF.length=16:=h.1.lt
theorem mm:∀ (l:List (Option bI)) (k:Nat) (w:Int),(readyFrom l k).count w=if w<(k:Int) then 0 else rO ((l[w.toNat-k]?).getD none)
 | [],k,w=>by
  show([]:List Int).count w=_
  rw[List.count_nil];split
  ·rfl
  ·rfl
 | o::l,k,w=>by
  have ih:=mm l (k+1) w
  have key:∀ (n:Nat),(readyFrom l (k+1)).count w+n=(if w<(k:Int) then 0 else rO (((o::l)[w.toNat-k]?).getD none))↔(if w<((k+1:Nat):Int) then 0 else rO ((l[w.toNat-(k+1)]?).getD none))+n=(if w<(k:Int) then 0 else rO (((o::l)[w.toNat-k]?).getD none)):=fun n=>by rw[ih]
  have step:(if w<(k:Int) then 0 else rO (((o::l)[w.toNat-k]?).getD none))=(if w<((k+1:Nat):Int) then 0 else rO ((l[w.toNat-(k+1)]?).getD none))+if w=(k:Int) then rO o else 0:=by
   by_cases h1:w<(k:Int)
   ·rw[if_pos h1,if_pos (by omega),if_neg (by omega)]
   ·by_cases h2:w=(k:Int)
    ·subst h2
     rw[if_neg (by omega),if_pos (by omega),if_pos rfl,show((k:Int)).toNat-k=0 from by omega]
     show rO o=0+rO o
     omega
    ·rw[if_neg h1,if_neg (by omega),if_neg h2,show w.toNat-k=(w.toNat-(k+1))+1 from by omega]
     rfl
  cases o with
  | none =>
   show(readyFrom l (k+1)).count w=_
   rw[ih,step];split <;> simp[rO]
  | some t =>
   unfold readyFrom
   by_cases ht:t.cS=0
   ·rw[if_pos ht,eB,ih,step,du,if_pos ht]
    by_cases h2:w=(k:Int)
    ·rw[if_pos h2,lO h2.symm]
    ·rw[if_neg h2,ey (fun h=>h2 h.symm)]
   ·rw[if_neg ht,ih,step,du,if_neg ht];split <;> simp
theorem gf:∀ (l:List (Option bI)) (k:Nat),(readyFrom l k).length≤l.length
 | [],_=>Nat.le_refl _
 | none::l,k=>Nat.le_trans (gf l (k+1)) (Nat.le_succ _)
 | some t::l,k=>by
  have:=gf l (k+1)
  unfold readyFrom;split <;> simp only[List.length_cons] <;> omega
theorem E0{s:Spc}(h:s.aF.length=16):s.ready.length≤1000000000:=Nat.le_trans (gf _ _) (by rw[h];decide)
theorem ke(s:Spc)(w:Int):s.ready.count w=c0 s w:=by
 unfold Spc.ready
 rw[mm]
 unfold c0 Spc.at aL
 by_cases h:w<0
 ·rw[if_pos (by omega),if_pos h];rfl
 ·rw[if_neg (by omega),if_neg h,Nat.sub_zero]
theorem mem_ready{s:Spc}{w:Int}:w∈s.ready↔c0 s w=1:=by
 rw[← List.count_pos_iff,ke]
 have:c0 s w≤1:=by
  unfold c0 rO
  split
  ·omega
  ·split <;> omega
 omega
theorem q7{s:Spc}{w:Int}:w ∉ s.ready↔c0 s w=0:=by
 have h:=mem_ready (s:=s) (w:=w)
 have:c0 s w≤1:=by
  unfold c0 rO
  split
  ·omega
  ·split <;> omega
 by_cases hm:w∈s.ready
 ·have:=h.1 hm;exact⟨fun h2=>absurd hm h2,fun h2=>by omega⟩
 ·have:¬c0 s w=1:=fun h2=>hm (h.2 h2)
  exact⟨fun _=>by omega,fun _=>hm⟩
theorem yN{a b:List Int}(h:∀ w,a.count w=b.count w):a.length=b.length:=(List.perm_iff_count.2 h).length_eq
structure Nw(s s':Spc)(e:lG)(n:Int):Prop where
 a:∀ w∈e.av,w ∉ s.ready∧w∈s'.ready
 g:(e.aQ || e.ended)=true→n ∉ s'.ready
 l:s'.ready.length+(if (e.aQ || e.ended)=true then 1 else 0)=s.ready.length+e.av.length
theorem Kf{s s':Spc}{e:lG}{n:Int}(hr:∀ w,c0 s' w+(if (e.aQ=true∨e.ended=true)∧w=n then 1 else 0)=c0 s w+e.av.count w)(hw:∀ w∈e.av,c0 s w=0)(hn:(e.aQ=true∨e.ended=true)→c0 s n=1):Nw s s' e n:=by
 have le1:∀ (s:Spc) w,c0 s w≤1:=fun s w=>by
  unfold c0 rO
  split
  ·omega
  ·split <;> omega
 refine⟨fun w h=>⟨q7.2 (hw w h),mem_ready.2 ?_⟩,fun h=>q7.2 ?_,?_⟩
 ·have h1:=hr w
  have h2:=List.count_pos_iff.2 h
  have h3:=hw w h
  have h4:=le1 s' w
  by_cases hb:(e.aQ=true∨e.ended=true)∧w=n
  ·have:=hn hb.1;rw[← hb.2] at this;omega
  ·rw[if_neg hb] at h1;omega
 ·have hb:e.aQ=true∨e.ended=true:=by simpa using h
  have h1:=hr n
  rw[if_pos ⟨hb,rfl⟩,hn hb] at h1
  by_cases hm:n∈e.av
  ·have:=hw n hm;have:=hn hb;omega
  ·rw[List.count_eq_zero.2 hm] at h1;omega
 ·have key:=yN (a:=s'.ready++(if (e.aQ || e.ended)=true then [n] else [])) (b:=s.ready++e.av) (fun w=>by
   rw[List.count_append,List.count_append,ke,ke, ← hr w]
   congr 1
   by_cases hb:(e.aQ || e.ended)=true
   ·rw[if_pos hb,oO]
    have hb2:e.aQ=true∨e.ended=true:=by simpa using hb
    by_cases hwn:w=n
    ·rw[lO hwn.symm,if_pos ⟨hb2,hwn⟩]
    ·rw[ey (fun h=>hwn h.symm),if_neg (fun h=>hwn h.2)]
   ·rw[if_neg hb,if_neg (fun h=>hb (by simpa using h.1))];rfl)
  rw[List.length_append,List.length_append] at key
  rw[← key]
  congr 1
  split <;> rfl
theorem gE.fz{k:Nat}{s:Spc}(h:gE k s)(hk:k≤1990)(n c:Int):Nw s (s.run n c).2.2 (s.run n c).1 n:=by
 obtain⟨-,h2,h3, -,h5,h6, -, -⟩:=h.1.run h.2.2 (n:=n) (c:=c) (by omega) (h.rec hk)
 refine Kf h2 h6 (fun hb=>?_)
 by_cases he:(s.run n c).2.1=0
 ·exact h5.1 he
 ·rw[(h3 he).2] at hb;rcases hb with hb | hb <;> cases hb
end Go.SLYtpbjdoplfgeliaaGreat
namespace Go.SLYtpbjdoplfgeliaaGreat
open Go Go.RowKit
/-! rows of threads -/
def yO(rows:List (List Int))(t:Int):Bool:=rows.any fun r=>r.contains t
def rAdd(rows:List (List Int))(p t:Int):List (List Int) :=
 if yO rows t=true then rows else match aL rows p with | none=>rows | some r=>rows.set p.toNat (r++[t])
def eb(rows:List (List Int))(p:Int)(ts:List Int):List (List Int):=ts.foldl (fun r t=>rAdd r p t) rows
def rSteal:List (List Int)→Option (Int×List (List Int))
 | []=>none
 | r::rows=>match r.getLast? with
  | some t=>some (t,r.dropLast::rows)
  | none=>match rSteal rows with
   | none=>none
   | some (t,rows')=>some (t,r::rows')
def rPick(rows:List (List Int))(p:Int):Option (Int×List (List Int)) :=
 match aL rows p with
 | none=>none
 | some (t::r)=>some (t,rows.set p.toNat r)
 | some []=>rSteal rows
def im(rows:List (List Int)):Bool:=rows.all fun r=>decide (r=[])
/-! what a step did -/
structure gg where
 aJ:Bool
 slot:Int
 xb:lG
def gg.z:gg:=⟨false,0,lG.z⟩
def dy(u:Value)(d:gg):List Value:=[.bool d.aJ,.int .i64 d.slot]++oE u d.xb
def lG.cq(e:lG):Bool := !e.aQ && !e.ended
def Lib.v(l:Lib)(p:Int):aH:=l.vs.getD p.toNat aH.z
def Lib.je(l:Lib)(p:Int)(v:aH):Lib:={l with vs:=l.vs.set p.toNat v }
def Lib.fE(l:Lib)(p:Int)(ts:List Int):Lib:={l with rows:=eb l.rows p ts }
def Lib.aJ(l:Lib)(t c:Int):gg×Lib:=(⟨true,t,(l.aI.run t c).1⟩,{l with aI:=(l.aI.run t c).2.2 })
def Lib.enter(l:Lib)(p mode:Int):Lib:=if l.locked=true then l else ({l with locked:=true }:Lib).je p {l.v p with mode:=mode }
def Lib.leave(l:Lib)(p mode ab:Int):Lib:=({l with locked:=false }:Lib).je p {l.v p with mode:=mode,ab:=ab }
def jf(e:Ev):Bool:=decide (0<e.mode)
def evWithin(l:List Ev):Option (Ev×List Ev) :=
 if idxP jf l 0<0 then none else
 match l[(idxP jf l 0).toNat]? with
 | none=>none
 | some e=>some (e,l.take (idxP jf l 0).toNat++l.drop ((idxP jf l 0).toNat+1))
def Lib.recover(l:Lib)(p:Int)(x:Ev)(rest:List Ev)(c:Int):gg×Lib :=
 let l1:Lib:=({l with locked:=false }:Lib).je p {l.v p with evs:=rest }
 if x.mode=7 then
  let r:=l1.aJ x.ab c
  let l2:=r.2.fE p r.1.xb.av
  (r.1,if r.1.xb.cq=true then l2.fE p [x.ab] else l2)
 else (gg.z,l1)
def Lib.upcall(l:Lib)(p c:Int):gg×Lib:=match evWithin (l.v p).evs with
 | some (x,rest)=>l.recover p x rest c
 | none=>(gg.z,l.enter p 2)
def Lib.handle(l:Lib)(p:Int):Lib:=match (l.v p).evs with
 | []=>l.leave p 3 (-1)
 | e::r=>let l1:=if dE e=true then l.fE p [e.ab] else l
  l1.je p {l.v p with evs:=r }
def Lib.pick(l:Lib)(p:Int):Lib:=match rPick l.rows p with
 | some (t,rows)=>({l with rows:=rows }:Lib).leave p 5 t
 | none=>l.leave p 8 (-1)
def Lib.gR(l:Lib)(p c:Int):gg×Lib :=
 let t:=(l.v p).ab
 if l.aI.class t=2 then (gg.z,l.je p {l.v p with mode:=6 }) else
 let r:=l.aJ t c
 let l1:=if r.1.xb.aQ=true then r.2.je p (aH.new [⟨2,t,0⟩]) else if r.1.xb.ended=true then r.2.je p {r.2.v p with mode:=3,ab := -1 } else r.2
 (r.1,l1.tell (aG r.1.xb.av))
def Lib.inside(l:Lib)(p c:Int):gg×Lib :=
 let t:=(l.v p).ab
 let r:=l.aJ t c
 let l1:=r.2.fE p r.1.xb.av
 (r.1,if r.1.xb.cq=true then (if r.1.xb.yielded=true then (l1.fE p [t]).leave p 3 (-1) else l1.leave p 5 t) else l1.leave p 3 (-1))
def Lib.step(l:Lib)(p c:Int):gg×Int×Lib :=
 if l.has p=true then
  let m:=(l.v p).mode
  if m=1 then ((l.upcall p c).1,0,(l.upcall p c).2) else
  if m=2 then (gg.z,0,l.handle p) else
  if m=3 then (gg.z,0,l.enter p 4) else
  if m=4 then (gg.z,0,l.pick p) else
  if m=5 then ((l.gR p c).1,0,(l.gR p c).2) else
  if m=6 then (gg.z,0,l.enter p 7) else
  if m=7 then ((l.inside p c).1,0,(l.inside p c).2) else
  if m=8 then (gg.z,0,if im l.rows=true then l else l.je p {l.v p with mode:=3 }) else (gg.z,0,l)
 else (gg.z,11,l)
def Lib.look(l:Lib)(p:Int):Option aH:=if l.has p=true then some (l.v p) else none
end Go.SLYtpbjdoplfgeliaaGreat
namespace Go.SLYtpbjdoplfgeliaaGreat
open Go Go.RowKit
def posFrom(n:Int):List Int→Nat→List Int
 | [],_=>[]
 | o::l,k=>if o=n then (k:Int)::posFrom n l (k+1) else posFrom n l (k+1)
def pos(n:Int)(o:List Int):List Int:=posFrom n o 0
theorem m3:∀ (o:List Int) (k:Nat),freeFrom o k=posFrom (-1) o k
 | [],_=>rfl
 | x::o,k=>by rw[freeFrom,posFrom,m3 o (k+1)]
structure gS(k:Krn):Prop where
 len:∀ l∈k.libs,l.vs.length=k.owner.length
 ol:k.owner.length≤64
 iff:∀ (n:Nat) (l:Lib),k.libs[n]?=some l→ ∀ p:Nat,cW l.vs (p:Int)≠0↔k.owner[p]?=some (n:Int)
theorem HI(p:Nat):cW [] (p:Int)=0:=by simp[cW,aH.z]
theorem wS(v:aH)(vs:List aH):cW (v::vs) ((0:Nat):Int)=v.mode:=rfl
theorem wT(v:aH)(vs:List aH)(p:Nat):cW (v::vs) ((p+1:Nat):Int)=cW vs (p:Int):=by
 unfold cW;rw[Int.toNat_natCast,Int.toNat_natCast];rfl
theorem Az{n:Int}:∀ {o:List Int} {k:Nat},(∀ p:Nat,o[p]?≠some n)→posFrom n o k=[]
 | [],_,_=>rfl
 | x::o,k,h=>by
  rw[posFrom,if_neg (fun e=>h 0 (by rw[e];rfl))]
  exact Az fun p=>h (p+1)
theorem uu:∀ {vs:List aH} {k:Nat},(∀ p:Nat,cW vs (p:Int)=0)→procsFrom vs k=[]
 | [],_,_=>rfl
 | v::vs,k,h=>by
  rw[procsFrom,if_pos (by rw[← wS v vs];exact h 0)]
  exact uu fun p=>by rw[← wT v vs];exact h (p+1)
theorem wU{n:Int}:∀ {vs:List aH} {o:List Int} {k:Nat},(∀ p:Nat,cW vs (p:Int)≠0↔o[p]?=some n)→procsFrom vs k=posFrom n o k
 | [],o,k,h=>by
  rw[Az (fun p e=>(h p).2 e (HI p))];rfl
 | v::vs,[],k,h=>by
  rw[uu (fun p=>Decidable.of_not_not fun e=>by have:=(h p).1 e;simp at this)];rfl
 | v::vs,x::o,k,h=>by
  have ih:=wU (vs:=vs) (o:=o) (k:=k+1) fun p=>by rw[← wT v vs];exact h (p+1)
  have h0:=h 0
  rw[wS] at h0
  rw[procsFrom,posFrom,ih]
  by_cases e:v.mode=0
  ·rw[if_pos e,if_neg (fun e2=>h0.2 (by rw[e2];rfl) e)]
  ·have:x=n:=by simpa using h0.1 e
   rw[if_neg e,if_pos this]
theorem gS.procs{k:Krn}(h:gS k){n:Nat}{l:Lib}(hl:k.libs[n]?=some l):l.procs=pos (n:Int) k.owner:=wU (h.iff n l hl)
theorem gS.cu{k:Krn}(h:gS k){n:Nat}(hn:n<k.libs.length):cu k n=pos (n:Int) k.owner:=by
 obtain⟨l,hl⟩:=ai hn
 unfold SLYtpbjdoplfgeliaaGreat.cu;rw[aP hl,h.procs hl]
/-! what the libraries' steps do to the modes, to the events, to the space -/
theorem HJ(l:List Ev):(aH.new l).mode=1:=rfl
theorem pV{vs:List aH}{i:Nat}(hi:i<vs.length)(v:aH)(p:Nat):cW (vs.set i v) (p:Int)=if p=i then v.mode else cW vs (p:Int):=by
 unfold cW
 rw[Int.toNat_natCast,List.getD_eq_getElem?_getD,List.getD_eq_getElem?_getD]
 by_cases e:p=i
 ·subst e;rw[if_pos rfl,List.getElem?_set_self hi];rfl
 ·rw[if_neg e,List.getElem?_set_ne (fun h=>e h.symm)]
structure wV(l l':Lib):Prop where
 aI:l'.aI=l.aI
 rows:l'.rows=l.rows
 len:l'.vs.length=l.vs.length
theorem dB(l:Lib)(ys:List Ev):wV l (l.tell ys)∧ ∀ p:Nat,cW (l.tell ys).vs (p:Int)=0↔cW l.vs (p:Int)=0:=by
 by_cases hy:ys=[]
 ·subst hy;rw[jC];exact⟨⟨rfl,rfl,rfl⟩,fun p=>Iff.rfl⟩
 ·cases hp:l.procs with
  | nil=>rw[jm hy hp];exact⟨⟨rfl,rfl,rfl⟩,fun p=>Iff.rfl⟩
  | cons q r =>
   obtain⟨i,v,rfl,hv,hm⟩:=ig hp
   rw[jo hy hp hv]
   refine⟨⟨rfl,rfl,List.length_set ..⟩,fun p=>?_⟩
   show cW (l.vs.set i (v.told ys)) (p:Int)=0↔_
   rw[pV (List.getElem?_eq_some_iff.1 hv).1]
   by_cases e:p=i
   ·subst e;rw[if_pos rfl, ← lC hv]
    exact⟨fun h=>(by rw[show(v.told ys).mode=1 from rfl] at h;omega),fun h=>absurd h hm⟩
   ·rw[if_neg e]
theorem sO{vs:List aH}{i:Nat}{v:aH}(h:vs[i]?=some v)(x:aH):((vs.set i x).map (fun v=>v.evs.length)).sum+v.evs.length=(vs.map (fun v=>v.evs.length)).sum+x.evs.length:=by
 induction vs generalizing i with
 | nil=>simp at h
 | cons y vs ih =>
  cases i with
  | zero=>simp at h;subst h;simp;omega
  | succ i =>
   have:=ih (i:=i) (by simpa using h)
   simp only[List.set_cons_succ,List.map_cons,List.sum_cons]
   omega
theorem AA(v:aH)(ys:List Ev):(v.told ys).evs.length≤v.evs.length+1+ys.length:=by
 have:=nB v
 show(v.strip++ys).length≤_
 rw[List.length_append];omega
theorem DK(l:Lib)(ys:List Ev):fU (l.tell ys)≤fU l+1+ys.length:=by
 by_cases hy:ys=[]
 ·subst hy;rw[jC];omega
 ·cases hp:l.procs with
  | nil=>rw[jm hy hp];unfold fU;simp only[List.length_append];omega
  | cons q r =>
   obtain⟨i,v,rfl,hv,hm⟩:=ig hp
   rw[jo hy hp hv]
   unfold fU
   have:=sO hv (v.told ys)
   have:=AA v ys
   simp only
   omega
theorem wW(l:Lib)(p:Int):fU (l.cI p).2≤fU l+2:=by
 by_cases h:l.has p=true
 ·obtain⟨i,v,rfl,hv⟩:=lF (qK h)
  rw[ij h hv]
  have h1:=DK {l with vs:=l.vs.set i aH.z } v.strip
  have h2:=sO hv aH.z
  have h3:=nB v
  simp only[aH.z] at h1 h2 ⊢
  unfold fU at *
  simp only[List.length_nil,Nat.add_zero] at *
  omega
 ·rw[jq (by simpa using h)];exact Nat.le_add_right ..
theorem AB(l:Lib)(p:Int):fU (l.dq p).2≤fU l+2:=by
 by_cases h1:gN l p=true
 ·cases h:l.has p with
  | true=>rw[kJ (.inr h)];exact Nat.le_add_right ..
  | false =>
   obtain⟨i,v,rfl,hv,e⟩:=nC h1 h
   rw[e]
   have h2:=sO hv (aH.new (⟨1, -1,0⟩::l.waiting))
   unfold fU
   simp only[aH.new,List.length_cons,List.length_nil] at *
   omega
 ·rw[kJ (.inl (by simpa using h1))];exact Nat.le_add_right ..
theorem gr(l:Lib)(p:Int):wV l (l.dq p).2:=by
 by_cases h1:gN l p=true
 ·cases h:l.has p with
  | true=>rw[kJ (.inr h)];exact⟨rfl,rfl,rfl⟩
  | false=>obtain⟨i,v,rfl,hv,e⟩:=nC h1 h;rw[e];exact⟨rfl,rfl,List.length_set ..⟩
 ·rw[kJ (.inl (by simpa using h1))];exact⟨rfl,rfl,rfl⟩
theorem eR(l:Lib)(p:Int):wV l (l.cI p).2:=by
 by_cases h:l.has p=true
 ·obtain⟨i,v,rfl,hv⟩:=lF (qK h)
  rw[ij h hv]
  obtain⟨⟨a,b,c⟩,_⟩:=dB {l with vs:=l.vs.set i aH.z } v.strip
  exact⟨a,b,c.trans (List.length_set ..)⟩
 ·rw[jq (by simpa using h)];exact⟨rfl,rfl,rfl⟩
theorem AD{l:Lib}{i:Nat}(hi:i<l.vs.length):l.has (i:Int)=decide (cW l.vs (i:Int)≠0):=by
 rw[lB,show gN l (i:Int)=true from by unfold gN;simp[hi],Bool.true_and]
theorem Cc{l:Lib}{i:Nat}(hi:i<l.vs.length)(p:Nat):cW (l.dq (i:Int)).2.vs (p:Int)≠0↔cW l.vs (p:Int)≠0∨p=i:=by
 cases h:l.has (i:Int) with
 | true =>
  rw[kJ (.inr h)]
  rw[AD hi,decide_eq_true_eq] at h
  exact⟨.inl,fun e=>e.elim id fun e=>by rw[e];exact h⟩
 | false =>
  obtain⟨j,v,e1,hv,e⟩:=nC (show gN l (i:Int)=true from by unfold gN;simp[hi]) h
  obtain rfl:i=j:=by omega
  rw[e]
  show cW (l.vs.set i _) (p:Int)≠0↔_
  rw[pV hi]
  by_cases e:p=i
  ·rw[if_pos e];exact⟨fun _=>.inr e,fun _=>by rw[HJ];omega⟩
  ·rw[if_neg e];exact⟨.inl,fun h=>h.resolve_right e⟩
theorem AE{l:Lib}{i:Nat}(hi:i<l.vs.length)(p:Nat):cW (l.cI (i:Int)).2.vs (p:Int)≠0↔cW l.vs (p:Int)≠0∧p≠i:=by
 cases h:l.has (i:Int) with
 | false =>
  rw[jq h]
  rw[AD hi,decide_eq_false_iff_not] at h
  exact⟨fun e=>⟨e,fun e2=>h (by rw[← e2];exact e)⟩,fun e=>e.1⟩
 | true =>
  obtain⟨v,hv⟩:=ai hi
  rw[ij h hv]
  have:=(dB {l with vs:=l.vs.set i aH.z } v.strip).2 p
  refine(not_congr this).trans ?_
  show cW (l.vs.set i aH.z) (p:Int)≠0↔_
  rw[pV hi]
  by_cases e:p=i
  ·rw[if_pos e];exact⟨fun h=>absurd rfl h,fun h=>absurd e h.2⟩
  ·rw[if_neg e];exact⟨fun h=>⟨h,e⟩,fun h=>h.1⟩
/-! what giving and taking do -/
structure Inv(m:Nat)(k:Krn):Prop where
 ok:o0 m k
 ag:gS k
theorem o0.step{m:Nat}{k:Krn}(h:o0 m k){i n:Nat}{o:Int}{l l':Lib}(hl:k.libs[n]?=some l)(ho:o = -1∨(0≤o∧o<(k.libs.length:Int)))(hs:wV l l')(he:fU l'≤fU l+2):o0 (m+2) ⟨k.owner.set i o,k.libs.set n l'⟩:=by
 refine⟨fun v hv=>?_,?_,?_,fun x hx=>?_⟩
 ·show v = -1∨(0≤v∧v<((k.libs.set n l').length:Int))
  rw[List.length_set]
  rcases List.mem_or_eq_of_mem_set hv with e | e
  ·exact h.own v e
  ·subst e;exact ho
 ·show(k.owner.set i o).length≤64;rw[List.length_set];exact h.ol
 ·show(k.libs.set n l').length≤8;rw[List.length_set];exact h.ll
 ·rcases List.mem_or_eq_of_mem_set hx with e | e
  ·have:=h.gy x e;exact⟨Nat.le_trans this.ev (by omega),this.vl,this.th⟩
  ·subst e
   have:=h.gy l (List.mem_of_getElem? hl)
   exact⟨by have:=this.ev;omega,by rw[hs.len];exact this.vl,by rw[hs.aI];exact this.th⟩
theorem o0.up{m:Nat}{k:Krn}(h:o0 m k){m':Nat}(hm:m≤m'):o0 m' k:=⟨h.own,h.ol,h.ll,fun l hl=>let ⟨a,b,c⟩:=h.gy l hl;⟨Nat.le_trans a hm,b,c⟩⟩
theorem gS.dV{k:Krn}(h:gS k){i n:Nat}{l:Lib}(ho:k.owner[i]?=some (-1))(hl:k.libs[n]?=some l):gS ⟨k.owner.set i (n:Int),k.libs.set n (l.dq (i:Int)).2⟩:=by
 have hi:i<k.owner.length:=(List.getElem?_eq_some_iff.1 ho).1
 have hv:=h.len l (List.mem_of_getElem? hl)
 have hol:=h.ol
 refine⟨fun x hx=>?_,by show(k.owner.set i (n:Int)).length≤64;rw[List.length_set];exact h.ol,fun j x hx p=>?_⟩
 ·rcases List.mem_or_eq_of_mem_set hx with e | e
  ·rw[h.len x e];exact(List.length_set ..).symm
  ·subst e;rw[(gr l (i:Int)).len,hv];exact(List.length_set ..).symm
 ·have hx':(k.libs.set n (l.dq (i:Int)).2)[j]?=some x:=hx
  show _↔(k.owner.set i (n:Int))[p]?=some (j:Int)
  by_cases e:n=j
  ·subst e
   rw[List.getElem?_set_self (List.getElem?_eq_some_iff.1 hl).1] at hx'
   obtain rfl:=Option.some.inj hx'
   rw[Cc (by omega) p]
   by_cases e2:p=i
   ·subst e2;rw[List.getElem?_set_self hi];exact⟨fun _=>rfl,fun _=>.inr rfl⟩
   ·rw[List.getElem?_set_ne (fun e=>e2 e.symm), ← h.iff n l hl p]
    exact⟨fun h=>h.resolve_right e2,.inl⟩
  ·rw[List.getElem?_set_ne e] at hx'
   rw[h.iff j x hx' p]
   by_cases e2:p=i
   ·subst e2;rw[List.getElem?_set_self hi,ho]
    constructor
    ·intro e3;have:=Option.some.inj e3;omega
    ·intro e3;have:=Option.some.inj e3;omega
   ·rw[List.getElem?_set_ne (fun e=>e2 e.symm)]
theorem gS.take{k:Krn}(h:gS k){i n:Nat}{l:Lib}(ho:k.owner[i]?=some (n:Int))(hl:k.libs[n]?=some l):gS ⟨k.owner.set i (-1),k.libs.set n (l.cI (i:Int)).2⟩:=by
 have hi:i<k.owner.length:=(List.getElem?_eq_some_iff.1 ho).1
 have hv:=h.len l (List.mem_of_getElem? hl)
 have hol:=h.ol
 refine⟨fun x hx=>?_,by show(k.owner.set i (-1)).length≤64;rw[List.length_set];exact h.ol,fun j x hx p=>?_⟩
 ·rcases List.mem_or_eq_of_mem_set hx with e | e
  ·rw[h.len x e];exact(List.length_set ..).symm
  ·subst e;rw[(eR l (i:Int)).len,hv];exact(List.length_set ..).symm
 ·have hx':(k.libs.set n (l.cI (i:Int)).2)[j]?=some x:=hx
  show _↔(k.owner.set i (-1))[p]?=some (j:Int)
  by_cases e:n=j
  ·subst e
   rw[List.getElem?_set_self (List.getElem?_eq_some_iff.1 hl).1] at hx'
   obtain rfl:=Option.some.inj hx'
   rw[AE (by omega) p]
   by_cases e2:p=i
   ·subst e2;rw[List.getElem?_set_self hi]
    exact⟨fun h=>absurd rfl h.2,fun h=>by have:=Option.some.inj h;omega⟩
   ·rw[List.getElem?_set_ne (fun e=>e2 e.symm), ← h.iff n l hl p]
    exact⟨fun h=>h.1,fun h=>⟨h,e2⟩⟩
  ·rw[List.getElem?_set_ne e] at hx'
   rw[h.iff j x hx' p]
   by_cases e2:p=i
   ·subst e2;rw[List.getElem?_set_self hi,ho]
    constructor
    ·intro e3;have:=Option.some.inj e3;omega
    ·intro e3;have:=Option.some.inj e3;omega
   ·rw[List.getElem?_set_ne (fun e=>e2 e.symm)]
theorem Inv.take{m:Nat}{k:Krn}(h:Inv m k)(p:Int):Inv (m+2) (k.take p).2:=by
 by_cases e:dx k p=0
 ·obtain⟨i,n,l,rfl,ho,hl,e⟩:=dz h.ok e
  rw[e]
  exact⟨h.ok.step hl (.inl rfl) (eR l _) (wW l _),h.ag.take ho hl⟩
 ·rw[jE e];exact⟨h.ok.up (by omega),h.ag⟩
theorem Inv.dV{m:Nat}{k:Krn}(h:Inv m k){i n:Nat}{l:Lib}(ho:k.owner[i]?=some (-1))(hl:k.libs[n]?=some l):Inv (m+2) (k.dV (i:Int) (n:Int)).2:=by
 rw[kK ho hl]
 have:=(List.getElem?_eq_some_iff.1 hl).1
 exact⟨h.ok.step hl (.inr ⟨by omega,by omega⟩) (gr l _) (AB l _),h.ag.dV ho hl⟩
end Go.SLYtpbjdoplfgeliaaGreat
namespace Go.SLYtpbjdoplfgeliaaGreat
open Go Go.RowKit
structure aD(a b:Nat)(l l':Lib):Prop where
 vs:l'.vs.length=l.vs.length
 rs:l'.rows.length=l.rows.length
 ev:fU l'≤fU l+a
 rw:∀ m,(∀ r∈l.rows,r.length≤m)→ ∀ r∈l'.rows,r.length≤m+b
theorem aD.refl(l:Lib):aD 0 0 l l:=⟨rfl,rfl,Nat.le_refl _,fun _ h=>h⟩
theorem aD.trans{a b c d:Nat}{l l1 l2:Lib}(h1:aD a b l l1)(h2:aD c d l1 l2):aD (a+c) (b+d) l l2:=by
 have e1:=h1.ev
 have e2:=h2.ev
 exact⟨h2.vs.trans h1.vs,h2.rs.trans h1.rs,by omega,fun m h r hr=>by have:=h2.rw (m+b) (h1.rw m h) r hr;omega⟩
theorem aD.le{a b c d:Nat}{l l':Lib}(h:aD a b l l')(h1:a≤c)(h2:b≤d):aD c d l l':=by
 have e:=h.ev
 exact⟨h.vs,h.rs,by omega,fun m hm r hr=>by have:=h.rw m hm r hr;omega⟩
theorem AF{rows:List (List Int)}{p t:Int}:(rAdd rows p t).length=rows.length:=by
 unfold rAdd;split
 ·rfl
 ·split
  ·rfl
  ·exact List.length_set ..
theorem E1{rows:List (List Int)}{p t:Int}{m:Nat}(h:∀ r∈rows,r.length≤m):∀ r∈rAdd rows p t,r.length≤m+1:=fun r hr=>by
 unfold rAdd at hr
 split at hr
 ·exact Nat.le_succ_of_le (h r hr)
 ·split at hr
  ·exact Nat.le_succ_of_le (h r hr)
  ·rename_i x e
   rcases List.mem_or_eq_of_mem_set hr with hr | rfl
   ·exact Nat.le_succ_of_le (h r hr)
   ·have:=h x (List.mem_of_getElem? (ck e).2.2)
    simp;omega
theorem fQ:∀ {ts:List Int} {rows:List (List Int)} {p:Int},(eb rows p ts).length=rows.length
 | [],_,_=>rfl
 | t::ts,rows,p=>(fQ (ts:=ts) (rows:=rAdd rows p t)).trans AF
theorem lP:∀ {ts:List Int} {rows:List (List Int)} {p:Int} {m:Nat},(∀ r∈rows,r.length≤m)→ ∀ r∈eb rows p ts,r.length≤m+ts.length
 | [],_,_,_,h,r,hr=>h r hr
 | t::ts,rows,p,m,h,r,hr=>by
  have:=lP (ts:=ts) (rows:=rAdd rows p t) (E1 h) r hr
  simp only[List.length_cons];omega
theorem aD.fE(l:Lib)(p:Int)(ts:List Int):aD 0 ts.length l (l.fE p ts):=⟨rfl,fQ,Nat.le_refl _,fun _ h=>lP h⟩
theorem aD.aJ(l:Lib)(t c:Int):aD 0 0 l (l.aJ t c).2:=⟨rfl,rfl,Nat.le_refl _,fun _ h=>h⟩
theorem eV{l:Lib}{i:Nat}{v:aH}(h:l.vs[i]?=some v):l.v (i:Int)=v:=by unfold Lib.v;rw[Int.toNat_natCast,aP h]
theorem aD.je{l:Lib}{i:Nat}{v x:aH}(h:l.vs[i]?=some v){a:Nat}(hx:x.evs.length≤v.evs.length+a):aD a 0 l (l.je (i:Int) x):=by
 refine⟨List.length_set ..,rfl,?_,fun _ h=>h⟩
 have:=sO h x
 unfold fU Lib.je
 simp only[Int.toNat_natCast]
 omega
theorem aD.wX{l:Lib}{i:Nat}{v:aH}(h:l.vs[i]?=some v){x:aH}(hx:x.evs.length≤v.evs.length):aD 0 0 l (l.je (i:Int) x):=aD.je (a:=0) h hx
theorem aD.unlock(l:Lib)(b:Bool):aD 0 0 l {l with locked:=b }:=⟨rfl,rfl,Nat.le_refl _,fun _ h=>h⟩
theorem aD.enter{l:Lib}{i:Nat}{v:aH}(h:l.vs[i]?=some v)(m:Int):aD 0 0 l (l.enter (i:Int) m):=by
 unfold Lib.enter
 split
 ·exact aD.refl _
 ·exact(aD.unlock l true).trans (aD.wX (l:={l with locked:=true }) (x:={l.v (i:Int) with mode:=m }) h (by rw[eV h];exact Nat.le_refl _))
theorem aD.leave{l:Lib}{i:Nat}{v:aH}(h:l.vs[i]?=some v)(m t:Int):aD 0 0 l (l.leave (i:Int) m t) :=
 (aD.unlock l false).trans (aD.wX (l:={l with locked:=false }) (x:={l.v (i:Int) with mode:=m,ab:=t }) h (by rw[eV h];exact Nat.le_refl _))
theorem aD.tell(l:Lib)(ys:List Ev):aD (1+ys.length) 0 l (l.tell ys):=by
 have h:=(dB l ys).1
 exact⟨h.len,congrArg _ h.rows,by have:=DK l ys;omega,fun m hm=>by rw[h.rows];exact hm⟩
theorem uv:∀ {rows rows':List (List Int)} {t:Int},rSteal rows=some (t,rows')→rows'.length=rows.length∧ ∀ m,(∀ r∈rows,r.length≤m)→ ∀ r∈rows',r.length≤m
 | [],_,_,h=>by cases h
 | r::rows,rows',t,h=>by
  unfold rSteal at h
  split at h
  ·cases h
   exact⟨rfl,fun m hm x hx=>by
    rcases List.mem_cons.1 hx with rfl | hx
    ·have:=hm r (List.mem_cons_self ..);rw[List.length_dropLast];omega
    ·exact hm x (List.mem_cons_of_mem _ hx)⟩
  ·split at h
   ·cases h
   ·rename_i t' r' e
    cases h
    obtain⟨h1,h2⟩:=uv e
    exact⟨by rw[List.length_cons,List.length_cons,h1],fun m hm x hx=>by
     rcases List.mem_cons.1 hx with rfl | hx
     ·exact hm _ (List.mem_cons_self ..)
     ·exact h2 m (fun y hy=>hm y (List.mem_cons_of_mem _ hy)) x hx⟩
theorem wY{rows rows':List (List Int)}{p t:Int}(h:rPick rows p=some (t,rows')):rows'.length=rows.length∧ ∀ m,(∀ r∈rows,r.length≤m)→ ∀ r∈rows',r.length≤m:=by
 unfold rPick at h
 split at h
 ·cases h
 ·rename_i u r e
  cases h
  refine⟨List.length_set ..,fun m hm x hx=>?_⟩
  rcases List.mem_or_eq_of_mem_set hx with hx | rfl
  ·exact hm x hx
  ·have:=hm _ (List.mem_of_getElem? (ck e).2.2);simp only[List.length_cons] at this;omega
 ·exact uv h
theorem uw{l:List Ev}{x:Ev}{r:List Ev}(h:evWithin l=some (x,r)):r.length+1=l.length:=by
 unfold evWithin at h
 split at h
 ·cases h
 ·split at h
  ·cases h
  ·rename_i y e2
   cases h
   have:=(List.getElem?_eq_some_iff.1 e2).1
   rw[List.length_append,List.length_take,List.length_drop];omega
theorem ux{k:Nat}{s:Spc}(h:gE k s)(hk:k≤1990)(n c:Int):(s.run n c).1.av.length≤17:=by
 have h1:=(h.fz hk n c).l
 have h2:=gf (s.run n c).2.2.aF 0
 have h3:(s.run n c).2.2.ready.length=(readyFrom (s.run n c).2.2.aF 0).length:=rfl
 rw[(h.run hk n c).lt] at h2
 split at h1 <;> omega
theorem aD.recover{l:Lib}{i:Nat}{v:aH}(h:l.vs[i]?=some v){x:Ev}{rest:List Ev}(hr:rest.length≤v.evs.length)(c:Int)(hw:(l.aI.run x.ab c).1.av.length≤17):aD 0 18 l (l.recover (i:Int) x rest c).2:=by
 have h0:aD 0 0 l (({l with locked:=false }:Lib).je (i:Int) {l.v (i:Int) with evs:=rest }):=(aD.unlock l false).trans (aD.wX (l:={l with locked:=false }) (x:={l.v (i:Int) with evs:=rest }) h hr)
 unfold Lib.recover
 simp only
 split
 ·have h1:=(h0.trans (aD.aJ _ x.ab c)).trans (aD.fE _ (i:Int) (l.aI.run x.ab c).1.av)
  show aD 0 18 l (if _ then _ else _)
  split
  ·exact(h1.trans (aD.fE _ (i:Int) [x.ab])).le (by omega) (by simp only[List.length_cons,List.length_nil];omega)
  ·exact h1.le (by omega) (by omega)
 ·exact h0.le (by omega) (by omega)
theorem aD.gR{l:Lib}{i:Nat}{v:aH}(h:l.vs[i]?=some v)(c:Int)(hw:(l.aI.run v.ab c).1.av.length≤17):aD 19 0 l (l.gR (i:Int) c).2:=by
 unfold Lib.gR
 rw[eV h]
 simp only
 split
 ·exact(aD.wX (x:={v with mode:=6 }) h (Nat.le_refl _)).le (by omega) (by omega)
 ·have h1:=aD.aJ l v.ab c
  have hv:(l.aJ v.ab c).2.vs[i]?=some v:=h
  have hv2:(l.aJ v.ab c).2.v (i:Int)=v:=eV hv
  have hu:(aG (l.aI.run v.ab c).1.av).length≤17:=by unfold aG;rw[List.length_map];exact hw
  have key:∀ l1,aD 1 0 l l1→aD 19 0 l (l1.tell (aG (l.aJ v.ab c).1.xb.av)):=fun l1 hl=>(hl.trans (aD.tell l1 _)).le (by have:(aG (l.aJ v.ab c).1.xb.av).length≤17:=hu;omega) (by omega)
  refine key _ ?_
  split
  ·exact(h1.trans (aD.je (x:=aH.new [⟨2,v.ab,0⟩]) (a:=1) hv (by show 1≤_;omega))).le (by omega) (by omega)
  ·split
   ·rw[hv2];exact(h1.trans (aD.je (x:={v with mode:=3,ab := -1 }) (a:=0) hv (Nat.le_refl _))).le (by omega) (by omega)
   ·exact h1.le (by omega) (by omega)
theorem aD.inside{l:Lib}{i:Nat}{v:aH}(h:l.vs[i]?=some v)(c:Int)(hw:(l.aI.run v.ab c).1.av.length≤17):aD 0 18 l (l.inside (i:Int) c).2:=by
 unfold Lib.inside
 rw[eV h]
 simp only
 have h1:=(aD.aJ l v.ab c).trans (aD.fE (l.aJ v.ab c).2 (i:Int) (l.aI.run v.ab c).1.av)
 have hv:((l.aJ v.ab c).2.fE (i:Int) (l.aI.run v.ab c).1.av).vs[i]?=some v:=h
 show aD 0 18 l (if _ then (if _ then _ else _) else _)
 split
 ·split
  ·have h2:=h1.trans (aD.fE _ (i:Int) [v.ab])
   exact(h2.trans (aD.leave (l:=(l.aJ v.ab c).2.fE (i:Int) (l.aI.run v.ab c).1.av |>.fE (i:Int) [v.ab]) (v:=v) h 3 (-1))).le (by omega) (by simp only[List.length_cons,List.length_nil];omega)
  ·exact(h1.trans (aD.leave (v:=v) hv 5 v.ab)).le (by omega) (by omega)
 ·exact(h1.trans (aD.leave (v:=v) hv 3 (-1))).le (by omega) (by omega)
theorem aD.handle{l:Lib}{i:Nat}{v:aH}(h:l.vs[i]?=some v):aD 0 1 l (l.handle (i:Int)):=by
 unfold Lib.handle
 rw[eV h]
 split
 ·exact(aD.leave h 3 (-1)).le (by omega) (by omega)
 ·rename_i e r he
  have hl:r.length≤v.evs.length:=by rw[he];simp
  simp only
  split
  ·exact((aD.fE l (i:Int) [e.ab]).trans (aD.wX (l:=l.fE (i:Int) [e.ab]) (v:=v) (x:={v with evs:=r }) h hl)).le (by omega) (by simp)
  ·exact(aD.wX (x:={v with evs:=r }) h hl).le (by omega) (by omega)
theorem aD.pick{l:Lib}{i:Nat}{v:aH}(h:l.vs[i]?=some v):aD 0 0 l (l.pick (i:Int)):=by
 unfold Lib.pick
 split
 ·rename_i t rows e
  obtain⟨h1,h2⟩:=wY e
  have h3:aD 0 0 l {l with rows:=rows }:=⟨rfl,h1,Nat.le_refl _,h2⟩
  exact h3.trans (aD.leave (l:={l with rows:=rows }) (v:=v) h 5 t)
 ·exact aD.leave h 8 (-1)
structure fj(k:Nat)(l:Lib):Prop where
 sp:gE (k+1) l.aI
 vl:l.vs.length≤64
 rl:l.rows.length≤64
 ev:fU l≤40 * (k+1)
 rw:∀ r∈l.rows,r.length≤40 * (k+1)
theorem fj.of{k:Nat}{l l':Lib}(h:fj k l)(g:aD 40 40 l l')(hs:gE (k+2) l'.aI):fj (k+1) l':=by
 have e:=g.ev
 have e2:=h.ev
 exact⟨hs,g.vs ▸ h.vl,g.rs ▸ h.rl,by omega,fun r hr=>by have:=g.rw _ h.rw r hr;omega⟩
theorem iq{l:Lib}{p:Int}(h:l.has p=true):∃ (i:Nat) (v:aH),p=(i:Int)∧l.vs[i]?=some v∧¬v.mode=0:=by
 unfold Lib.has at h
 split at h
 ·cases h
 ·rename_i v e
  obtain⟨h0,h1,h2⟩:=ck e
  exact⟨p.toNat,v,by omega,h2,by simpa using h⟩
theorem fj.step{k:Nat}{l:Lib}(h:fj k l)(hk:k≤180)(p c:Int):fj (k+1) (l.step p c).2.2:=by
 have hm:gE (k+2) l.aI:=h.sp.more (by omega)
 unfold Lib.step
 split
 ·rename_i hh
  obtain⟨i,v,rfl,hv, -⟩:=iq hh
  have hr:=fun t=>h.sp.run (show k+1≤1990 by omega) t c
  have hw:=fun t=>ux h.sp (show k+1≤1990 by omega) t c
  simp only
  split
  ·unfold Lib.upcall
   split
   ·rename_i x rest e
    rw[eV hv] at e
    have hl:=uw e
    refine h.of ((aD.recover hv (by omega) c (hw x.ab)).le (by omega) (by omega)) ?_
    unfold Lib.recover
    simp only
    split
    ·show gE (k+2) (Lib.aI (if _ then _ else _))
     split <;> exact hr x.ab
    ·exact hm
   ·refine h.of ((aD.enter hv 2).le (by omega) (by omega)) ?_
    unfold Lib.enter;split <;> exact hm
  ·split
   ·refine h.of ((aD.handle hv).le (by omega) (by omega)) ?_
    unfold Lib.handle
    split
    ·exact hm
    ·show gE (k+2) (Lib.aI (if _ then _ else _))
     split <;> exact hm
   ·split
    ·refine h.of ((aD.enter hv 4).le (by omega) (by omega)) ?_
     unfold Lib.enter;split <;> exact hm
    ·split
     ·refine h.of ((aD.pick hv).le (by omega) (by omega)) ?_
      unfold Lib.pick;split <;> exact hm
     ·split
      ·refine h.of ((aD.gR hv c (hw _)).le (by omega) (by omega)) ?_
       unfold Lib.gR
       simp only
       split
       ·exact hm
       ·rw[(dB _ _).1.aI]
        split
        ·exact hr _
        ·split <;> exact hr _
      ·split
       ·refine h.of ((aD.enter hv 7).le (by omega) (by omega)) ?_
        unfold Lib.enter;split <;> exact hm
       ·split
        ·refine h.of ((aD.inside hv c (hw _)).le (by omega) (by omega)) ?_
         unfold Lib.inside
         simp only
         split
         ·split <;> exact hr _
         ·exact hr _
        ·split
         ·split
          ·exact h.of ((aD.refl _).le (by omega) (by omega)) hm
          ·refine h.of ((aD.je (x:={l.v (i:Int) with mode:=3 }) (a:=0) hv (by rw[eV hv];exact Nat.le_refl _)).le (by omega) (by omega)) hm
         ·exact h.of ((aD.refl _).le (by omega) (by omega)) hm
 ·exact h.of ((aD.refl _).le (by omega) (by omega)) hm
end Go.SLYtpbjdoplfgeliaaGreat
namespace Go.SLYtpbjdoplfgeliaaGreat
open Go Go.RowKit
theorem m4{n:Int}:∀ {o:List Int} {k:Nat}, ∀ p∈posFrom n o k,(k:Int)≤p
 | [],_,_,h=>by cases h
 | x::o,k,p,h=>by
  rw[posFrom] at h
  split at h
  ·rcases List.mem_cons.1 h with e | e
   ·omega
   ·have:=m4 p e;omega
  ·have:=m4 p h;omega
theorem gT(n:Int):∀ (o:List Int) (k:Nat),(posFrom n o k).length=o.count n
 | [],_=>rfl
 | x::o,k=>by
  rw[posFrom,List.count_cons]
  by_cases e:x=n
  ·rw[if_pos e,List.length_cons,gT n o,if_pos (by simpa using e)]
  ·rw[if_neg e,gT n o,if_neg (by simpa using e)];rfl
theorem pW:∀ (l:List Int) (x:Int),(∀ y∈l,x≤y)→l.foldl min x=x
 | [],_,_=>rfl
 | y::l,x,h=>by
  rw[List.foldl_cons,show min x y=x from by have:=h y (List.mem_cons_self ..);omega]
  exact pW l x fun z hz=>h z (List.mem_cons_of_mem _ hz)
theorem DL(n:Int):∀ (o:List Int) (k:Nat),minOf (posFrom n o k)=(posFrom n o k).headD 0
 | [],_=>rfl
 | x::o,k=>by
  rw[posFrom]
  split
  ·exact pW _ _ fun y hy=>by
    have:=m4 y hy
    show(k:Int)≤y
    omega
  ·exact DL n o (k+1)
theorem AG(n:Int):∀ {o:List Int} {k:Nat} {p:Int} {r:List Int},posFrom n o k=p::r→ ∃ i:Nat,p=((k+i:Nat):Int)∧o[i]?=some n
 | [],_,_,_,h=>by cases h
 | x::o,k,p,r,h=>by
  rw[posFrom] at h
  split at h
  ·rename_i e
   exact⟨0,(List.cons.inj h).1.symm,by rw[e];rfl⟩
  ·obtain⟨i,e,hi⟩:=AG n h
   exact⟨i+1,by rw[e];congr 1;omega,by simpa using hi⟩
theorem wZ{k:Krn}(h:0<k.owner.count (-1)):∃ (i:Nat) (r:List Int),k.free=(i:Int)::r∧k.owner[i]?=some (-1)∧minOf k.free=(i:Int):=by
 have hf:k.free=posFrom (-1) k.owner 0:=m3 _ _
 cases e:posFrom (-1) k.owner 0 with
 | nil=>have:=gT (-1) k.owner 0;rw[e] at this;simp at this;omega
 | cons p r =>
  obtain⟨i,rfl,hi⟩:=AG (-1) e
  rw[Nat.zero_add] at *
  exact⟨i,r,hf.trans e,hi,by rw[hf,DL,e];rfl⟩
/-! counting -/
def cntTo(o:List Int):Nat→Nat
 | 0=>0
 | L+1=>cntTo o L+o.count (L:Int)
theorem AH(x:Int)(o:List Int):∀ L,cntTo (x::o) L=cntTo o L+(if 0≤x∧x<(L:Int) then 1 else 0)
 | 0=>by rw[cntTo,cntTo,if_neg (by omega)]
 | L+1=>by
  rw[cntTo,cntTo,AH x o L,List.count_cons]
  by_cases e:x=(L:Int)
  ·subst e;rw[if_neg (by omega),if_pos (by simp),if_pos (by omega)];omega
  ·rw[if_neg (show ¬(x == (L:Int))=true by simpa using e)]
   by_cases e2:0≤x∧x<(L:Int)
   ·rw[if_pos e2,if_pos (by omega)];omega
   ·rw[if_neg e2,if_neg (by omega)];omega
theorem yP{L:Nat}:∀ {o:List Int},(∀ v∈o,v = -1∨(0≤v∧v<(L:Int)))→o.length=o.count (-1)+cntTo o L
 | [],_=>by induction L with
  | zero=>rfl
  | succ L ih=>rw[cntTo];simpa using ih (by simp)
 | x::o,h=>by
  have ih:=yP (L:=L) (o:=o) fun v hv=>h v (List.mem_cons_of_mem _ hv)
  rw[List.length_cons,List.count_cons,AH,ih]
  rcases h x (List.mem_cons_self ..) with e | e
  ·rw[if_pos (by simpa using e),if_neg (by omega)];omega
  ·rw[if_neg (by simp;omega),if_pos e];omega
def bR(l:List Int):Nat:=(l.map Int.toNat).sum
theorem kh(l:List Int)(x:Int):bR (l++[x])=bR l+x.toNat:=by unfold bR;rw[List.map_append,List.sum_append];simp
theorem HK{o want:List Int}(h:∀ (i:Nat) (w:Int),want[i]?=some w→o.count (i:Int)≤w.toNat):∀ L≤want.length,cntTo o L≤bR (want.take L)
 | 0,_=>Nat.zero_le _
 | L+1,hL=>by
  obtain⟨w,hw⟩:=ai (show L<want.length by omega)
  rw[cntTo,aW hw,kh]
  have:=HK h L (by omega)
  have:=h L w hw
  omega
theorem HL{o want:List Int}(h:∀ (i:Nat) (w:Int),want[i]?=some w→o.count (i:Int)≤w.toNat){n:Nat}{w:Int}(hw:want[n]?=some w)(hl:o.count (n:Int)<w.toNat):∀ L≤want.length,n<L→cntTo o L<bR (want.take L)
 | 0,_,hn=>absurd hn (by omega)
 | L+1,hL,hn=>by
  obtain⟨x,hx⟩:=ai (show L<want.length by omega)
  rw[cntTo,aW hx,kh]
  by_cases e:n=L
  ·subst e
   rw[hw] at hx
   obtain rfl:=Option.some.inj hx
   have:=HK h n (by omega)
   omega
  ·have:=HL h hw hl L (by omega) (by omega)
   have:=h L x hx
   omega
structure Room(want:List Int)(k:Krn):Prop where
 len:want.length=k.libs.length
 sum:bR want≤k.owner.length
 nV:∀ (i:Nat) (w:Int),want[i]?=some w→k.owner.count (i:Int)≤w.toNat
theorem Room.free{want:List Int}{k:Krn}{m:Nat}(h:Room want k)(hk:o0 m k){n:Nat}{w:Int}(hw:want[n]?=some w)(hl:k.owner.count (n:Int)<w.toNat):0<k.owner.count (-1):=by
 have hn:=(List.getElem?_eq_some_iff.1 hw).1
 have h1:=HL h.nV hw hl want.length (Nat.le_refl _) hn
 rw[List.take_length,h.len] at h1
 have h2:=yP hk.own
 have:=h.sum
 omega
theorem count_set{o:List Int}{i:Nat}{a b:Int}(h:o[i]?=some a)(n:Int):(o.set i b).count n+(if a=n then 1 else 0)=o.count n+(if b=n then 1 else 0):=by
 induction o generalizing i with
 | nil=>simp at h
 | cons x o ih =>
  cases i with
  | zero =>
   simp at h;subst h
   rw[List.set_cons_zero,List.count_cons,List.count_cons]
   by_cases e1:x=n <;> by_cases e2:b=n <;> simp[e1,e2]
  | succ i =>
   have:=ih (i:=i) (by simpa using h)
   rw[List.set_cons_succ,List.count_cons,List.count_cons]
   omega
theorem Room.dV{want:List Int}{k:Krn}(h:Room want k){n i:Nat}{w:Int}{l:Lib}(hw:want[n]?=some w)(hl:k.owner.count (n:Int)<w.toNat)(ho:k.owner[i]?=some (-1))(hb:k.libs[n]?=some l):Room want (k.dV (i:Int) (n:Int)).2∧(k.dV (i:Int) (n:Int)).2.owner.count (n:Int)=k.owner.count (n:Int)+1:=by
 rw[kK ho hb]
 have h0:=count_set (b:=(n:Int)) ho (n:Int)
 rw[if_neg (by omega),if_pos rfl] at h0
 refine⟨⟨by rw[h.len];exact(List.length_set ..).symm,by show _≤(k.owner.set i (n:Int)).length;rw[List.length_set];exact h.sum,fun j x hx=>?_⟩,by simpa using h0⟩
 show(k.owner.set i (n:Int)).count (j:Int)≤x.toNat
 by_cases e:n=j
 ·subst e
  rw[hw] at hx
  obtain rfl:=Option.some.inj hx
  omega
 ·have h1:=count_set (b:=(n:Int)) ho (j:Int)
  rw[if_neg (by omega),if_neg (by omega)] at h1
  have:=h.nV j x hx
  omega
/-! what is taken -/
def trim(n:Int):Nat→List Int→List Int
 | _,[]=>[]
 | 0,x::o=>if x=n then -1::trim n 0 o else x::trim n 0 o
 | w+1,x::o=>if x=n then x::trim n w o else x::trim n (w+1) o
def setAll(k:Nat):List Int→List Int→List Int
 | [],o=>o
 | p::ps,o=>setAll k ps (o.set (p.toNat-k) (-1))
theorem iL{k:Nat}{x:Int}:∀ {ps o:List Int},(∀ p∈ps,((k+1:Nat):Int)≤p)→setAll k ps (x::o)=x::setAll (k+1) ps o
 | [],_,_=>rfl
 | p::ps,o,h=>by
  have hp:=h p (List.mem_cons_self ..)
  rw[setAll,setAll,show p.toNat-k=(p.toNat-(k+1))+1 from by omega,List.set_cons_succ]
  exact iL fun q hq=>h q (List.mem_cons_of_mem _ hq)
theorem iM(n:Int):∀ (o:List Int) (k w:Nat),setAll k ((posFrom n o k).drop w) o=trim n w o
 | [],k,w=>by
  rw[posFrom,List.drop_nil];cases w <;> rfl
 | x::o,k,0=>by
  rw[posFrom,trim]
  by_cases e:x=n
  ·rw[if_pos e,if_pos e,List.drop_zero,setAll,show((k:Int)).toNat-k=0 from by omega,List.set_cons_zero,iL (fun p hp=>m4 p hp)]
   have:=iM n o (k+1) 0
   rw[List.drop_zero] at this
   rw[this]
  ·rw[if_neg e,if_neg e,List.drop_zero,iL (fun p hp=>m4 p hp)]
   have:=iM n o (k+1) 0
   rw[List.drop_zero] at this
   rw[this]
 | x::o,k,w+1=>by
  rw[posFrom,trim]
  by_cases e:x=n
  ·rw[if_pos e,if_pos e,List.drop_succ_cons,iL (fun p hp=>m4 p (List.mem_of_mem_drop hp)),iM n o (k+1) w]
  ·rw[if_neg e,if_neg e,iL (fun p hp=>m4 p (List.mem_of_mem_drop hp)),iM n o (k+1) (w+1)]
theorem jL(n j:Int)(hj:j≠ -1)(hn:n≠ -1):∀ (o:List Int) (w:Nat),(trim n w o).count j=if j=n then min w (o.count n) else o.count j
 | [],w=>by cases w <;> simp[trim]
 | x::o,0=>by
  rw[trim]
  have ih:=jL n j hj hn o 0
  by_cases e:x=n
  ·rw[if_pos e,List.count_cons_of_ne (fun e=>hj e.symm),ih]
   by_cases e2:j=n
   ·rw[if_pos e2,if_pos e2];omega
   ·rw[if_neg e2,if_neg e2,List.count_cons_of_ne (fun e3=>e2 (by rw[← e3,e]))]
  ·rw[if_neg e]
   by_cases e2:j=n
   ·rw[List.count_cons_of_ne (fun e3=>e (by rw[e3,e2])),ih,if_pos e2,if_pos e2];omega
   ·rw[if_neg e2,List.count_cons,List.count_cons,ih,if_neg e2]
 | x::o,w+1=>by
  rw[trim]
  by_cases e:x=n
  ·rw[if_pos e]
   have ih:=jL n j hj hn o w
   by_cases e2:j=n
   ·rw[if_pos e2] at ih ⊢
    subst e2 e
    rw[List.count_cons_self,List.count_cons_self,ih];omega
   ·rw[if_neg e2] at ih ⊢
    rw[List.count_cons,List.count_cons,ih]
  ·rw[if_neg e]
   have ih:=jL n j hj hn o (w+1)
   by_cases e2:j=n
   ·rw[if_pos e2] at ih ⊢
    rw[List.count_cons_of_ne (fun e3=>e (by rw[e3,e2])),ih,List.count_cons_of_ne e]
   ·rw[if_neg e2] at ih ⊢
    rw[List.count_cons,List.count_cons,ih]
theorem Cd{m:Nat}{k:Krn}(h:o0 m k){p:Int}(hp:0≤p):(k.take p).2.owner=k.owner.set p.toNat (-1):=by
 by_cases e:dx k p=0
 ·obtain⟨i,n,l,rfl,ho,hl,e⟩:=dz h e
  rw[e];rfl
 ·rw[jE e]
  show k.owner=_
  unfold dx aL at e
  rw[if_neg (by omega)] at e
  cases e2:k.owner[p.toNat]? with
  | none=>rw[List.set_eq_of_length_le (by simpa using e2)]
  | some o =>
   rw[e2] at e
   simp only at e
   by_cases e3:o = -1
   ·subst e3
    refine List.ext_getElem? fun i=>?_
    by_cases e4:p.toNat=i
    ·subst e4;rw[List.getElem?_set_self (List.getElem?_eq_some_iff.1 e2).1,e2]
    ·rw[List.getElem?_set_ne e4]
   ·rw[if_neg e3] at e;exact absurd rfl e
theorem oc:∀ (ps:List Int) {m:Nat} {k:Krn},Inv m k→(∀ p∈ps,0≤p)→Inv (m+2 * ps.length) (eG ps k)∧(eG ps k).owner=setAll 0 ps k.owner∧(eG ps k).libs.length=k.libs.length
 | [],m,k,h,_=>⟨h,rfl,rfl⟩
 | p::ps,m,k,h,hp=>by
  obtain⟨h1,h2,h3⟩:=oc ps (h.take p) fun q hq=>hp q (List.mem_cons_of_mem _ hq)
  refine⟨⟨h1.ok.up (by simp;omega),h1.ag⟩,?_,?_⟩
  ·show(eG ps (k.take p).2).owner=_
   rw[h2,Cd h.ok (hp p (List.mem_cons_self ..))];rfl
  ·show(eG ps (k.take p).2).libs.length=_
   rw[h3]
   by_cases e:dx k p=0
   ·obtain⟨i,n,l,rfl,ho,hl,e⟩:=dz h.ok e
    rw[e];exact List.length_set ..
   ·rw[jE e]
theorem kR{m:Nat}{k:Krn}(h:o0 m k)(p:Int):(k.take p).2.libs.length=k.libs.length∧(k.take p).2.owner.length=k.owner.length:=by
 by_cases e:dx k p=0
 ·obtain⟨i,n,l,rfl,ho,hl,e⟩:=dz h e
  rw[e];exact⟨List.length_set ..,List.length_set ..⟩
 ·rw[jE e];exact⟨rfl,rfl⟩
end Go.SLYtpbjdoplfgeliaaGreat
namespace Go.SLYtpbjdoplfgeliaaGreat
open Go Go.RowKit
def trims:List Int→Nat→List Int→List Int
 | [],_,o=>o
 | w::l,n,o=>trims l (n+1) (trim (n:Int) w.toNat o)
theorem Ce{n:Int}{o:List Int}:∀ p∈pos n o,(0:Int)≤p:=fun p hp=>by have:=m4 p hp;omega
theorem DM{m:Nat}{k:Krn}(h:Inv m k){n:Nat}(hn:n<k.libs.length)(w:Nat):Inv (m+2 * ((cu k n).drop w).length) (eG ((cu k n).drop w) k)∧(eG ((cu k n).drop w) k).owner=trim (n:Int) w k.owner∧(eG ((cu k n).drop w) k).libs.length=k.libs.length:=by
 have e:=h.ag.cu hn
 rw[e]
 obtain⟨h1,h2,h3⟩:=oc ((pos (n:Int) k.owner).drop w) h fun p hp=>Ce p (List.mem_of_mem_drop hp)
 exact⟨h1,by rw[h2];exact iM _ _ _ _,h3⟩
theorem uy(n:Int):∀ (o:List Int) (w:Nat),(trim n w o).length=o.length
 | [],w=>by cases w <;> rfl
 | x::o,0=>by rw[trim];split <;> simp[uy n o]
 | x::o,w+1=>by rw[trim];split <;> simp[uy n o]
theorem jM:∀ (l:List Int) (n:Nat) {m:Nat} {k:Krn} (mv:Nat),Inv m k→n+l.length≤k.libs.length→(∃ m',Inv m' (takeFrom l n (k,mv)).1)∧(takeFrom l n (k,mv)).1.owner=trims l n k.owner∧(takeFrom l n (k,mv)).1.libs.length=k.libs.length
 | [],n,m,k,mv,h,_=>⟨⟨m,h⟩,rfl,rfl⟩
 | w::l,n,m,k,mv,h,hl=>by
  simp only[List.length_cons] at hl
  obtain⟨h1,h2,h3⟩:=DM h (n:=n) (by omega) w.toNat
  obtain⟨g1,g2,g3⟩:=jM l (n+1) (mv+((cu k n).drop w.toNat).length) h1 (by omega)
  rw[takeFrom,trims]
  exact⟨g1,by rw[g2,h2],by rw[g3,h3]⟩
theorem w8:∀ (l:List Int) (n:Nat) (o:List Int),(trims l n o).length=o.length
 | [],_,_=>rfl
 | w::l,n,o=>by rw[trims,w8 l,uy]
theorem trims_count:∀ (l:List Int) (n:Nat) (o:List Int) (j:Nat),(trims l n o).count (j:Int)=match (if j<n then none else l[j-n]?) with | none=>o.count (j:Int) | some w=>min w.toNat (o.count (j:Int))
 | [],n,o,j=>by rw[trims];split <;> simp_all
 | w::l,n,o,j=>by
  rw[trims,trims_count l (n+1),jL _ _ (by omega) (by omega)]
  by_cases h1:j<n
  ·rw[if_pos h1,if_pos (by omega),if_neg (by omega)]
  ·rw[if_neg h1]
   by_cases h2:j=n
   ·subst h2;rw[if_pos (by omega),if_pos rfl,Nat.sub_self];rfl
   ·rw[if_neg (by omega),if_neg (by omega),show j-n=(j-(n+1))+1 from by omega,List.getElem?_cons_succ]
theorem q8{m:Nat}{k:Krn}(h:Inv m k){want:List Int}(hl:want.length=k.libs.length)(hs:bR want≤k.owner.length):Room want (takeFrom want 0 (k,0)).1:=by
 obtain⟨_,h2,h3⟩:=jM want 0 0 h (by omega)
 refine⟨by rw[h3,hl],by rw[h2,w8];exact hs,fun i w hw=>?_⟩
 rw[h2,trims_count,if_neg (by omega),Nat.sub_zero,hw]
 exact Nat.min_le_left _ _
/-! what is dealt out is there -/
theorem uz:∀ {o:List Int} {i:Nat} {a:Int} (b:Int),o[i]?=some a→bR (o.set i b)+a.toNat=bR o+b.toNat
 | [],_,_,_,h=>by simp at h
 | x::o,0,a,b,h=>by simp at h;subst h;simp[bR];omega
 | x::o,i+1,a,b,h=>by
  have:=uz b (o:=o) (i:=i) (by simpa using h)
  rw[List.set_cons_succ]
  simp only[bR,List.map_cons,List.sum_cons] at *
  omega
theorem HM{d:Deal}(h:vJ d)(p:Int)(n:Nat)(hn:n<d.demand.length):bR (d.step p n).1.out+(d.step p n).1.left.toNat=bR d.out+d.left.toNat:=by
 by_cases c:0<d.left∧d.hD n p=true
 ·rw[kL c]
  obtain⟨y,hy⟩:=ai (show n<d.out.length by rw[h.ol];exact hn)
  have:=uz (d.out.getD n 0+1) hy
  have hy0:=h.om y (List.mem_of_getElem? hy)
  rw[aP hy] at *
  simp only
  omega
 ·rw[j6 c]
theorem Cf(p:Int)(f:Nat):∀ (m k:Nat) (d:Deal) (any:Bool),vJ d→bR (Deal.go p f m k d any).1.out+(Deal.go p f m k d any).1.left.toNat=bR d.out+d.left.toNat
 | 0,_,_,_,_=>rfl
 | m+1,k,d,any,h=>by
  rw[Deal.go]
  by_cases h0:0<d.demand.length
  ·rw[Cf p f m (k+1) _ _ (yi h p _),HM h p _ (Nat.mod_lt _ h0)]
  ·have hs:(d.step p ((f+k) % d.demand.length))=(d,false):=j6 fun c=>by
    have hw:=c.2
    unfold Deal.hD at hw
    have e1:d.demand=[]:=List.eq_nil_of_length_eq_zero (by omega)
    have e2:d.out=[]:=List.eq_nil_of_length_eq_zero (by rw[h.ol];omega)
    rw[e1,e2] at hw
    simp at hw
   rw[hs]
   exact Cf p f m (k+1) d _ h
theorem uA(p:Int)(f:Nat):∀ (a:Nat) (d:Deal),vJ d→vJ (Deal.rounds p f a d)∧(Deal.rounds p f a d).demand=d.demand∧bR (Deal.rounds p f a d).out+(Deal.rounds p f a d).left.toNat=bR d.out+d.left.toNat
 | 0,_,h=>⟨h,rfl,rfl⟩
 | a+1,d,h=>by
  obtain⟨_,_,_,r4,_,r6⟩:=round_facts d p f
  have rs:=Cf p f d.demand.length 0 d false h
  rw[Deal.rounds]
  split
  ·obtain⟨h1,h2,h3⟩:=uA p f a _ (r6 h)
   exact⟨h1,h2.trans r4,h3.trans rs⟩
  ·exact⟨r6 h,r4,rs⟩
theorem q9(f:Nat):∀ (r:Nat) (d:Deal),vJ d→vJ (priosN f r d)∧(priosN f r d).demand=d.demand∧bR (priosN f r d).out+(priosN f r d).left.toNat=bR d.out+d.left.toNat
 | 0,_,h=>⟨h,rfl,rfl⟩
 | r+1,d,h=>by
  obtain⟨h1,h2,h3⟩:=uA (r:Int) f (d.left.toNat+1) d h
  obtain⟨g1,g2,g3⟩:=q9 f r _ h1
  rw[priosN]
  exact⟨g1,g2.trans h2,g3.trans h3⟩
theorem pX(n:Nat):bR (List.replicate n 0)=0:=by
 induction n with
 | zero=>rfl
 | succ n ih=>rw[List.replicate_succ];unfold bR at *;simp only[List.map_cons,List.sum_cons];rw[ih];rfl
theorem lQ{procs turn:Int}{demand prio out:List Int}(hd:∀ z∈demand,z≤1000000)(h:fm procs demand prio turn=some out):out.length=demand.length∧(∀ w∈out,0≤w)∧(bR out:Int)≤procs∧bR out≤64:=by
 by_cases c:demand.length=prio.length∧demand.length≤8∧within procs 64=true
 ·by_cases hp:prio.all (fun p=>within p 7)=true
  ·have hw:=c.2.2
   unfold within at hw
   simp only[Bool.and_eq_true,decide_eq_true_eq] at hw
   by_cases h0:demand.length=0
   ·rw[pA c hp h0] at h
    obtain rfl:=Option.some.inj h
    exact⟨h0.symm,fun w hw=>(by cases hw),by simp[bR];omega,by simp[bR]⟩
   ·rw[mQ c hp h0] at h
    obtain rfl:=Option.some.inj h
    obtain⟨h1,h2,h3⟩:=q9 (pick turn demand.length) 8 _ (yj (procs:=procs) c hd)
    have hz:bR (vK procs demand prio).out=0:=pX _
    have hl:(vK procs demand prio).left=procs:=rfl
    refine⟨by rw[h1.ol,h2];rfl,h1.om,?_,?_⟩ <;> · rw[hz,hl] at h3;omega
  ·obtain⟨p,hp2,hb⟩:∃ p∈prio,within p 7=false:=by
    refine Decidable.of_not_not fun e=>hp (List.all_eq_true.2 fun p hp=>?_)
    cases e2:within p 7 with
    | true=>rfl
    | false=>exact absurd ⟨p,hp,e2⟩ e
   obtain⟨i,hi⟩:=List.getElem?_of_mem hp2
   rw[pz hi hb] at h;cases h
 ·rw[sF (by
   by_cases c1:demand.length=prio.length
   ·by_cases c2:demand.length≤8
    ·exact .inr (Bool.eq_false_iff.2 fun e=>c ⟨c1,c2,e⟩)
    ·exact .inl (.inr (by omega))
   ·exact .inl (.inl (by omega)))] at h
  cases h
theorem lR{m:Nat}{k:Krn}(hk:o0 m k):∀ z∈k.demand,z≤1000000:=fun z hz=>by
 unfold Krn.demand at hz
 obtain⟨l,hl,rfl⟩:=List.mem_map.1 hz
 have:=(hk.gy l hl).th
 have:=ic l.aI.aF 0
 show((readyFrom l.aI.aF 0).length:Int)≤_
 omega
theorem dT{m:Nat}{k:Krn}(hk:o0 m k)(prio:List Int)(turn:Int):(k.targets prio turn).length≤k.libs.length∧(∀ w∈k.targets prio turn,0≤w∧w≤64)∧bR (k.targets prio turn)≤k.owner.length∧(k.targets prio turn≠[]→(k.targets prio turn).length=k.libs.length):=by
 unfold Krn.targets
 cases e:fm (k.owner.length:Int) k.demand prio turn with
 | none=>exact⟨Nat.zero_le _,fun w hw=>(by cases hw),Nat.zero_le _,fun h=>absurd rfl h⟩
 | some out =>
  obtain⟨h1,h2,h3,h4⟩:=lQ (lR hk) e
  have hdl:k.demand.length=k.libs.length:=by unfold Krn.demand;exact List.length_map ..
  refine⟨by show out.length≤_;omega,fun w hw=>⟨h2 w hw,?_⟩,by show bR out≤_;omega,fun _=>by show out.length=_;omega⟩
  have h5:=zU (List.mem_map_of_mem (f:=Int.toNat) hw)
  have h6:w.toNat≤bR out:=h5
  omega
theorem kk{A:aa}:∀ h,seps [A] h→A h:=fun h a=>by simpa only[seps,aK] using a
theorem HN{k:Krn}{prio:List Int}{turn:Int}(h:¬((k.targets prio turn).length:Int)=(k.libs.length:Int)):k.fair prio turn=false:=by
 unfold Krn.fair;rw[decide_eq_false (show ¬(k.targets prio turn).length=k.libs.length from fun e=>h (by rw[e]))];rfl
theorem AI{k:Krn}{prio:List Int}{turn:Int}{n:Nat}{l:Lib}{w:Int}(hl:k.libs[n]?=some l)(hw:(k.targets prio turn)[n]?=some w)(h:¬(l.procs.length:Int)=w):k.fair prio turn=false:=by
 unfold Krn.fair
 rw[decide_eq_false (p:=(k.libs.map fun l=>(l.procs.length:Int))=k.targets prio turn) fun e=>h ?_,Bool.and_false]
 have:(k.libs.map fun l=>(l.procs.length:Int))[n]?=some (l.procs.length:Int):=by rw[List.getElem?_map,hl];rfl
 rw[e,hw] at this
 exact(Option.some.inj this).symm
theorem DN{k:Krn}{prio:List Int}{turn:Int}(h:(k.targets prio turn).length=k.libs.length)(h2:(k.libs.map fun l=>(l.procs.length:Int))=k.targets prio turn):k.fair prio turn=true:=by
 unfold Krn.fair;rw[decide_eq_true h,decide_eq_true h2];rfl
theorem HO{α:Type}(l:List α)(w:Nat):l.drop (min l.length w)=l.drop w:=by
 by_cases h:w≤l.length
 ·rw[show min l.length w=w from by omega]
 ·rw[show min l.length w=l.length from by omega,List.drop_length,List.drop_of_length_le (by omega)]
theorem E2{want:List Int}{k:Krn}{n mv:Nat}{w:Int}{l:Lib}{ps:List Int}(hw:want[n]?=some w)(hl:k.libs[n]?=some l)(hp:ps=l.procs.drop w.toNat):takeFrom (want.drop n) n (k,mv)=takeFrom (want.drop (n+1)) (n+1) (eG ps k,mv+ps.length):=by
 rw[drop_cons hw,takeFrom,hp]
 unfold cu;rw[aP hl]
theorem ra{want:List Int}{k:Krn}{m n mv:Nat}{w:Int}(hw:want[n]?=some w)(hi:Inv m k)(hn:n<k.libs.length):cO (want.drop n) n (k,mv)=cO (want.drop (n+1)) (n+1) (giveTo (w.toNat-k.owner.count (n:Int)) (n:Int) k,mv+(w.toNat-k.owner.count (n:Int))):=by
 rw[drop_cons hw,cO,hi.ag.cu hn,show(pos (n:Int) k.owner).length=k.owner.count (n:Int) from gT _ _ _]
end Go.SLYtpbjdoplfgeliaaGreat
namespace Go.SLYtpbjdoplfgeliaaGreat
open Go Go.RowKit
def eO(k:Krn):List Spc:=k.libs.map (·.aI)
theorem uB{α β:Type}{f:α→β}{xs:List α}{i:Nat}{x y:α}(h:xs[i]?=some x)(e:f y=f x):(xs.set i y).map f=xs.map f:=by
 rw[List.map_set]
 refine List.ext_getElem? fun j=>?_
 by_cases e2:i=j
 ·subst e2
  rw[List.getElem?_set_self (by rw[List.length_map];exact(List.getElem?_eq_some_iff.1 h).1),List.getElem?_map,h,e];rfl
 ·rw[List.getElem?_set_ne e2]
theorem E3{m:Nat}{k:Krn}(h:o0 m k)(p:Int):eO (k.take p).2=eO k:=by
 by_cases e:dx k p=0
 ·obtain⟨i,n,l,rfl,ho,hl,e⟩:=dz h e
  rw[e];exact uB hl (eR l _).aI
 ·rw[jE e]
theorem uC(k:Krn)(p n:Int):(k.dV p n).2=k∨ ∃ (i j:Nat) (l:Lib),p=(i:Int)∧n=(j:Int)∧k.owner[i]?=some (-1)∧k.libs[j]?=some l∧k.dV p n=(0,⟨k.owner.set i (j:Int),k.libs.set j (l.dq (i:Int)).2⟩):=by
 cases e1:aL k.owner p with
 | none=>left;unfold Krn.dV;rw[e1]
 | some o =>
  cases e2:aL k.libs n with
  | none=>left;unfold Krn.dV;rw[e1,e2]
  | some l =>
   by_cases e3:o = -1
   ·right
    subst e3
    have hp:0≤p:=by
     unfold aL at e1
     split at e1
     ·cases e1
     ·omega
    have hn:0≤n:=by
     unfold aL at e2
     split at e2
     ·cases e2
     ·omega
    obtain⟨i,rfl⟩:∃ i:Nat,p=(i:Int):=⟨p.toNat,by omega⟩
    obtain⟨j,rfl⟩:∃ j:Nat,n=(j:Int):=⟨n.toNat,by omega⟩
    rw[aV] at e1 e2
    exact⟨i,j,l,rfl,rfl,e1,e2,kK e1 e2⟩
   ·left;unfold Krn.dV;rw[e1,e2];simp only;rw[if_neg e3]
theorem AJ{m:Nat}{k:Krn}(h:Inv m k)(p n:Int):Inv (m+2) (k.dV p n).2∧eO (k.dV p n).2=eO k∧(k.dV p n).2.owner.length=k.owner.length∧(k.dV p n).2.libs.length=k.libs.length:=by
 rcases uC k p n with e | ⟨i,j,l,rfl,rfl,ho,hl,e⟩
 ·rw[e];exact⟨⟨h.ok.up (by omega),h.ag⟩,rfl,rfl,rfl⟩
 ·refine⟨h.dV ho hl,?_⟩
  rw[e]
  exact⟨uB hl (gr l _).aI,List.length_set ..,List.length_set ..⟩
structure jN(k k':Krn):Prop where
 aI:eO k'=eO k
 ol:k'.owner.length=k.owner.length
 ll:k'.libs.length=k.libs.length
theorem jN.refl(k:Krn):jN k k:=⟨rfl,rfl,rfl⟩
theorem jN.trans{a b c:Krn}(h:jN a b)(g:jN b c):jN a c:=⟨g.1.trans h.1,g.2.trans h.2,g.3.trans h.3⟩
theorem pY:∀ (ps:List Int) {m:Nat} {k:Krn},Inv m k→Inv (m+2 * ps.length) (eG ps k)∧jN k (eG ps k)
 | [],m,k,h=>⟨h,.refl k⟩
 | p::ps,m,k,h=>by
  obtain⟨h1,h2⟩:=pY ps (h.take p)
  exact⟨⟨h1.ok.up (by simp;omega),h1.ag⟩,jN.trans ⟨E3 h.ok p,(kR h.ok p).2,(kR h.ok p).1⟩ h2⟩
theorem km(n:Int):∀ (c:Nat) {m:Nat} {k:Krn},Inv m k→Inv (m+2 * c) (giveTo c n k)∧jN k (giveTo c n k)
 | 0,m,k,h=>⟨h,.refl k⟩
 | c+1,m,k,h=>by
  obtain⟨g1,g2,g3,g4⟩:=AJ h (k.free.headD 0) n
  obtain⟨h1,h2⟩:=km n c g1
  exact⟨⟨h1.ok.up (by omega),h1.ag⟩,jN.trans ⟨g2,g3,g4⟩ h2⟩
theorem lS{m:Nat}{k:Krn}(h:Inv m k){n:Nat}(hn:n<k.libs.length):(cu k n).length=k.owner.count (n:Int):=by
 rw[h.ag.cu hn];exact gT _ _ _
theorem iz:∀ (l:List Int) (n mv:Nat) {m:Nat} {k:Krn},Inv m k→n+l.length≤k.libs.length→Inv (m+128 * l.length) (takeFrom l n (k,mv)).1∧jN k (takeFrom l n (k,mv)).1
 | [],n,mv,m,k,h,_=>⟨h,.refl k⟩
 | w::l,n,mv,m,k,h,hl=>by
  simp only[List.length_cons] at hl
  obtain⟨h1,h2⟩:=pY ((cu k n).drop w.toNat) h
  have hp:=lS h (n:=n) (by omega)
  have hc:k.owner.count (n:Int)≤64:=Nat.le_trans List.count_le_length h.ok.ol
  obtain⟨g1,g2⟩:=iz l (n+1) (mv+((cu k n).drop w.toNat).length) h1 (by rw[h2.ll];omega)
  rw[takeFrom]
  exact⟨⟨g1.ok.up (by rw[List.length_drop];simp only[List.length_cons];omega),g1.ag⟩,h2.trans g2⟩
theorem od:∀ (l:List Int) (n mv:Nat) {m:Nat} {k:Krn},Inv m k→(∀ w∈l,w≤64)→Inv (m+128 * l.length) (cO l n (k,mv)).1∧jN k (cO l n (k,mv)).1
 | [],n,mv,m,k,h,_=>⟨h,.refl k⟩
 | w::l,n,mv,m,k,h,hl=>by
  obtain⟨h1,h2⟩:=km (n:Int) (w.toNat - (cu k n).length) h
  have hw:=hl w (List.mem_cons_self ..)
  obtain⟨g1,g2⟩:=od l (n+1) (mv+(w.toNat - (cu k n).length)) h1 fun x hx=>hl x (List.mem_cons_of_mem _ hx)
  rw[cO]
  exact⟨⟨g1.ok.up (by simp only[List.length_cons];omega),g1.ag⟩,h2.trans g2⟩
theorem sP{α β:Type}(z:α×β):z=(z.1,z.2):=rfl
theorem dH{m:Nat}{k:Krn}(h:Inv m k)(prio:List Int)(turn:Int):Inv (m+2048) (k.share prio turn).1∧jN k (k.share prio turn).1:=by
 have htf:=dT h.ok prio turn
 have hll:=h.ok.ll
 obtain⟨h1,h2⟩:=iz (k.targets prio turn) 0 0 h (by omega)
 unfold Krn.share
 rw[sP (takeFrom (k.targets prio turn) 0 (k,0))]
 obtain⟨g1,g2⟩:=od (k.targets prio turn) 0 (takeFrom (k.targets prio turn) 0 (k,0)).2 h1 fun w hw=>(htf.2.1 w hw).2
 exact⟨⟨g1.ok.up (by omega),g1.ag⟩,h2.trans g2⟩
theorem yQ{k k':Krn}(h:jN k k')(prio:List Int)(turn:Int):k'.targets prio turn=k.targets prio turn:=by
 have hd:∀ k:Krn,k.demand=(eO k).map fun s=>(s.ready.length:Int):=fun k=>by unfold Krn.demand eO;rw[List.map_map];rfl
 unfold Krn.targets;rw[h.ol,hd,hd,h.aI]
theorem m5{want:List Int}{n:Nat}{w:Int}(hw:want[n]?=some w):∀ (c:Nat) {m:Nat} {k:Krn},Inv m k→Room want k→c=w.toNat-k.owner.count (n:Int)→Room want (giveTo c (n:Int) k)∧(giveTo c (n:Int) k).owner.count (n:Int)=w.toNat∧ ∀ j:Nat,j≠n→(giveTo c (n:Int) k).owner.count (j:Int)=k.owner.count (j:Int)
 | 0,m,k,hi,hr,hc=>⟨hr,by show k.owner.count (n:Int)=w.toNat;have:=hr.nV n w hw;omega,fun _ _=>rfl⟩
 | c+1,m,k,hi,hr,hc=>by
  have hlt:k.owner.count (n:Int)<w.toNat:=by omega
  obtain⟨i,r,hf,hoi,hmin⟩:=wZ (hr.free hi.ok hw hlt)
  have hn:=(List.getElem?_eq_some_iff.1 hw).1
  obtain⟨l,hl⟩:=ai (show n<k.libs.length by have:=hr.len;omega)
  have hrg:=hr.dV hw hlt hoi hl
  have hig:=hi.dV hoi hl
  have e:giveTo (c+1) (n:Int) k=giveTo c (n:Int) (k.dV (i:Int) (n:Int)).2:=by rw[giveTo,hf];rfl
  rw[e]
  obtain⟨h1,h2,h3⟩:=m5 hw c hig hrg.1 (by rw[hrg.2];omega)
  refine⟨h1,h2,fun j hj=>(h3 j hj).trans ?_⟩
  rw[kK hoi hl]
  have:=count_set (b:=(n:Int)) hoi (j:Int)
  rw[if_neg (by omega),if_neg (by omega)] at this
  simpa using this
theorem oe{want:List Int}:∀ (d n mv:Nat) {m:Nat} {k:Krn},d=want.length-n→n≤want.length→Inv m k→Room want k→(∀ (i:Nat) (w:Int),i<n→want[i]?=some w→k.owner.count (i:Int)=w.toNat)→ ∀ (i:Nat) (w:Int),want[i]?=some w→(cO (want.drop n) n (k,mv)).1.owner.count (i:Int)=w.toNat
 | 0,n,mv,m,k,hd,hn,hi,hr,hc,i,w,hw=>by
  rw[List.drop_of_length_le (by omega),cO]
  exact hc i w (by have:=(List.getElem?_eq_some_iff.1 hw).1;omega) hw
 | d+1,n,mv,m,k,hd,hn,hi,hr,hc,i,w,hw=>by
  obtain⟨x,hx⟩:=ai (show n<want.length by omega)
  rw[ra hx hi (by have:=hr.len;omega)]
  obtain⟨h1,h2,h3⟩:=m5 hx _ hi hr rfl
  refine oe d (n+1) _ (by omega) (by omega) (km (n:Int) _ hi).1 h1 (fun j y hj hy=>?_) i w hw
  by_cases e:j=n
  ·subst e
   rw[hx] at hy
   obtain rfl:=Option.some.inj hy
   exact h2
  ·rw[h3 j e];exact hc j y (by omega) hy
theorem Cg{m:Nat}{k:Krn}(h:Inv m k)(prio:List Int)(turn:Int)(i:Nat)(w:Int)(hw:(k.targets prio turn)[i]?=some w):(k.share prio turn).1.owner.count (i:Int)=w.toNat:=by
 have htf:=dT h.ok prio turn
 have hne:k.targets prio turn≠[]:=by intro e;rw[e] at hw;simp at hw
 obtain⟨h1,h2⟩:=iz (k.targets prio turn) 0 0 h (by omega)
 have hr:=q8 h (htf.2.2.2 hne) htf.2.2.1
 unfold Krn.share
 rw[sP (takeFrom (k.targets prio turn) 0 (k,0))]
 have:=oe (want:=k.targets prio turn) _ 0 (takeFrom (k.targets prio turn) 0 (k,0)).2 rfl (Nat.zero_le _) h1 hr (fun _ _ h=>absurd h (Nat.not_lt_zero _)) i w hw
 rwa [List.drop_zero] at this
theorem still{want:List Int}{m:Nat}{k:Krn}(hi:Inv m k)(hl:want.length≤k.libs.length)(hc:∀ (i:Nat) (w:Int),want[i]?=some w→k.owner.count (i:Int)=w.toNat):∀ (d n mv:Nat),d=want.length-n→takeFrom (want.drop n) n (k,mv)=(k,mv)∧cO (want.drop n) n (k,mv)=(k,mv)
 | 0,n,mv,hd=>by rw[List.drop_of_length_le (by omega)];exact⟨rfl,rfl⟩
 | d+1,n,mv,hd=>by
  obtain⟨w,hw⟩:=ai (show n<want.length by omega)
  have hp:=lS hi (n:=n) (by omega)
  rw[hc n w hw] at hp
  rw[drop_cons hw,takeFrom,cO,show(cu k n).drop w.toNat=[] from List.drop_of_length_le (by omega),hp,Nat.sub_self]
  exact still hi hl hc d (n+1) mv (by omega)
/-! what New makes -/
theorem xa:∀ n:Nat,((List.replicate n aH.z).map (fun v=>v.evs.length)).sum=0
 | 0=>rfl
 | n+1=>by rw[List.replicate_succ,List.map_cons,List.sum_cons,xa n];rfl
theorem gU{procs:Int}{l:List gn}(h:dF procs l=0):Inv 16 (Krn.new procs l)∧(Krn.new procs l).libs.length=l.length∧(Krn.new procs l).owner.length=procs.toNat∧1≤procs∧procs≤64∧l.length≤8:=by
 have hb:1≤procs∧procs≤64∧1≤l.length∧l.length≤8:=by
  unfold dF at h
  by_cases c:procs<1∨64<procs∨(l.length:Int)<1∨8<(l.length:Int)
  ·rw[if_pos c] at h;cases h
  ·omega
 have hol:(Krn.new procs l).owner.length=procs.toNat:=List.length_replicate ..
 have hll:(Krn.new procs l).libs.length=l.length:=List.length_map ..
 have hlib:∀ x∈(Krn.new procs l).libs, ∃ p,x=Lib.new (Spc.new p) procs:=fun x hx=>by
  obtain⟨p,_,e⟩:=List.mem_map.1 hx
  exact⟨p,e.symm⟩
 have hv:∀ p,(Lib.new (Spc.new p) procs).vs=List.replicate procs.toNat aH.z:=fun p=>by
  show List.replicate (aN procs 64).toNat aH.z=_
  rw[show aN procs 64=procs from by unfold aN;omega]
 refine⟨⟨⟨fun v hv=>.inl (List.eq_of_mem_replicate hv),by omega,by omega,fun x hx=>?_⟩,⟨fun x hx=>?_,by omega,fun n x hx p=>?_⟩⟩,hll,hol,hb.1,hb.2.1,hb.2.2.2⟩
 ·obtain⟨p,rfl⟩:=hlib x hx
  refine⟨?_,by rw[hv,List.length_replicate];omega,yk p⟩
  unfold fU
  rw[hv,xa]
  have h1:=ic (Spc.new p).aF 0
  rw[yk] at h1
  show(aG (Spc.new p).ready).length+0≤16
  unfold aG;rw[List.length_map]
  exact h1
 ·obtain⟨p,rfl⟩:=hlib x hx
  rw[hv,List.length_replicate,hol]
 ·obtain⟨q,rfl⟩:=hlib x (List.mem_of_getElem? hx)
  rw[hv]
  constructor
  ·intro e
   refine absurd ?_ e
   unfold cW
   rw[Int.toNat_natCast,List.getD_eq_getElem?_getD]
   cases e2:(List.replicate procs.toNat aH.z)[p]? with
   | none=>rfl
   | some v=>rw[List.eq_of_mem_replicate (List.mem_of_getElem? e2)];rfl
  ·intro e
   have:=List.eq_of_mem_replicate (List.mem_of_getElem? (show(List.replicate procs.toNat (-1:Int))[p]?=some (n:Int) from e))
   omega
end Go.SLYtpbjdoplfgeliaaGreat
