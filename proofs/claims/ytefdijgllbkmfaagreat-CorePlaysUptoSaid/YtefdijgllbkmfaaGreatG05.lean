/- Walks of functions, and what they compute. Conditions: none, this text proves no statement. -/
import Derived.Test.YtefdijgllbkmfaaGreatG04
import Derived.Laws.StructEq
import Derived.Test.YtefdijgllbkmfaaGreatG01
import Derived.WalkKit
import Derived.ProofKit
import Derived.OpenShut
import Derived.JoinedCond
import Derived.Deep.Slices
import Derived.Carry
import Derived.Test.YtefdijgllbkmfaaGreatRows
import Derived.Test.YtefdijgllbkmfaaGreatG02
import Derived.Test.YtefdijgllbkmfaaGreatG03
import Derived.Laws.FloatBits
namespace Go.SLYtefdijgllbkmfaaGreat
open Go Go.RowKit
section
variable{k:Nat}{s:Spc}
theorem dJ.start(h:Ok k s [] [])(hR:eg s s.av){n:Nat}{i:Ins}{c:Int}:dJ k s (s.dF n i c) [] []:=⟨h,fun w=>by simp[Spc.dF,fF.z],fun w hw=>(by cases hw),by show eg s (s.av++[]);rw[List.append_nil];exact hR,List.prefix_refl _⟩
theorem Il{d:Dng}(h:dJ k s d [] []){n:Int}(hn:n=(d.n:Int)):Ok k d.finish.2 [] []∧(∀ w,dV d.finish.2 w+(if (d.finish.1.aU=true∨d.finish.1.ended=true)∧w=n then 1 else 0)=dV s w+d.finish.1.aC.count w)∧(∀ w∈d.finish.1.aC,dV s w=0)∧eg d.finish.2 d.finish.2.av∧s.av <+: d.finish.2.av:=by
 subst hn
 exact⟨h.ok.av _,h.rd,h.wk,h.rc.of rfl rfl,h.px.trans (List.prefix_append _ _)⟩
theorem BM(d:Dng)(a:List Int):(d.dv a).n=d.n:=by
 induction a generalizing d with
 | nil=>rfl
 | cons x l ih=>exact(ih _).trans rfl
theorem Av{d:Dng}{v:Int}:(d.fin v).n=d.n:=by
 unfold Dng.fin
 split
 ·rfl
 ·split <;> rfl
theorem F4{d:Dng}:d.plain.n=d.n:=by
 unfold Dng.plain
 split
 ·simp only
  split
  ·rfl
  ·split <;> rfl
 ·split
  ·exact Av
  ·exact Av
theorem Aw{d:Dng}{n:Int}{ok:Bool}:(d.given n ok).n=d.n:=by unfold Dng.given;split <;> rfl
theorem Hn{d:Dng}{b y i:Int}:(d.ask b y i).n=d.n:=by
 unfold Dng.ask
 simp only
 repeat' split
 all_goals rfl
theorem Im{d:Dng}:d.call.n=d.n:=by
 unfold Dng.call
 simp only
 split
 ·rfl
 split
 ·rfl
 split
 ·rfl
 split
 ·unfold Dng.join;simp only;repeat' split
  all_goals rfl
 split
 ·unfold Dng.cH;simp only;repeat' split
  all_goals rfl
 split
 ·exact Av
 split
 ·unfold Dng.mutex;simp only;repeat' split
  all_goals first | rfl | exact Aw
 split
 ·exact BM _ _
 split
 ·unfold Dng.cf;simp only;repeat' split
  all_goals first | rfl | exact Aw
 ·unfold Dng.kernel
  split
  ·exact Hn
  split
  ·exact Hn
  split
  ·unfold Dng.put;simp only;repeat' split
   all_goals rfl
  split
  ·unfold Dng.get;simp only;repeat' split
   all_goals rfl
  split
  ·unfold Dng.sleep;simp only;repeat' split
   all_goals rfl
  ·rfl
theorem Ax{s:Spc}(hO:jd s){f:iG}{i:Ins}(e:dD s.di f=some i):f.pc≤256:=by
 unfold dD at e
 split at e
 ·cases e
 ·have hlt:=(List.getElem?_eq_some_iff.1 e).1
  cases hf:s.di.funcs[f.fn.toNat]? with
  | none=>rw[List.getD_eq_getElem?_getD,hf] at hlt;exact absurd hlt (Nat.not_lt_zero _)
  | some g =>
   rw[List.getD_eq_getElem?_getD,hf] at hlt
   have h1:f.pc.toNat<g.length:=hlt
   have h2:=hO.w8.2 g (List.mem_of_getElem? hf)
   omega
theorem Ok.run(h:Ok k s [] [])(hR:eg s s.av)(hk:k≤1000000)(hr:s.av.length≤800000000){n c:Int} :
  Ok (k+1) (s.run n c).2.2 [] []∧(∀ w,dV (s.run n c).2.2 w+(if ((s.run n c).1.aU=true∨(s.run n c).1.ended=true)∧w=n then 1 else 0)=dV s w+(s.run n c).1.aC.count w)∧
  ((s.run n c).2.1≠0→(s.run n c).2.2=s∧(s.run n c).1=fF.z)∧(s.run n c).2.2.av.length≤s.av.length+400002∧((s.run n c).2.1=0↔dV s n=1)∧(∀ w∈(s.run n c).1.aC,dV s w=0)∧eg (s.run n c).2.2 (s.run n c).2.2.av∧s.av <+: (s.run n c).2.2.av:=by
 have hO:=h.sK hk hr
 have hup:Ok (k+1) s [] []:=h.more (Nat.le_succ _)
 cases hat:s.at n with
 | none =>
  rw[lO hat]
  refine⟨hup,fun w=>by simp[fF.z],fun _=>⟨rfl,rfl⟩,by simp only;omega,?_,fun w hw=>(by cases hw),hR,List.prefix_refl _⟩
  simp only
  unfold dV;rw[hat];simp[rO]
 | some t =>
  by_cases hw:t.why≠0
  ·rw[lP hat hw]
   refine⟨hup,fun w=>by simp[fF.z],fun _=>⟨rfl,rfl⟩,by simp only;omega,?_,fun w hw=>(by cases hw),hR,List.prefix_refl _⟩
   simp only
   unfold dV;rw[hat,dI,if_neg hw];simp
  ·have hw0:t.why=0:=Decidable.not_not.mp hw
   obtain⟨h0,ht⟩:=eL hat
   obtain⟨m,rfl⟩:∃ m:Nat,n=(m:Int):=⟨n.toNat,by omega⟩
   rw[Int.toNat_natCast] at ht
   have hrd:dV s (m:Int)=1:=by unfold dV;rw[hat,dI,if_pos hw0]
   have fin:∀ {z:Dng} {a b:Nat},dJ (k+1) s z [] []→z.n=m→eF (s.dF m ⟨0,0,0,0,0⟩ c) z a b→a≤1→b≤400001→s.run (m:Int) c=(z.finish.1,0,z.finish.2)→
     Ok (k+1) (s.run (m:Int) c).2.2 [] []∧(∀ w,dV (s.run (m:Int) c).2.2 w+(if ((s.run (m:Int) c).1.aU=true∨(s.run (m:Int) c).1.ended=true)∧w=(m:Int) then 1 else 0)=dV s w+(s.run (m:Int) c).1.aC.count w)∧
     ((s.run (m:Int) c).2.1≠0→(s.run (m:Int) c).2.2=s∧(s.run (m:Int) c).1=fF.z)∧(s.run (m:Int) c).2.2.av.length≤s.av.length+400002∧((s.run (m:Int) c).2.1=0↔dV s (m:Int)=1)∧(∀ w∈(s.run (m:Int) c).1.aC,dV s w=0)∧eg (s.run (m:Int) c).2.2 (s.run (m:Int) c).2.2.av∧s.av <+: (s.run (m:Int) c).2.2.av:=fun {z a b} hz hzn hg ha hb e=>by
    rw[e]
    obtain⟨g1,g2,g3,g4,g5⟩:=Il hz (n:=(m:Int)) (by rw[hzn])
    refine⟨g1,g2,fun hne=>absurd rfl hne,?_,⟨fun _=>hrd,fun _=>rfl⟩,g3,g4,g5⟩
    show(z.s.av++z.ends).length≤_
    rw[List.length_append]
    have h1:z.s.av.length≤s.av.length+a:=hg.1
    have h2:z.ends.length≤0+b:=hg.2
    omega
   cases hn:dD s.di t.gb with
   | none =>
    have h1:dJ k s (((s.dF m ⟨23,0,0,0,0⟩ c).tell 0 0 0 true).fin 0) [] []:=dJ.fin (dJ.tell (dJ.start h hR) ht hw0 rfl) ht hw0 rfl rfl Fz
    exact fin (h1.more (Nat.le_succ _)) Av (cR (gx.trans j7) rfl rfl) (by decide) (by decide) (vk hat hw hn rfl)
   | some i =>
    obtain⟨hI,hIn,hIt⟩:=j6 hO hn
    have hpc:=Ax hO hn
    have hpc:t.pc≤256:=hpc
    by_cases hc:cls i.op=1
    ·have S:St k s (s.dF m i c) t:=⟨dJ.start h hR,ht,hw0,rfl,rfl,hI,rfl⟩
     exact fin ((S.plain hpc).more (Nat.le_succ _)) F4 (cR m4 rfl rfl) (by decide) (by decide) (pE hat hw hn hc rfl)
    ·have ho:=h.th m t ht
     have h1:dJ k s ((s.dF m i c).aj {t with pc:=t.pc+1 }) [] []:=dJ.own (dJ.start h hR) ht (t':={t with pc:=t.pc+1 }) ⟨ho.R.l,ho.R.r,ho.R.i,ho.R.v,ho.R.h⟩ (by have:=ho.pc;show 0≤t.pc+1∧t.pc+1≤257;omega) rfl rfl rfl rfl rfl
     have S:St k s ((s.dF m i c).aj {t with pc:=t.pc+1 }) {t with pc:=t.pc+1 }:=⟨h1,bV ht,hw0,rfl,rfl,hI,rfl⟩
     exact fin (S.call hk hIt) Im (cR (pF hO.yP.2) rfl rfl) (by decide) (by decide) (rM hat hw hn hc rfl)
/-! a request is done -/
theorem Io{d:jy}(h:yX d){c:Int}(hd:(d.done c).2.2.1=true):yX (d.done c).2.2.2∧fJ (d.done c).2.1∧ ∀ w,cD (d.done c).2.2.2 w+b2 ((d.done c).1.who=w)=cD d w:=by
 by_cases h0:d.wait.length=0
 ·rw[mi h0] at hd;cases hd
 ·have hp:=eY (t:=c) (n:=d.wait.length) (by omega)
  have hx:d.wait[pick c d.wait.length]?=some (d.wait.getD (pick c d.wait.length) rD):=getD_some hp
  have hm:=List.mem_of_getElem? hx
  generalize hr:d.wait.getD (pick c d.wait.length) rD=r at hx hm
  have hrw:=h.w r hm
  have hcn:∀ w,(d.wait.eraseIdx (pick c d.wait.length)).countP (fun r=>decide (r.who=w))+b2 (r.who=w)=d.wait.countP (fun r=>decide (r.who=w)):=fun w=>by
   have:=kQ (P:=fun r:pe=>decide (r.who=w)) hx
   unfold b2;simpa using this
  cases hw:r.write with
  | true =>
   rw[kK h0 hr hw]
   refine⟨⟨by simp only[List.length_set];exact h.l,fun x hx=>?_,fun y hy=>?_⟩,Fz,fun w=>hcn w⟩
   ·rcases List.mem_or_eq_of_mem_set hx with hx | rfl
    ·exact h.b x hx
    ·exact hrw.2.2
   ·simp only[List.length_set];exact h.w y (List.mem_of_mem_eraseIdx hy)
  | false =>
   rw[mj h0 hr hw]
   exact⟨⟨h.l,h.b,fun y hy=>h.w y (List.mem_of_mem_eraseIdx hy)⟩,vz h.b (by omega),fun w=>hcn w⟩
theorem Ok.JK(h:Ok k s [] [])(hR:eg s s.av){c:Int} :
  Ok k (s.done c).2.2 [] []∧(∀ w,dV (s.done c).2.2 w+(if ((s.done c).1.aU=true∨(s.done c).1.ended=true) then 1 else 0)=dV s w+(s.done c).1.aC.count w)∧
  ((s.done c).2.1≠0→(s.done c).2.2=s∧(s.done c).1=fF.z)∧(s.done c).2.2.av.length≤s.av.length+1∧(s.done c).1.aU=false∧(s.done c).1.ended=false∧eg (s.done c).2.2 (s.done c).2.2.av∧s.av <+: (s.done c).2.2.av:=by
 cases hd:(s.aO.done c).2.2.1 with
 | false =>
  rw[lQ hd]
  exact⟨h,fun w=>by simp[fF.z],fun _=>⟨rfl,rfl⟩,by simp,rfl,rfl,hR,List.prefix_refl _⟩
 | true =>
  obtain⟨g1,g2,g3⟩:=Io h.dk hd
  have h1:Ok k {s with aO:=(s.aO.done c).2.2.2 } [(s.aO.done c).1.who] []:=h.aO g1 (fun w=>by rw[m9];have:=g3 w;simp;omega)
  have hb:=h1.oh (s.aO.done c).1.who
  obtain⟨u,hu,hu0,hu9⟩:=gG (s:={s with aO:=(s.aO.done c).2.2.2 }) (w:=(s.aO.done c).1.who) (by simp at hb;omega)
  obtain⟨h0,hat⟩:=eL hu
  rw[lR hd hat]
  have h2:=h1.cZ hu hu0 hu9 g2
  refine⟨(h2.Ib (p':=[]) (q':=[]) (fun w=>by simp)).av _,fun w=>?_,fun hne=>absurd rfl hne,by simp[Spc.tell,Spc.cZ,Spc.aj],rfl,rfl,?_,List.prefix_append _ _⟩
  rotate_left
  ·have hR1:eg {s with aO:=(s.aO.done c).2.2.2 } s.av:=hR.of rfl rfl
   exact(hR1.cZ h1 hu hu0 hu9 (y:=(s.aO.done c).2.1)).of rfl rfl
  show dV (({s with aO:=(s.aO.done c).2.2.2 }:Spc).cZ (s.aO.done c).1.who.toNat (s.aO.done c).2.1) w+(if (false=true∨false=true) then 1 else 0)=dV s w+[(s.aO.done c).1.who].count w
  simp only[Bool.false_eq_true,or_self,if_false,Nat.add_zero]
  rw[ot hu,m9]
  have hs:∀ w,dV {s with aO:=(s.aO.done c).2.2.2 } w=dV s w:=fun w=>rfl
  by_cases e:w=(s.aO.done c).1.who
  ·have:dV s w=0:=by rw[← hs,e];unfold dV;rw[hu,dI];exact if_neg hu0
   rw[if_pos e,gT e.symm];omega
  ·rw[if_neg e,eC (fun h=>e h.symm),hs];rfl
/-! a moment -/
theorem xk(l:List Int)(w:Int):(gr l).count w=l.count w:=by
 have hi:∀ (a:Int) (m:List Int),(dB a m).count w=m.count w+b2 (a=w):=by
  intro a m
  induction m with
  | nil=>rw[show dB a []=[a] from rfl,m9];simp
  | cons b m ih =>
   unfold dB
   split
   ·rw[eh]
   ·rw[eh,ih,eh];omega
 induction l with
 | nil=>rfl
 | cons a l ih=>show(dB a (gr l)).count w=_;rw[hi,ih,eh]
theorem BN(l:List (Int×Int))(n w:Int):(dO l n).countP (fun x=>decide (x.1=w))=if w=n then 0 else l.countP (fun x=>decide (x.1=w)):=by
 unfold dO
 rw[List.countP_filter]
 by_cases e:w=n
 ·rw[if_pos e,List.countP_eq_zero]
  intro x hx
  simp[e]
 ·rw[if_neg e]
  apply List.countP_congr
  intro x hx
  simp only[Bool.and_eq_true,decide_eq_true_eq,Bool.not_eq_true',decide_eq_false_iff_not]
  exact⟨fun h=>h.1,fun h=>⟨h,fun h2=>e (h.symm.trans h2)⟩⟩
theorem rS:∀ (a:List Int) (l:List (Int×Int)) (w:Int),(a.foldl dO l).countP (fun x=>decide (x.1=w))=if w∈a then 0 else l.countP (fun x=>decide (x.1=w))
 | [],_,_=>by simp
 | n::a,l,w=>by
  rw[List.foldl_cons,rS a,BN]
  by_cases h:w∈a
  ·rw[if_pos h,if_pos (List.mem_cons_of_mem _ h)]
  ·rw[if_neg h]
   by_cases e:w=n
   ·rw[if_pos e,if_pos (by rw[e];exact List.mem_cons_self)]
   ·rw[if_neg e,if_neg (by simp[e,h])]
theorem Ip{u:jS}(h:0≤u.now∧u.now≤1099511627776)(hb:∀ w,cL u w≤1):(0≤u.tick.2.now∧u.tick.2.now≤1099511627776)∧ ∀ w,cL u.tick.2 w+u.due.count w=cL u w:=by
 refine⟨by show 0≤min (u.now+1) 1099511627776∧min (u.now+1) 1099511627776≤_;omega,fun w=>?_⟩
 have h1:cL u.tick.2 w=if w∈u.due then 0 else cL u w:=rS u.due u.dT w
 have h2:u.due.count w=(u.dT.filter fun p=>decide (p.2≤min (u.now+1) 1099511627776)).countP (fun x=>decide (x.1=w)):=by
  unfold jS.due;rw[xk];unfold List.count;rw[List.countP_map];congr 1
 have h3:(u.dT.filter fun p=>decide (p.2≤min (u.now+1) 1099511627776)).countP (fun x=>decide (x.1=w))≤cL u w:=List.Sublist.countP_le List.filter_sublist
 rw[h1]
 by_cases hm:w∈u.due
 ·have:=List.count_pos_iff.2 hm
  have:=hb w
  rw[if_pos hm];omega
 ·have:=List.count_eq_zero.2 hm
  rw[if_neg hm];omega
theorem Ok.cW:∀ (l:List Int) (s:Spc),Ok k s l []→eg s s.av→Ok k (cW s l) [] []∧(∀ w,dV (cW s l) w=dV s w+l.count w)∧eg (cW s l) (cW s l).av∧s.av <+: (cW s l).av
 | [],_,h,hR=>⟨h,fun w=>rfl,hR,List.prefix_refl _⟩
 | n::l,s,h,hR=>by
  have hb:=h.oh n
  rw[eh,gT rfl] at hb
  obtain⟨u,hu,hu0,hu9⟩:=gG (s:=s) (w:=n) (by simp at hb;omega)
  have h1:=h.cZ hu hu0 hu9 (y:=0) Fz
  have h2:Ok k ((s.cZ n.toNat 0).tell ((s.t n.toNat).dE 0)) l []:=(h1.Ib (fun w=>by rw[eh,eh];simp)).av _
  have hR2:eg ((s.cZ n.toNat 0).tell ((s.t n.toNat).dE 0)) ((s.cZ n.toNat 0).tell ((s.t n.toNat).dE 0)).av:=by
   show eg ((s.cZ n.toNat 0).tell ((s.t n.toNat).dE 0)) (s.av++[(s.t n.toNat).dE 0])
   rw[cO (eL hu).2]
   exact(hR.cZ h hu hu0 hu9 (y:=0)).of rfl rfl
  obtain⟨h3,h4,h6,h7⟩:=Ok.cW l _ h2 hR2
  refine⟨h3,fun w=>(h4 w).trans ?_,h6,List.IsPrefix.trans (List.prefix_append _ _) h7⟩
  have h5:dV ((s.cZ n.toNat 0).tell ((s.t n.toNat).dE 0)) w=dV (s.cZ n.toNat 0) w:=rfl
  rw[h5,ot hu,eh]
  by_cases e:w=n
  ·have:dV s w=0:=by rw[e];unfold dV;rw[hu,dI];exact if_neg hu0
   rw[if_pos e,gT e.symm];omega
  ·rw[if_neg e,eC (fun h=>e h.symm)];omega
theorem Ok.Ho(h:Ok k s [] [])(hR:eg s s.av) :
  Ok k s.tick.2 [] []∧(∀ w,dV s.tick.2 w=dV s w+s.tick.1.aC.count w)∧s.tick.2.av.length≤s.av.length+16∧s.tick.1.aU=false∧s.tick.1.ended=false∧eg s.tick.2 s.tick.2.av∧s.av <+: s.tick.2.av:=by
 have hbal:∀ w,gF s w=dX s w:=fun w=>by have:=h.oh w;simpa using this
 have bL:∀ w,cL s.ay w≤dX s w:=fun w=>by have:=hbal w;unfold gF at this;omega
 obtain⟨g1,g2⟩:=Ip h.wl (fun w=>Nat.le_trans (bL w) pH)
 have h1:Ok k {s with ay:=s.ay.tick.2 } s.ay.due []:=h.ay g1 (fun w=>by have:=g2 w;simp;omega)
 obtain⟨h2,h3,h4,h5⟩:=Ok.cW s.ay.due _ h1 (hR.of rfl rfl)
 refine⟨h2,fun w=>(h3 w).trans rfl,?_,rfl,rfl,h4,h5⟩
 show(Go.SLYtefdijgllbkmfaaGreat.cW _ s.ay.due).av.length≤_
 rw[og]
 have:=xe s.ay
 have:s.ay.dT.length≤16:=ov (f:=fun r:Int×Int=>r.1) h.lt bL
 show s.av.length+_≤_
 omega
end
end Go.SLYtefdijgllbkmfaaGreat
namespace Go.SLYtefdijgllbkmfaaGreat
open Go Go.RowKit
theorem rT{α:Type}{f:α→Nat}{n:Nat}{x:α}(h:f x=0):kP f (List.replicate n x)=0:=pG (fun y hy=>by rw[(List.mem_replicate.1 hy).2];exact h)
theorem Ok.JL{p:fE}(h:tB p):Ok 0 ⟨p,List.replicate 16 (false,0),List.replicate 16 none,List.replicate p.words.toNat 0,Gates.new p.aA p.conds p.aW,p.aL.map Tub.new,jy.new p.blocks,jS.new,[]⟩ [] []:=by
 have hcap:ei p=true:=by
  have:=h.1;unfold ew at this
  split at this
  ·assumption
  ·cases this
 have hc:=hcap
 unfold ei at hc
 simp only[Bool.and_eq_true,decide_eq_true_eq,within,List.all_eq_true] at hc
 obtain⟨⟨⟨⟨⟨⟨⟨⟨⟨⟨⟨c1,c2⟩,c3⟩,c4⟩,c5⟩,c6⟩,c7⟩,c8⟩,c9⟩,c10⟩,c11⟩,c12⟩:=hc
 have cl:∀ {n:Int},0≤n→n≤4→aZ n 4=n:=fun a b=>by unfold aZ;omega
 refine⟨h,by simp,by simp,fun o ho=>?_,fun n hn=>?_,fun n t ht=>?_,⟨by simp,fun x hx=>?_⟩,⟨?_,?_,?_,fun x hx=>?_,fun r hr w hw=>?_⟩,⟨by simp,fun u hu=>?_⟩,⟨?_,fun x hx=>?_,fun r hr=>?_⟩,(by show(0:Int)≤0∧(0:Int)≤1099511627776;decide),fun w=>?_⟩
 ·rw[(List.mem_replicate.1 ho).2];decide
 ·rw[List.getD_eq_getElem?_getD,List.getElem?_replicate,List.getElem?_replicate,if_pos hn,if_pos hn]
  exact⟨fun h=>(by cases h),fun⟨t,h⟩=>(by cases h)⟩
 ·have ht:(List.replicate 16 (none:Option bc))[n]?=some (some t):=ht
  rw[List.getElem?_replicate] at ht
  split at ht <;> cases ht
 ·rw[(List.mem_replicate.1 hx).2];exact Fz
 ·show(List.replicate (aZ p.aA 4).toNat _).length=_;rw[List.length_replicate,cl (by omega) (by omega)]
 ·show(List.replicate (aZ p.conds 4).toNat _).length=_;rw[List.length_replicate,cl (by omega) (by omega)]
 ·show((p.aW.take 4).map _).length=p.aW.length;rw[List.length_map,List.length_take];omega
 ·obtain⟨n,hn,rfl⟩:=List.mem_map.1 (show x∈(p.aW.take 4).map fun n=>(⟨[],aZ n 1048576⟩:jo) from hx)
  show 0≤aZ n 1048576∧aZ n 1048576≤1048576;unfold aZ;omega
 ·have hr:r∈List.replicate (aZ p.conds 4).toNat ([]:List cV):=hr
  rw[(List.mem_replicate.1 hr).2] at hw;cases hw
 ·obtain⟨n,hn,rfl⟩:=List.mem_map.1 (show u∈p.aL.map Tub.new from hu)
  exact⟨by show min (max n 1) 8≤8;omega,by show 0≤8;decide,fun x hx=>(by cases hx),fun x hx=>(by cases hx)⟩
 ·show(List.replicate (aZ p.blocks 64).toNat _).length≤64;rw[List.length_replicate];unfold aZ;omega
 ·have hx:x∈List.replicate (aZ p.blocks 64).toNat (0:Int):=hx
  rw[(List.mem_replicate.1 hx).2];exact Fz
 ·cases hr
 ·have e1:cG (Gates.new p.aA p.conds p.aW) w=0:=by
   unfold cG Gates.new
   simp only
   rw[rT (f:=fun m:dt=>da w m.wait) rfl,rT (f:=da w) rfl,pG (fun x hx=>by
    obtain⟨n,hn,rfl⟩:=List.mem_map.1 hx;rfl)]
  have e2:cT (p.aL.map Tub.new) w=0:=pG (fun x hx=>by obtain⟨n,hn,rfl⟩:=List.mem_map.1 hx;rfl)
  have e3:cJ (List.replicate 16 none) w=0:=rT rfl
  unfold gF dX
  simp only[e1,e2,e3]
  have e4:∀ (s:Spc),s.thr=List.replicate 16 none→s.at w=none:=fun s hs=>by
   unfold Spc.at eU
   split
   ·rfl
   ·rw[hs,List.getElem?_replicate];split <;> rfl
  rw[e4 _ rfl]
  rfl
theorem Ok.new{p:fE}(h:tB p):Ok 1 (Spc.new p) [] []:=Ok.begin (Ok.JL h) (by decide) Fz
theorem eg.new{p:fE}:eg (Spc.new p) (Spc.new p).av:=by
 have e:(Spc.new p).av=[]:=by unfold Spc.new;rw[je]
 rw[e]
 refine⟨rP.nil,fun n t ht=>?_,fun r hr=>by cases hr⟩
 have hb:∀ (n:Nat) (t:bc),(Spc.new p).thr[n]?=some (some t)→bT t=0:=fun n t ht=>by
  unfold Spc.new at ht
  rw[dS (n:=0) rfl] at ht
  have ht:((List.replicate 16 (none:Option bc)).set 0 _)[n]?=some (some t):=ht
  by_cases e:0=n
  ·subst e;rw[List.getElem?_set_self (by simp)] at ht;cases ht;rfl
  ·rw[List.getElem?_set_ne e,List.getElem?_replicate] at ht
   split at ht <;> cases ht
 rw[hb n t ht];rfl
end Go.SLYtefdijgllbkmfaaGreat
namespace Go.SLYtefdijgllbkmfaaGreat
open Go Go.RowKit
def kR(k:Nat)(s:Spc):Prop:=Ok k s [] []∧s.av.length≤400002 * k∧eg s s.av
theorem kR.rec{k:Nat}{s:Spc}(h:kR k s)(hk:k≤1990):s.av.length≤800000000:=by have:=h.2.1;omega
theorem kR.sK{k:Nat}{s:Spc}(h:kR k s)(hk:k≤1990):jd s:=h.1.sK (by omega) (h.rec hk)
theorem kR.run{k:Nat}{s:Spc}(h:kR k s)(hk:k≤1990)(n c:Int):kR (k+1) (s.run n c).2.2:=by
 obtain⟨a, -, -,b, -, -,r, -⟩:=h.1.run h.2.2 (n:=n) (c:=c) (by omega) (h.rec hk)
 have:=h.2.1
 exact⟨a,by omega,r⟩
theorem kR.done{k:Nat}{s:Spc}(h:kR k s)(c:Int):kR (k+1) (s.done c).2.2:=by
 obtain⟨a, -, -,b, -, -,r, -⟩:=h.1.JK h.2.2 (c:=c)
 have:=h.2.1
 exact⟨a.more (Nat.le_succ _),by omega,r⟩
theorem kR.tick{k:Nat}{s:Spc}(h:kR k s):kR (k+1) s.tick.2:=by
 obtain⟨a, -,b, -, -,r, -⟩:=h.1.Ho h.2.2
 have:=h.2.1
 exact⟨a.more (Nat.le_succ _),by omega,r⟩
theorem kR.new{p:fE}(h:tB p):kR 1 (Spc.new p):=⟨Ok.new h,by
 have:(Spc.new p).av=[]:=by unfold Spc.new;rw[je]
 rw[this];simp,eg.new⟩
/-! the laws' own fact -/
def Iq:List Ins:=[⟨20,1,0,0,1⟩,⟨21,2,1,0,0⟩,⟨38,2,0,0,0⟩]
def Ir:List Ins:=[⟨1,3,0,0,9⟩,⟨23,3,0,0,0⟩]
def Jg:fE:=⟨[Iq,Ir],4,1,1,[0],[1],2,0⟩
def Eg(b n:Nat):Value:=.slice (some ⟨b,0,none⟩) n n
def Eh(x y z1 z2 z3:Nat):ee:=⟨Eg z1 2,[(Eg x 3,Iq),(Eg y 2,Ir)],4,1,1,Eg z2 1,[0],Eg z3 1,[1],2,0⟩
def La(x y z1 z2 z3:Nat):aa:=seps [arr z1 0 [Eg x 3,Eg y 2],arr z2 0 [.int .i64 0],arr z3 0 [.int .i64 1],arr x 0 (rows dq Iq),arr y 0 (rows dq Ir)]
theorem F5{W:World}{x y z1 z2 z3:Nat}:gu W [La x y z1 z2 z3] (Eh x y z1 z2 z3):=by
 refine⟨Rd.iF (Rd.lit .here rfl (fun _ _=>rfl) rfl),fun q hq=>?_,Rd.iF (Rd.lit (.there .here) rfl (fun _ _=>rfl) rfl),Rd.iF (Rd.lit (.there (.there .here)) rfl (fun _ _=>rfl) rfl)⟩
 rcases List.mem_cons.1 hq with rfl | hq
 ·exact Rd.iF (Rd.lit (.there (.there (.there .here))) rfl (fun _ _=>rfl) rfl)
 ·rw[List.mem_singleton] at hq;subst hq
  exact Rd.iF (Rd.lit (.there (.there (.there (.there .here)))) rfl (fun _ _=>rfl) rfl)
theorem Hp:ew Jg=0:=by decide +kernel
theorem KG:tB Jg:=⟨Hp,fun f hf i hi=>by
 have:(Jg.funcs.all fun f=>f.all fun i=>decide (0≤i.n) && decide (i.n≤18446744073709551615))=true:=by decide +kernel
 have:=List.all_eq_true.1 (List.all_eq_true.1 this f hf) i hi
 exact(by simpa using this:0≤i.n∧i.n≤18446744073709551615)⟩
def BO:Spc:=Spc.new Jg
def BP:Spc:=(BO.run 0 0).2.2
def Ei:Spc:=(BP.run 0 0).2.2
def BQ:Spc:=(Ei.run 1 0).2.2
def BR:Spc:=(BQ.run 1 0).2.2
theorem Hq:kR 1 BO:=kR.new KG
theorem Hr:kR 2 BP:=Hq.run (by decide) 0 0
theorem Ht:kR 3 Ei:=Hr.run (by decide) 0 0
theorem Hu:kR 4 BQ:=Ht.run (by decide) 1 0
theorem JM:kR 5 BR:=Hu.run (by decide) 1 0
theorem KH:(BO.run 0 0).1=⟨[1],false,false,false⟩:=by decide +kernel
theorem KI:(BP.run 0 0).1=⟨[],true,false,false⟩:=by decide +kernel
theorem KJ:(BQ.run 1 0).1=⟨[0],false,true,false⟩:=by decide +kernel
def KK:List Rec:=[⟨65537,20,1,65538,0,true⟩,⟨65537,21,65538,0,0,false⟩,⟨65538,23,9,0,0,true⟩,⟨65537,21,0,9,0,true⟩]
theorem Lb:BR.av=KK:=by decide +kernel
def JN:bc:=⟨0,2,[0,65538,9,0,0,0,0,0],65537,0,0,false, -1,21, -1⟩
deriving instance DecidableEq for bc
theorem t10:BR.at 0=some JN:=by decide +kernel
end Go.SLYtefdijgllbkmfaaGreat
namespace Go.SLYtefdijgllbkmfaaGreat
open Go Go.RowKit
theorem lV{P:Program}{t:TypeId}{fs:Array Field}(hu:P.underlying t=some (.struct fs))(hs:P.stoodInHeld t=false)(d:Nat)(xs ys:Array Value)(w:World) :
  (Op.equalIn (d+1) t (.agg xs) (.agg ys)).run P w=(Op.eqFields d xs ys fs.toList).run P w:=by
 have e:P.fieldsOf t=fs:=by unfold Program.fieldsOf;rw[hu]
 have:=run_equalIn_struct (P:=P) (w:=w) d t xs ys (by rw[e];exact hu) hs
 rwa [e] at this
structure yf where
 what:Int
 slot:Int
 choice:Int
def BS(x:yf):List Value:=[.int .i64 x.what,.int .i64 x.slot,.int .i64 x.choice]
def qA(s:Spc)(a:yf):Spc:=if a.what=0 then (s.run a.slot a.choice).2.2 else if a.what=1 then (s.done a.choice).2.2 else s.tick.2
theorem kR.lt{k:Nat}{s:Spc}(h:kR k s):s.thr.length=16:=h.1.lt
theorem lh:∀ (l:List (Option bc)) (k:Nat) (w:Int),(readyFrom l k).count w=if w<(k:Int) then 0 else rO ((l[w.toNat-k]?).getD none)
 | [],k,w=>by
  show([]:List Int).count w=_
  rw[List.count_nil];split
  ·rfl
  ·rfl
 | o::l,k,w=>by
  have ih:=lh l (k+1) w
  have key:∀ (n:Nat),(readyFrom l (k+1)).count w+n=(if w<(k:Int) then 0 else rO (((o::l)[w.toNat-k]?).getD none))↔(if w<((k+1:Nat):Int) then 0 else rO ((l[w.toNat-(k+1)]?).getD none))+n=(if w<(k:Int) then 0 else rO (((o::l)[w.toNat-k]?).getD none)):=fun n=>by rw[ih]
  have step:(if w<(k:Int) then 0 else rO (((o::l)[w.toNat-k]?).getD none))=(if w<((k+1:Nat):Int) then 0 else rO ((l[w.toNat-(k+1)]?).getD none))+if w=(k:Int) then rO o else 0:=by
   by_cases h1:w<(k:Int)
   ·rw[if_pos h1,if_pos (by omega),if_neg (by omega)]
   ·by_cases h2:w=(k:Int)
    ·subst h2
     rw[if_neg (by omega),if_pos (by omega),if_pos rfl,show((k:Int)).toNat-k=0 from by omega]
     show rO o=0+rO o
     omega
    ·rw[if_neg h1,if_neg (by omega),if_neg h2,show w.toNat-k=(w.toNat-(k+1))+1 from by omega]
     rfl
  cases o with
  | none =>
   show(readyFrom l (k+1)).count w=_
   rw[ih,step];split <;> simp[rO]
  | some t =>
   unfold readyFrom
   by_cases ht:t.why=0
   ·rw[if_pos ht,eh,ih,step,dI,if_pos ht]
    by_cases h2:w=(k:Int)
    ·rw[if_pos h2,gT h2.symm]
    ·rw[if_neg h2,eC (fun h=>h2 h.symm)]
   ·rw[if_neg ht,ih,step,dI,if_neg ht];split <;> simp
theorem gf:∀ (l:List (Option bc)) (k:Nat),(readyFrom l k).length≤l.length
 | [],_=>Nat.le_refl _
 | none::l,k=>Nat.le_trans (gf l (k+1)) (Nat.le_succ _)
 | some t::l,k=>by
  have:=gf l (k+1)
  unfold readyFrom;split <;> simp only[List.length_cons] <;> omega
theorem BT{s:Spc}(h:s.thr.length=16):s.ready.length≤1000000000:=Nat.le_trans (gf _ _) (by rw[h];decide)
theorem lW(s:Spc)(w:Int):s.ready.count w=dV s w:=by
 unfold Spc.ready
 rw[lh]
 unfold dV Spc.at eU
 by_cases h:w<0
 ·rw[if_pos (by omega),if_pos h];rfl
 ·rw[if_neg (by omega),if_neg h,Nat.sub_zero]
theorem mem_ready{s:Spc}{w:Int}:w∈s.ready↔dV s w=1:=by
 rw[← List.count_pos_iff,lW]
 have:dV s w≤1:=by
  unfold dV rO
  split
  ·omega
  ·split <;> omega
 omega
theorem tE{s:Spc}{w:Int}:w ∉ s.ready↔dV s w=0:=by
 have h:=mem_ready (s:=s) (w:=w)
 have:dV s w≤1:=by
  unfold dV rO
  split
  ·omega
  ·split <;> omega
 by_cases hm:w∈s.ready
 ·have:=h.1 hm;exact⟨fun h2=>absurd hm h2,fun h2=>by omega⟩
 ·have:¬dV s w=1:=fun h2=>hm (h.2 h2)
  exact⟨fun _=>by omega,fun _=>hm⟩
theorem vA{a b:List Int}(h:∀ w,a.count w=b.count w):a.length=b.length:=(List.perm_iff_count.2 h).length_eq
structure Is(s s':Spc)(e:fF)(n:Int):Prop where
 a:∀ w∈e.aC,w ∉ s.ready∧w∈s'.ready
 g:(e.aU || e.ended)=true→n ∉ s'.ready
 l:s'.ready.length+(if (e.aU || e.ended)=true then 1 else 0)=s.ready.length+e.aC.length
theorem Ay{s s':Spc}{e:fF}{n:Int}(hr:∀ w,dV s' w+(if (e.aU=true∨e.ended=true)∧w=n then 1 else 0)=dV s w+e.aC.count w)(hw:∀ w∈e.aC,dV s w=0)(hn:(e.aU=true∨e.ended=true)→dV s n=1):Is s s' e n:=by
 have le1:∀ (s:Spc) w,dV s w≤1:=fun s w=>by
  unfold dV rO
  split
  ·omega
  ·split <;> omega
 refine⟨fun w h=>⟨tE.2 (hw w h),mem_ready.2 ?_⟩,fun h=>tE.2 ?_,?_⟩
 ·have h1:=hr w
  have h2:=List.count_pos_iff.2 h
  have h3:=hw w h
  have h4:=le1 s' w
  by_cases hb:(e.aU=true∨e.ended=true)∧w=n
  ·have:=hn hb.1;rw[← hb.2] at this;omega
  ·rw[if_neg hb] at h1;omega
 ·have hb:e.aU=true∨e.ended=true:=by simpa using h
  have h1:=hr n
  rw[if_pos ⟨hb,rfl⟩,hn hb] at h1
  by_cases hm:n∈e.aC
  ·have:=hw n hm;have:=hn hb;omega
  ·rw[List.count_eq_zero.2 hm] at h1;omega
 ·have key:=vA (a:=s'.ready++(if (e.aU || e.ended)=true then [n] else [])) (b:=s.ready++e.aC) (fun w=>by
   rw[List.count_append,List.count_append,lW,lW, ← hr w]
   congr 1
   by_cases hb:(e.aU || e.ended)=true
   ·rw[if_pos hb,m9]
    have hb2:e.aU=true∨e.ended=true:=by simpa using hb
    by_cases hwn:w=n
    ·rw[gT hwn.symm,if_pos ⟨hb2,hwn⟩]
    ·rw[eC (fun h=>hwn h.symm),if_neg (fun h=>hwn h.2)]
   ·rw[if_neg hb,if_neg (fun h=>hb (by simpa using h.1))];rfl)
  rw[List.length_append,List.length_append] at key
  rw[← key]
  congr 1
  split <;> rfl
theorem kR.cE{k:Nat}{s:Spc}(h:kR k s)(hk:k≤1990)(n c:Int):Is s (s.run n c).2.2 (s.run n c).1 n:=by
 obtain⟨-,h2,h3, -,h5,h6, -, -⟩:=h.1.run h.2.2 (n:=n) (c:=c) (by omega) (h.rec hk)
 refine Ay h2 h6 (fun hb=>?_)
 by_cases he:(s.run n c).2.1=0
 ·exact h5.1 he
 ·rw[(h3 he).2] at hb;rcases hb with hb | hb <;> cases hb
theorem kR.It{k:Nat}{s:Spc}(h:kR k s)(n:Int):Is s s.tick.2 s.tick.1 n:=by
 obtain⟨-,h2, -,h5,h6, -, -⟩:=h.1.Ho h.2.2
 refine Ay (fun w=>?_) (fun w hw=>?_) (fun hb=>by rw[h5,h6] at hb;rcases hb with hb | hb <;> cases hb)
 ·rw[h5,h6];simpa using h2 w
 ·have h7:=h2 w
  have h8:=List.count_pos_iff.2 hw
  have:dV s.tick.2 w≤1:=by
   unfold dV rO
   split
   ·omega
   ·split <;> omega
  omega
end Go.SLYtefdijgllbkmfaaGreat
namespace Go.SLYtefdijgllbkmfaaGreat
open Go Go.RowKit
structure Le where
 kind:Int
 space:Int
 ef:Int
 choice:Int
deriving DecidableEq
def Lf(x:Le):List Value:=[.int .i64 x.kind,.int .i64 x.space,.int .i64 x.ef,.int .i64 x.choice]
end Go.SLYtefdijgllbkmfaaGreat
namespace Go.SLYtefdijgllbkmfaaGreat
open Go Go.RowKit Go.ChangeAt Go.ChangeShapes Go.Deep
section
variable{H:Type}{enc:TypeId×Value→H}{P:Program}{W:World}{bulk:DataW H→Nat}
structure vD(bulk:DataW H→Nat):Prop where
 one:∀ d,1≤bulk d
 slice:∀ es sp,(es.map bulk).sum+1≤bulk (.slice es sp)
 agg:∀ ds,(ds.map bulk).sum≤bulk (.agg ds)
def gN(enc:TypeId×Value→H)(P:Program)(W:World)(bulk:DataW H→Nat)(t:TypeId){α:Type}(ea:α→List Value)(good:α→Nat→Prop):Prop :=
 ∀ fuel cs x,DataW.trod enc P W 0 (fun _=>true) true fuel t cs=some x→ ∃ a,cs=ea a∧good a (bulk x.1)
theorem gN.int{t:TypeId}{k:IntKind}(ht:P.underlying t=some (.int k)):gN enc P W bulk t (fun n:Int=>[.int k n]) (fun n _=>(Lit.int k n).wf=true):=fun fuel cs x h=>by
 obtain⟨n,rfl,_,hw⟩:=DataW.trod_int ht h
 exact⟨n,rfl,hw⟩
theorem gN.bool{t:TypeId}(ht:P.underlying t=some .bool):gN enc P W bulk t (fun b:Bool=>[.bool b]) (fun _ _=>True):=fun fuel cs x h=>by
 obtain⟨n,rfl,_⟩:=DataW.trod_bool ht h
 exact⟨n,rfl,trivial⟩
theorem Az{l:List (DataW H)}{d:DataW H}(h:d∈l):bulk d≤(l.map bulk).sum:=by
 induction l with
 | nil=>cases h
 | cons x r ih =>
  simp only[List.map_cons,List.sum_cons]
  cases List.mem_cons.1 h with
  | inl e=>subst e;omega
  | inr e=>have:=ih e;omega
theorem F6(hb:vD bulk)(l:List (DataW H)):l.length≤(l.map bulk).sum:=by
 induction l with
 | nil=>simp
 | cons x r ih=>have:=hb.one x;simp only[List.map_cons,List.sum_cons,List.length_cons];omega
theorem gN.slice(hb:vD bulk){t e:TypeId}{k:Nat}{α:Type}{ea:α→List Value}{good:α→Nat→Prop}(ht:P.underlying t=some (.slice e))(hc:P.cellsOf e=k)(hk0:0<k)(hk:∀ a,(ea a).length=k)(he:gN enc P W bulk e ea good)
  (mono:∀ a m n,m≤n→good a m→good a n) :
  gN enc P W bulk t (fun p:Value×List α=>[p.1]) (fun p n=>iI W ea k p.1 p.2∧p.2.length+1≤n∧ ∀ a∈p.2,good a n):=fun fuel cs x h=>by
 rcases open_slice ht h with ⟨rfl,rfl⟩ | ⟨a,len,cap,m,n,D,Pl,rfl,hb0,hl,hm,hmm,rfl,hx⟩
 ·refine⟨(.slice none 0 0,[]),rfl,⟨⟨none,0,rfl,Nat.le_refl _,fun _ e _=>by(cases e),fun _=>rfl⟩,fun x hx=>(by cases hx),fun i x hx=>by simp at hx⟩,?_,fun a ha=>by cases ha⟩
  exact hb.one _
 ·simp only[if_true] at hmm
  have hmm':=hmm.symm
  subst hmm'
  have each:∀ i,i<len→ ∃ q:Option α, ∃ y,q=some y∧W.cells? 0 (a.add (i * k)) k=some (ea y)∧good y (bulk (D i)):=fun i hi=>by
   obtain⟨cs',h1,h2⟩:=hx i (Nat.lt_of_lt_of_le hi hl)
   obtain⟨y,rfl,hg⟩:=he _ _ _ h2
   rw[hc] at h1
   exact⟨some y,y,rfl,h1,hg⟩
  obtain⟨f,hf⟩:=choose_lt each
  obtain⟨xs,hxs,hxl⟩:∃ xs:List α,(∀ i y,xs[i]?=some y→i<len∧f i=some y)∧xs.length=len:=by
   clear h hx each
   induction len with
   | zero=>exact⟨[],fun i y h=>by simp at h,rfl⟩
   | succ len ih =>
    obtain⟨xs,h1,h2⟩:=ih (by omega) (fun i hi=>hf i (by omega))
    obtain⟨y,hy,_⟩:=hf len (by omega)
    refine⟨xs++[y],fun i z hz=>?_,by simp[h2]⟩
    by_cases hi:i<xs.length
    ·rw[List.getElem?_append_left hi] at hz
     have:=h1 i z hz
     exact⟨by omega,this.2⟩
    ·rw[List.getElem?_append_right (by omega)] at hz
     have hi0:=(List.getElem?_eq_some_iff.1 hz).1
     simp at hi0
     obtain rfl:i=len:=by omega
     simp[h2] at hz
     subst hz
     exact⟨by omega,hy⟩
  have spot:xs≠[]→a.spot=none:=fun hne=>by
   have h0:0<len:=by rw[← hxl];exact List.length_pos_iff.2 hne
   obtain⟨y,_,hcs,_⟩:=hf 0 h0
   obtain⟨_,hlen,hcell⟩:=World.cells?_some hcs
   have h1:=hcell 0 hk0
   rw[List.getElem?_eq_getElem (by rw[hk];exact hk0)] at h1
   have:=World.cell?_spot h1
   simpa [Addr.add] using this
  have hlenb:len+1≤bulk (.slice ((List.range len).map D) ((List.range (cap-len)).map fun j=>D (len+j))):=by
   have h1:=hb.slice ((List.range len).map D) ((List.range (cap-len)).map fun j=>D (len+j))
   have h2:=F6 hb ((List.range len).map D)
   simp only[List.length_map,List.length_range] at h2
   omega
  refine⟨(.slice (some a) len cap,xs),rfl,⟨⟨some a,cap,by rw[hxl],(by rw[hxl];exact hl),fun b e hne=>by cases e;exact spot hne,fun e=>by cases e⟩,fun x _=>hk x,fun i x hi c u hu=>?_⟩,by rw[hxl];exact hlenb,fun y hy=>?_⟩
  ·obtain⟨hil,hfi⟩:=hxs i x hi
   obtain⟨y,hy,hcs,_⟩:=hf i hil
   rw[hfi] at hy
   cases hy
   obtain⟨_,hlen,hcell⟩:=World.cells?_some hcs
   have hck:=(List.getElem?_eq_some_iff.1 hu).1
   rw[hk] at hck
   have h1:=hcell c hck
   rw[hu] at h1
   have hs:=spot (by intro e;subst e;simp at hi)
   obtain⟨b,o,s⟩:=a
   simp only at hs
   subst hs
   rw[dQ,dQ] at h1
   exact h1
  ·obtain⟨i,hi⟩:=List.mem_iff_getElem?.1 hy
   obtain⟨hil,hfi⟩:=hxs i y hi
   obtain⟨z,hz,_,hg⟩:=hf i hil
   rw[hfi] at hz
   cases hz
   refine mono y _ _ ?_ hg
   have h1:=hb.slice ((List.range len).map D) ((List.range (cap-len)).map fun j=>D (len+j))
   have h2:bulk (D i)≤(((List.range len).map D).map bulk).sum:=Az (List.mem_map.2 ⟨i,List.mem_range.2 hil,rfl⟩)
   exact Nat.le_trans h2 (Nat.le_trans (Nat.le_succ _) h1)
theorem lX(hb:vD bulk){t:TypeId}{fs:Array Field}{fuel:Nat}{cs:List Value}{x:DataW H×List MemPlace}(ht:P.underlying t=some (.struct fs))(hc:P.cellsOf t=fs.size)(ho:∀ (i:Nat) (f:Field),fs[i]?=some f→f.offset=i∧P.cellsOf f.type=1)
  (h:DataW.trod enc P W 0 (fun _=>true) true fuel t cs=some x) :
  cs.length=fs.size∧ ∀ (i:Nat) (f:Field),fs[i]?=some f→ ∃ v fuel y,cs[i]?=some v∧DataW.trod enc P W 0 (fun _=>true) true fuel f.type [v]=some y∧bulk y.1≤bulk x.1:=by
 obtain⟨xs,n,rfl,rfl,hl,hxl,hf⟩:=DataW.trod_struct ht h
 refine⟨hl.trans hc,fun i f hi=>?_⟩
 have hlt:=(Array.getElem?_eq_some_iff.1 hi).1
 have h1:=hf i f hi
 obtain⟨ho1,ho2⟩:=ho i f hi
 have hil:i<cs.length:=by omega
 rw[ho1,ho2,List.drop_eq_getElem_cons hil,List.take_succ_cons,List.take_zero,List.getElem?_eq_getElem (by omega)] at h1
 refine⟨cs[i],n,_,List.getElem?_eq_getElem hil,h1,?_⟩
 have h2:=hb.agg (xs.map (·.1))
 have h3:bulk (xs[i]'(by omega)).1≤((xs.map (·.1)).map bulk).sum:=Az (List.mem_map.2 ⟨_,List.getElem_mem _,rfl⟩)
 exact Nat.le_trans h3 h2
/-! ### A law's end -/
theorem tF(hl:laidOutB P=true){W W':World}(hb:Below W.heap.size W W'){sp:Nat→Bool} :
  ∀ {ts:List TypeId} {vs:List Value} {ds:List (DataW H)} {p:List MemPlace},ts.all (fun t=>P.readableRec t && decide (t<P.types.size))=true→DataW.TrodAll enc P W 0 (fun _=>true) true ts vs ds p→(∀ x∈p,x.block<W.heap.size)→(∀ x∈p,sp x.block=true)→
   DataW.TrodAll enc P W' 0 sp true ts vs ds p
 | [],[],[],_,_,h,_,_=>h
 | [],[],_::_,_,_,h,_,_=>h.elim
 | [],_::_,_,_,_,h,_,_=>h.elim
 | _::_,[],_,_,_,h,_,_=>h.elim
 | _::_,_::_,[],_,_,h,_,_=>h.elim
 | t::ts,v::vs,d::ds,ps,hr,h,hlt,hsp=>by
  obtain⟨p,q,h1,h2,rfl⟩:=h
  simp only[List.all_cons,Bool.and_eq_true,decide_eq_true_eq] at hr
  refine⟨p,q,WideElems.Trod_stays hl hr.1.1 hr.1.2 h1 (fun x hx=>hb.same (hlt x (by simp[hx]))) (fun x hx=>hsp x (by simp[hx])),?_,rfl⟩
  exact tF hl hb (by simpa using hr.2) h2 (fun x hx=>hlt x (by simp[hx])) (fun x hx=>hsp x (by simp[hx]))
theorem Ej{f:Func}{s:ChangeSpec}{apart fresh handsOn again:Bool}{W W':World}{args:Array Value}{ds gs:List (DataW H)}{before:List MemPlace}{tb:TypeId}
  (hl:laidOutB P=true) (hrd:f.params.toList.all (fun t=>P.readableRec t && decide (t<P.types.size))=true) (hv:s.vars=[]) (hr:f.resultTypes = #[tb]) (htb:P.underlying tb=some .bool)
  (hW:DataW.Whole enc P f.params.toList s.vars apart W args.toList ds gs before) (h1:(s.fn H ds).results=[.lit (.bool true)]) (h2:(s.fn H ds).args=ds) (h3:(s.fn H ds).vars=[])
  (hb:Below W.heap.size W W'):s.post enc P f apart fresh handsOn again W args (.bool true) W':=by
 have hlt:=fun p hp=>hW.lt p hp
 have hW':=hW
 obtain⟨p,q,hA,hV,rfl,hz,hn⟩:=hW'
 rw[hv] at hV
 obtain⟨rfl,rfl⟩:=trodVars_none hV
 have hres:∀ (b:Nat) (sp:Nat→Bool) (hd:Bool),DataW.TrodAll enc P W' b sp hd f.resultTypes.toList ((Value.bool true).resultList f.resultTypes.size) (s.fn H (ds++[])).results []:=fun b sp hd=>by
  rw[List.append_nil,h1,hr]
  exact trodAll_cons_mk (shut_bool htb _) trodAll_mk0
 have hargs:∀ sp:Nat→Bool,(∀ x∈p++[],sp x.block=true)→DataW.TrodAll enc P W' 0 sp true f.params.toList args.toList (s.fn H (ds++[])).args p:=fun sp hsp=>by
  rw[List.append_nil,h2]
  exact tF hl hb hrd hA (fun x hx=>hlt x (by simp[hx])) (fun x hx=>hsp x (by simp[hx]))
 have hvars:∀ sp:Nat→Bool,DataW.TrodVars enc P W' sp s.vars (s.fn H (ds++[])).vars []:=fun sp=>by
  rw[List.append_nil,h3,hv];rfl
 have hold:∀ x∈p++[],(fun b=>decide (b<W.heap.size)) x.block=true:=fun x hx=>by simpa using hlt x hx
 refine⟨ds,[],p++[],[],p,[],hW,hres _ _ _,hargs _ hold,hvars _,World.keptBut_mono (fun x hx=>⟨hx,?_⟩) (hb.frame _),fun _=>?_⟩
 ·simp only[List.append_nil] at hx
  exact Or.inr (by simpa using hx)
 ·refine⟨ok_one hr rfl (okWide_bool_mk htb _),_,_,([]++p)++[],⟨[]++p,[],trodAll_append (hargs _ (fun _ _=>rfl)) (hres _ _ _),hvars _,rfl,?_,?_⟩,?_⟩
  ·intro b off hp
   have hp':MemPlace.cell b off∈p:=by simpa using hp
   have:=hz b off (by simp[hp'])
   rw[← this]
   exact hb.frozen (p:=⟨b,off,none⟩) (hlt (.cell b off) (by simp[hp']))
  ·intro ha
   simpa using hn ha
  ·intro x hx _
   simpa using hx
theorem Fn.done{f:FuncId}{args:List Value}{X:Type}{v:Value}(h:Fn P W f args [] X (fun _=>v) (fun _=>True) (fun _=>[])):Calls P f args.toArray W fun e w'=>e = .returned v∧Below W.heap.size W w' :=
 (h SLYtefdijgllbkmfaaGreat.emp W (by simpa only[seps,aR] using Sat.empty)).mono fun e w' ⟨x,he,_,hs⟩=>⟨he,hs.HI⟩
end
end Go.SLYtefdijgllbkmfaaGreat
namespace Go.Proofs.YtefdijgllbkmfaaGreat
open Go Go.RowKit Go.ChangeShapes Go.WideShapes Go.ChangeAt Go.SLYtefdijgllbkmfaaGreat
/-! the bulk of what is read -/
theorem kS{H:Type}:∀ l:List (DataW H),Rows.uptoBulkAll l=(l.map Rows.uptoBulk).sum
 | []=>by simp[Rows.uptoBulkAll]
 | d::r=>by simp[Rows.uptoBulkAll,kS r]
theorem nf{H:Type}:vD (Rows.uptoBulk (H:=H)) where
 one:=fun d=>by
  cases d with
  | lit l=>cases l <;> simp[Rows.uptoBulk]
  | nil=>simp[Rows.uptoBulk]
  | ptr d=>simp[Rows.uptoBulk]
  | slice elems spare=>simp[Rows.uptoBulk]
  | agg parts=>simp[Rows.uptoBulk]
  | iface t d=>simp[Rows.uptoBulk]
  | map entries=>simp[Rows.uptoBulk]
  | held h=>simp[Rows.uptoBulk]
 slice:=fun es sp=>by rw[← kS];simp only[Rows.uptoBulk];omega
 agg:=fun ds=>by rw[← kS];simp only[Rows.uptoBulk];omega
theorem bound{H:Type}{l:List (DataW H)}(hk:Rows.uptoSmall H l=true):(l.map Rows.uptoBulk).sum≤1048576:=by
 rw[← kS];simpa [Rows.uptoSmall] using hk
structure Ek(W:World)(v:ee)(n:Nat):Prop where
 fs:iI W cj 1 v.fv v.fs
 ins:∀ x∈v.fs,iI W dq 5 x.1 x.2
 aW:iI W aH 1 v.sv v.aW
 aL:iI W aH 1 v.pv v.aL
 fl:v.fs.length≤n
 sl:v.aW.length≤n
 pl:v.aL.length≤n
 wo:∀ f∈v.p.funcs, ∀ i∈f,fJ i.n
theorem Ek.rd{W:World}{v:ee}{n:Nat}(h:Ek W v n)(H:List aa):gu W H v:=⟨.old h.fs,fun x hx=>.old (h.ins x hx),.old h.aW,.old h.aL⟩
section
variable{H:Type}{enc:TypeId×Value→H}{W:World}
theorem El:gN enc Tryz.prog W Rows.uptoBulk 131 dq (fun i _=>fJ i.n):=fun fuel cs x h=>by
 obtain⟨hl,hf⟩:=lX nf Tryz.underlying131 (by kernel_rfl) (by
  intro i f hi
  match i,hi with
  | 0,hi=>cases hi;exact⟨rfl,by kernel_rfl⟩
  | 1,hi=>cases hi;exact⟨rfl,by kernel_rfl⟩
  | 2,hi=>cases hi;exact⟨rfl,by kernel_rfl⟩
  | 3,hi=>cases hi;exact⟨rfl,by kernel_rfl⟩
  | 4,hi=>cases hi;exact⟨rfl,by kernel_rfl⟩
  | n+5,hi=>simp at hi) h
 obtain⟨v0,n0,y0,e0,t0,_⟩:=hf 0 _ rfl
 obtain⟨v1,n1,y1,e1,t1,_⟩:=hf 1 _ rfl
 obtain⟨v2,n2,y2,e2,t2,_⟩:=hf 2 _ rfl
 obtain⟨v3,n3,y3,e3,t3,_⟩:=hf 3 _ rfl
 obtain⟨v4,n4,y4,e4,t4,_⟩:=hf 4 _ rfl
 obtain⟨a0,r0,_,_⟩:=DataW.trod_int Tryz.underlying3 t0
 obtain⟨a1,r1,_,_⟩:=DataW.trod_int Tryz.underlying3 t1
 obtain⟨a2,r2,_,_⟩:=DataW.trod_int Tryz.underlying3 t2
 obtain⟨a3,r3,_,_⟩:=DataW.trod_int Tryz.underlying3 t3
 obtain⟨a4,r4,_,w4⟩:=DataW.trod_int Tryz.underlying38 t4
 cases r0;cases r1;cases r2;cases r3;cases r4
 refine⟨⟨a0,a1,a2,a3,a4⟩,?_,bounds_u64 w4⟩
 match cs,hl with
 | [w0,w1,w2,w3,w4],_ =>
  simp at e0 e1 e2 e3 e4
  subst e0 e1 e2 e3 e4
  rfl
theorem BU:gN enc Tryz.prog W Rows.uptoBulk 128 (cj (α:=List Ins)) (fun p n=>iI W dq 5 p.1 p.2∧p.2.length+1≤n∧ ∀ a∈p.2,fJ a.n) :=
 gN.slice nf Tryz.underlying128 (by kernel_rfl) (by decide) (fun _=>rfl) El (fun _ _ _ _ h=>h)
theorem y9:gN enc Tryz.prog W Rows.uptoBulk 22 (fun p:Value×List (Value×List Ins)=>[p.1]) (fun p n=>iI W cj 1 p.1 p.2∧p.2.length+1≤n∧ ∀ a∈p.2,iI W dq 5 a.1 a.2∧a.2.length+1≤n∧ ∀ b∈a.2,fJ b.n) :=
 gN.slice nf Tryz.underlying22 (by kernel_rfl) (by decide) (fun _=>rfl) BU (fun _ _ _ hm h=>⟨h.1,Nat.le_trans h.2.1 hm,h.2.2⟩)
theorem tG:gN enc Tryz.prog W Rows.uptoBulk 23 (fun p:Value×List Int=>[p.1]) (fun p n=>iI W aH 1 p.1 p.2∧p.2.length+1≤n∧ ∀ a∈p.2,True) :=
 gN.slice nf Tryz.underlying23 (by kernel_rfl) (by decide) (fun _=>rfl) (fun fuel cs x h=>by
  obtain⟨n,rfl,_,_⟩:=DataW.trod_int Tryz.underlying3 h
  exact⟨n,rfl,trivial⟩) (fun _ _ _ _ _=>trivial)
theorem Em:gN enc Tryz.prog W Rows.uptoBulk 25 ff (fun v n=>Ek W v n):=fun fuel cs x h=>by
 obtain⟨hl,hf⟩:=lX nf Tryz.underlying25 (by kernel_rfl) (by
  intro i f hi
  match i,hi with
  | 0,hi=>cases hi;exact⟨rfl,by kernel_rfl⟩
  | 1,hi=>cases hi;exact⟨rfl,by kernel_rfl⟩
  | 2,hi=>cases hi;exact⟨rfl,by kernel_rfl⟩
  | 3,hi=>cases hi;exact⟨rfl,by kernel_rfl⟩
  | 4,hi=>cases hi;exact⟨rfl,by kernel_rfl⟩
  | 5,hi=>cases hi;exact⟨rfl,by kernel_rfl⟩
  | 6,hi=>cases hi;exact⟨rfl,by kernel_rfl⟩
  | 7,hi=>cases hi;exact⟨rfl,by kernel_rfl⟩
  | n+8,hi=>simp at hi) h
 obtain⟨v0,n0,y0,e0,t0,b0⟩:=hf 0 _ rfl
 obtain⟨v1,n1,y1,e1,t1,_⟩:=hf 1 _ rfl
 obtain⟨v2,n2,y2,e2,t2,_⟩:=hf 2 _ rfl
 obtain⟨v3,n3,y3,e3,t3,_⟩:=hf 3 _ rfl
 obtain⟨v4,n4,y4,e4,t4,b4⟩:=hf 4 _ rfl
 obtain⟨v5,n5,y5,e5,t5,b5⟩:=hf 5 _ rfl
 obtain⟨v6,n6,y6,e6,t6,_⟩:=hf 6 _ rfl
 obtain⟨v7,n7,y7,e7,t7,_⟩:=hf 7 _ rfl
 obtain⟨⟨fv,fs⟩,r0,f1,f2,f3⟩:=y9 _ _ _ t0
 obtain⟨a1,r1,_,_⟩:=DataW.trod_int Tryz.underlying3 t1
 obtain⟨a2,r2,_,_⟩:=DataW.trod_int Tryz.underlying3 t2
 obtain⟨a3,r3,_,_⟩:=DataW.trod_int Tryz.underlying3 t3
 obtain⟨⟨sv,aW⟩,r4,s1,s2,_⟩:=tG _ _ _ t4
 obtain⟨⟨pv,aL⟩,r5,p1,p2,_⟩:=tG _ _ _ t5
 obtain⟨a6,r6,_,_⟩:=DataW.trod_int Tryz.underlying3 t6
 obtain⟨a7,r7,_,_⟩:=DataW.trod_int Tryz.underlying3 t7
 cases r0;cases r1;cases r2;cases r3;cases r4;cases r5;cases r6;cases r7
 refine⟨⟨fv,fs,a1,a2,a3,sv,aW,pv,aL,a6,a7⟩,?_,⟨f1,fun x hx=>(f3 x hx).1,s1,p1,?_,?_,?_,?_⟩⟩
 ·match cs,hl with
  | [w0,w1,w2,w3,w4,w5,w6,w7],_ =>
   simp at e0 e1 e2 e3 e4 e5 e6 e7
   subst e0 e1 e2 e3 e4 e5 e6 e7
   rfl
 ·exact Nat.le_trans (Nat.le_of_succ_le f2) b0
 ·exact Nat.le_trans (Nat.le_of_succ_le s2) b4
 ·exact Nat.le_trans (Nat.le_of_succ_le p2) b5
 ·intro f hf i hi
  obtain⟨q,hq,rfl⟩:=List.mem_map.1 hf
  exact(f3 q hq).2.2 i hi
theorem En:gN enc Tryz.prog W Rows.uptoBulk 37 BS (fun _ _=>True):=fun fuel cs x h=>by
 obtain⟨hl,hf⟩:=lX nf Tryz.underlying37 (by kernel_rfl) (by
  intro i f hi
  match i,hi with
  | 0,hi=>cases hi;exact⟨rfl,by kernel_rfl⟩
  | 1,hi=>cases hi;exact⟨rfl,by kernel_rfl⟩
  | 2,hi=>cases hi;exact⟨rfl,by kernel_rfl⟩
  | n+3,hi=>simp at hi) h
 obtain⟨v0,n0,y0,e0,t0,_⟩:=hf 0 _ rfl
 obtain⟨v1,n1,y1,e1,t1,_⟩:=hf 1 _ rfl
 obtain⟨v2,n2,y2,e2,t2,_⟩:=hf 2 _ rfl
 obtain⟨a0,r0,_,_⟩:=DataW.trod_int Tryz.underlying3 t0
 obtain⟨a1,r1,_,_⟩:=DataW.trod_int Tryz.underlying3 t1
 obtain⟨a2,r2,_,_⟩:=DataW.trod_int Tryz.underlying3 t2
 cases r0;cases r1;cases r2
 refine⟨⟨a0,a1,a2⟩,?_,trivial⟩
 match cs,hl with
 | [w0,w1,w2],_ =>
  simp at e0 e1 e2
  subst e0 e1 e2
  rfl
theorem BV:gN enc Tryz.prog W Rows.uptoBulk 26 (fun p:Value×List yf=>[p.1]) (fun p n=>iI W BS 3 p.1 p.2∧p.2.length+1≤n∧ ∀ a∈p.2,True) :=
 gN.slice nf Tryz.underlying26 (by kernel_rfl) (by decide) (fun _=>rfl) En (fun _ _ _ _ _=>trivial)
end
theorem own:ownKnob Tryz.prog.godebug=none:=by kernel_rfl
theorem laid:laidOutB Tryz.prog=true:=by kernel_rfl
end Go.Proofs.YtefdijgllbkmfaaGreat
namespace Go.SLYtefdijgllbkmfaaGreat
open Go Go.RowKit
class kA(P:Program)(t:TypeId)(u:outParam TypeDesc):Prop where
 ok:P.underlying t=some u
class ij(P:Program)(t:TypeId)(k:outParam Nat):Prop where
 ok:∀ w,(sizeOf t).run P w = .ok k w
class One(P:Program)(t:TypeId):Prop where
 ok:∀ w,(isAgg t).run P w = .ok false w
class iB(P:Program)(t:TypeId):Prop where
 ok:∀ w,(isAgg t).run P w = .ok true w
class cI(P:Program)(S:TypeId)(f:Nat)(k:outParam Nat):Prop where
 ok:∀ (b o:Nat) (w:World),(Instr.fieldAt S (.pointer (some ⟨b,o,none⟩)) f).run P w = .ok (.pointer (some ⟨b,o+k,none⟩)) w
section
variable{P:Program}{W:World}{N:Nat}{Q:Exit→Act→World→Prop}{L:List (Nat×Option Value)}{H:List aa}{O:Array Oper}{T:TypeId}{K:List aa}{ks:List Nat}
theorem Y.o{S:TypeId}{f k:Nat}[h:cI P S f k]{x:Operand}{b o:Nat}(hx:ev L x=some (.pointer (some ⟨b,o,none⟩))):Y P W N (.fieldAddr S x f) T L H (.pointer (some ⟨b,o+k,none⟩)):=fun dst pos after guard a w ha hs=>by
 simp only[execOp,ha.eval hx]
 exact bI (h.ok b o w)
theorem Y.f{S:TypeId}{f k:Nat}[h:cI P S f k]{x:Operand}{b:Nat}(hx:ev L x=some (.pointer (some ⟨b,0,none⟩))):Y P W N (.fieldAddr S x f) T L H (.pointer (some ⟨b,k,none⟩)):=by
 have:=Y.o (P:=P) (W:=W) (N:=N) (H:=H) (T:=T) (S:=S) (f:=f) (k:=k) hx
 rwa [Nat.zero_add] at this
theorem Y.z{S:TypeId}{f:Nat}[h:cI P S f 0]{x:Operand}{b o:Nat}(hx:ev L x=some (.pointer (some ⟨b,o,none⟩))):Y P W N (.fieldAddr S x f) T L H (.pointer (some ⟨b,o,none⟩)):=Y.o (k:=0) hx
theorem Y.ld{x:Operand}{b o:Nat}{v:Value}[h:One P T]{T':TypeId}(hx:ev L x=some (.pointer (some ⟨b,o,none⟩)))(hc:Cell W H b o v):Y P W N (.load T x) T' L H v:=Y.load h.ok hx hc
theorem Y.l{x:Operand}{b i:Nat}{v:Value}{cs:List Value}[h:One P T]{T':TypeId}(hx:ev L x=some (.pointer (some ⟨b,i,none⟩)))[hh:aV H b 0 cs](hc:cs[i]?=some v:=by rfl):Y P W N (.load T x) T' L H v:=Y.load h.ok hx (Cell.a hc)
theorem Y.lo{x:Operand}{b o i:Nat}{v:Value}{cs:List Value}[h:One P T]{T':TypeId}(hx:ev L x=some (.pointer (some ⟨b,o+i,none⟩)))[hh:aV H b o cs](hc:cs[i]?=some v:=by rfl):Y P W N (.load T x) T' L H v:=Y.load h.ok hx (Cell.ao hc)
theorem Y.lz{x:Operand}{b o:Nat}{v:Value}{cs:List Value}[h:One P T]{T':TypeId}(hx:ev L x=some (.pointer (some ⟨b,o,none⟩)))[hh:aV H b o cs](hc:cs[0]?=some v:=by rfl):Y P W N (.load T x) T' L H v:=Y.load h.ok hx (Cell.az hc)
theorem Y.lr{α:Type}{enc:α→List Value}{k i:Nat}{v u:Value}{xs:List α}{y:α}{x:Operand}[h:One P T]{T':TypeId}(hx:ev L x=some (.pointer (some ⟨blk v,cz v+i * k,none⟩)))(hy:xs[i]?=some y)[hr:aJ W H v enc k xs](hu:(enc y)[0]?=some u:=by rfl):Y P W N (.load T x) T' L H u:=Y.load h.ok hx (Cell.yn hr.rd hy hu)
theorem Y.la{x:Operand}{b o k:Nat}{cs:List Value}[h:iB P T][z:ij P T k]{T':TypeId}(hx:ev L x=some (.pointer (some ⟨b,o,none⟩)))(hc:Cells W H b o cs)(hz:cs.length=k:=by rfl):Y P W N (.load T x) T' L H (.agg cs.toArray):=Y.CN h.ok hx hc (by rw[hz];exact z.ok)
theorem Y.lA{x:Operand}{b o k:Nat}{cs:List Value}[h:iB P T][z:ij P T k]{T':TypeId}(hx:ev L x=some (.pointer (some ⟨b,o,none⟩)))[hh:aV H b o cs](hz:cs.length=k:=by rfl):Y P W N (.load T x) T' L H (.agg cs.toArray):=Y.la hx Cells.a hz
theorem Y.len{α:Type}{enc:α→List Value}{k:Nat}{x:Operand}{t e:TypeId}{v:Value}{xs:List α}[hu:kA P t (.slice e)](hx:ev L x=some v)[h:aJ W H v enc k xs]:Y P W N (.call ⟨.builtin .len, #[x], #[t]⟩) T L H (.int .i64 (xs.length:Int)):=Y.C2 hu.ok hx h.rd
theorem Y.lens{x:Operand}{t e:TypeId}{p:Option Addr}{n c:Nat}[hu:kA P t (.slice e)](hx:ev L x=some (.slice p n c)):Y P W N (.call ⟨.builtin .len, #[x], #[t]⟩) T L H (.int .i64 n):=Y.wu hu.ok hx
theorem Y.ix{α:Type}{enc:α→List Value}{k:Nat}{x y:Operand}{t e:TypeId}{v:Value}{xs:List α}{kd:IntKind}{j:Int}(i:Nat)[hu:kA P t (.slice e)][hz:ij P e k](hx:ev L x=some v)(hy:ev L y=some (.int kd j))[h:aJ W H v enc k xs](hj:j=(i:Int))(hi:i<xs.length):Y P W N (.indexAddr t x y) T L H (.pointer (some ⟨blk v,cz v+i * k,none⟩)):=Y.iu i hu.ok hz.ok hx hy h.rd hj hi
theorem Y.Lg{xT e yT:TypeId}{x y:Operand}{p:Option Addr}[hu:kA P xT (.pointer e)](hx:ev L x=some (.pointer p))(hy:ev L y=some (.pointer none)):Y P W N (.binOp .eql xT x y yT) T L H (.bool p.isNone):=Y.CW hu.ok hx hy
theorem Y.KL{xT e yT:TypeId}{x y:Operand}{p:Option Addr}[hu:kA P xT (.pointer e)](hx:ev L x=some (.pointer p))(hy:ev L y=some (.pointer none)):Y P W N (.binOp .neq xT x y yT) T L H (.bool (!p.isNone)):=Y.A8 hu.ok hx hy
theorem aP.p{op:Op}{pos:String}{after:Array Edge}{d:Nat}{rest:List Oper}{v:Value}(hy:Y P W N op T L H v)(k:aP P W N O Q rest ((d,some v)::L) H)(hN:Nat.blt d N=true:=by rfl):aP P W N O Q (⟨some d,op,T,pos,after,none⟩::rest) L H:=aP.y hN hy k
theorem aP.g{op:Op}{pos:String}{after:Array Edge}{d j t:Nat}{want:Bool}{rest:List Oper}{v:Value}(hy:Y P W N op T L H v)(k:aP P W N O Q rest ((d,some v)::L) H)(hj:(O[j]?).bind (·.dst)=some t:=by rfl)(ht:look L t=some (.bool want):=by rfl)(hN:Nat.blt d N=true:=by rfl):aP P W N O Q (⟨some d,op,T,pos,after,some (j,want)⟩::rest) L H:=aP.yg hj ht hN hy k
theorem aP.u{op:Op}{pos:String}{after:Array Edge}{d j t:Nat}{want:Bool}{rest:List Oper}{u:Value}(k:aP P W N O Q rest ((d,some undef)::L) H)(hj:(O[j]?).bind (·.dst)=some t:=by rfl)(ht:look L t=some u:=by rfl)(hb:(boolOf u == some want)=false:=by rfl)(hN:Nat.blt d N=true:=by rfl):aP P W N O Q (⟨some d,op,T,pos,after,some (j,want)⟩::rest) L H:=aP.skip hj ht hb hN k
theorem bA.p{op:Op}{pos:String}{after:Array Edge}{d:Nat}{rest:List Oper}{v:Value}(hy:Y P W N op T L H v)(k:bA P W N K O Q ks rest ((d,some v)::L) H)(hN:Nat.blt d N=true:=by rfl):bA P W N K O Q (1::ks) (⟨some d,op,T,pos,after,none⟩::rest) L H:=bA.s hN hy k
theorem bA.q{op:Op}{pos:String}{after:Array Edge}{d:Nat}{rest:List Oper}{v:Value}(hy:Y P W N op T L K v)(k:bA P W N K O Q ks rest ((d,some v)::L) H)(hN:Nat.blt d N=true:=by rfl)(hK:∀ w,Sat W w (seps H)→Sat W w (seps K):=by exact Kept.auto):bA P W N K O Q (0::ks) (⟨some d,op,T,pos,after,none⟩::rest) L H:=bA.k hN hK hy k
theorem bA.g{op:Op}{pos:String}{after:Array Edge}{d j t:Nat}{want:Bool}{rest:List Oper}{v:Value}(hy:Y P W N op T L H v)(k:bA P W N K O Q ks rest ((d,some v)::L) H)(hj:(O[j]?).bind (·.dst)=some t:=by rfl)(ht:look L t=some (.bool want):=by rfl)(hN:Nat.blt d N=true:=by rfl):bA P W N K O Q (1::ks) (⟨some d,op,T,pos,after,some (j,want)⟩::rest) L H:=bA.sg hj ht hN hy k
theorem bA.h{op:Op}{pos:String}{after:Array Edge}{d j t:Nat}{want:Bool}{rest:List Oper}{v:Value}(hy:Y P W N op T L K v)(k:bA P W N K O Q ks rest ((d,some v)::L) H)(hj:(O[j]?).bind (·.dst)=some t:=by rfl)(ht:look L t=some (.bool want):=by rfl)(hN:Nat.blt d N=true:=by rfl)(hK:∀ w,Sat W w (seps H)→Sat W w (seps K):=by exact Kept.auto):bA P W N K O Q (0::ks) (⟨some d,op,T,pos,after,some (j,want)⟩::rest) L H:=bA.kg hj ht hN hK hy k
theorem bA.u{op:Op}{pos:String}{after:Array Edge}{d j t:Nat}{want:Bool}{rest:List Oper}{u:Value}(k:bA P W N K O Q ks rest ((d,some undef)::L) H)(hj:(O[j]?).bind (·.dst)=some t:=by rfl)(ht:look L t=some u:=by rfl)(hb:(boolOf u == some want)=false:=by rfl)(hN:Nat.blt d N=true:=by rfl)(hK:∀ w,Sat W w (seps H)→Sat W w (seps K):=by exact Kept.auto):bA P W N K O Q (0::ks) (⟨some d,op,T,pos,after,some (j,want)⟩::rest) L H:=bA.Ji hj ht hb hN hK k
theorem bA.w{op:Op}{pos:String}{after:Array Edge}{d j t:Nat}{want:Bool}{rest:List Oper}{u:Value}(k:bA P W N K O Q ks rest ((d,some undef)::L) H)(hj:(O[j]?).bind (·.dst)=some t:=by rfl)(ht:look L t=some u:=by rfl)(hb:(boolOf u == some want)=false:=by rfl)(hN:Nat.blt d N=true:=by rfl):bA P W N K O Q (1::ks) (⟨some d,op,T,pos,after,some (j,want)⟩::rest) L H:=bA.Jj hj ht hb hN k
end
end Go.SLYtefdijgllbkmfaaGreat
namespace Go.SLYtefdijgllbkmfaaGreat
open Go
def fS:Nat:=9223372036854775808
def fD:Nat:=4503599627370496
def bR:Nat:=9218868437227405312
def fU(r:Nat):Nat:=if r<fD then r else (fD+r % fD) * 2 ^ (r / fD-1)
def cK(w:Nat):Bool:=w / fS % 2 == 1
def kB(w:Nat):Int:=if cK w=true then -(fU (w % fS):Int) else (fU (w % fS):Int)
theorem gn:Ieee.double.signWeight=fS∧Ieee.double.binade=fD∧Ieee.double.infRung=bR∧Ieee.double.leastPlace = -1074:=by decide +kernel
theorem jf{w:Nat}(h:w % fS<bR):∃ m p,Ieee.double.read w = .number (cK w) m p∧ -1074≤p∧m * 2 ^ (p+1074).toNat=fU (w % fS)∧(m=0↔w % fS=0):=by
 obtain⟨c1,c2,c3,c4⟩:=gn
 unfold Ieee.Format.read
 simp only
 rw[c1,c2,c3,c4]
 by_cases h1:w % fS<fD
 ·rw[if_pos h1]
  refine⟨_,_,rfl,by decide,?_,Iff.rfl⟩
  unfold fU
  rw[if_pos h1]
  simp
 ·rw[if_neg h1,if_pos h]
  refine⟨_,_,rfl,by omega,?_,?_⟩
  ·unfold fU
   rw[if_neg h1]
   congr 2
   omega
  ·unfold fD at *;omega
theorem jg{w:Nat}(h:w % fS=bR):Ieee.double.read w = .infinity (cK w):=by
 obtain⟨c1,c2,c3,c4⟩:=gn
 unfold Ieee.Format.read
 simp only
 rw[c1,c2,c3,c4,if_neg (by rw[h];decide),if_neg (by rw[h];decide),if_pos h];rfl
theorem j9{w:Nat}(h:bR<w % fS):∃ f,Ieee.double.read w = .nan (cK w) f:=by
 obtain⟨c1,c2,c3,c4⟩:=gn
 unfold Ieee.Format.read
 simp only
 rw[c1,c2,c3,c4,if_neg (by unfold bR fD at *;omega),if_neg (by omega),if_neg (by omega)]
 exact⟨_,rfl⟩
theorem ik{r s:Nat}(h:r<s):fU r<fU s:=by
 have hD:0<fD:=by decide
 unfold fU
 by_cases h1:s<fD
 ·rw[if_pos (by omega),if_pos h1];exact h
 ·rw[if_neg h1]
  have hs1:1≤s / fD:=by
   rw[Nat.le_div_iff_mul_le hD];omega
  by_cases h2:r<fD
  ·rw[if_pos h2]
   have:fD * 1≤(fD+s % fD) * 2 ^ (s / fD-1):=Nat.mul_le_mul (Nat.le_add_right ..) (Nat.one_le_two_pow)
   omega
  ·rw[if_neg h2]
   have hr1:1≤r / fD:=by
    rw[Nat.le_div_iff_mul_le hD];omega
   have hle:r / fD≤s / fD:=Nat.div_le_div_right (Nat.le_of_lt h)
   have er:=Nat.div_add_mod r fD
   have es:=Nat.div_add_mod s fD
   have hrm:=Nat.mod_lt r hD
   by_cases e:r / fD=s / fD
   ·rw[e] at er ⊢
    exact Nat.mul_lt_mul_of_pos_right (by omega) (Nat.two_pow_pos _)
   ·have hlt:r / fD-1+1≤s / fD-1:=by omega
    have p1:2 ^ (r / fD-1+1)≤2 ^ (s / fD-1):=Nat.pow_le_pow_right (by decide) hlt
    rw[Nat.pow_succ] at p1
    calc (fD+r % fD) * 2 ^ (r / fD-1)<(fD+fD) * 2 ^ (r / fD-1):=Nat.mul_lt_mul_of_pos_right (by omega) (Nat.two_pow_pos _)
     _=fD * (2 ^ (r / fD-1) * 2):=by rw[← Nat.two_mul,Nat.mul_comm 2 fD,Nat.mul_assoc,Nat.mul_comm 2]
     _≤fD * 2 ^ (s / fD-1):=Nat.mul_le_mul_left _ p1
     _≤(fD+s % fD) * 2 ^ (s / fD-1):=Nat.mul_le_mul_right _ (Nat.le_add_right ..)
theorem val_inj{r s:Nat}:fU r=fU s↔r=s:=by
 constructor
 ·intro h
  rcases Nat.lt_trichotomy r s with g | g | g
  ·have:=ik g;omega
  ·exact g
  ·have:=ik g;omega
 ·intro h;rw[h]
theorem vE{r s:Nat}:fU r<fU s↔r<s:=by
 constructor
 ·intro h
  rcases Nat.lt_trichotomy r s with g | g | g
  ·exact g
  ·rw[g] at h;omega
  ·have:=ik g;omega
 ·exact ik
theorem val_zero:fU 0=0:=rfl
theorem za(s:Bool)(m u k:Nat):Ieee.signed s m u * (2 ^ k:Nat)=if s=true then -((m * 2 ^ (u+k):Nat):Int) else ((m * 2 ^ (u+k):Nat):Int):=by
 unfold Ieee.signed
 rw[Nat.shiftLeft_eq,Nat.pow_add, ← Nat.mul_assoc]
 cases s
 ·simp
 ·simp[Int.neg_mul]
theorem BW{x y:Int}{k:Nat}(hk:0<k):compare x y=compare (x * (k:Int)) (y * (k:Int)):=by
 have hk2:(0:Int)<(k:Int):=by omega
 show compareOfLessAndEq x y=compareOfLessAndEq _ _
 unfold compareOfLessAndEq
 by_cases h1:x<y
 ·rw[if_pos h1,if_pos (Int.mul_lt_mul_of_pos_right h1 hk2)]
 ·rw[if_neg h1,if_neg (fun h=>h1 (Int.lt_of_mul_lt_mul_right h (Int.le_of_lt hk2)))]
  by_cases h2:x=y
  ·rw[if_pos h2,if_pos (by rw[h2])]
  ·rw[if_neg h2,if_neg (fun h=>h2 (Int.eq_of_mul_eq_mul_right (by omega) h))]
theorem Eo{w:Nat}{m:Nat}{p:Int}(h2:m * 2 ^ (p+1074).toNat=fU (w % fS)){b:Int}(hb : -1074≤b)(hp:b≤p):Ieee.signed (cK w) m (p-b).toNat * ((2 ^ (b+1074).toNat:Nat):Int)=kB w:=by
 rw[za,show(p-b).toNat+(b+1074).toNat=(p+1074).toNat by omega,h2];rfl
theorem ox{a b:Nat}(ha:¬bR<a % fS)(hb:¬bR<b % fS):Ieee.double.order a b=some (compare (kB a) (kB b)):=by
 have hI:∀ {w:Nat},w % fS=bR→kB w=if cK w=true then -(fU bR:Int) else (fU bR:Int):=fun h=>by unfold kB;rw[h]
 have cl:∀ {x y:Int},x<y→compare x y = .lt:=fun h=>by show compareOfLessAndEq _ _=_;unfold compareOfLessAndEq;rw[if_pos h]
 have cg:∀ {x y:Int},y<x→compare x y = .gt:=fun h=>by show compareOfLessAndEq _ _=_;unfold compareOfLessAndEq;rw[if_neg (by omega),if_neg (by omega)]
 have ce:∀ {x:Int},compare x x = .eq:=fun {x}=>by show compareOfLessAndEq _ _=_;unfold compareOfLessAndEq;rw[if_neg (Int.lt_irrefl _),if_pos rfl]
 have bd:∀ {w:Nat},w % fS<bR→ -(fU bR:Int)<kB w∧kB w<(fU bR:Int):=fun {w} h=>by
  have:=ik h
  unfold kB
  split <;> omega
 have hp:0<fU bR:=by have:=ik (show 0<bR by decide);rw[val_zero] at this;exact this
 unfold Ieee.Format.order
 by_cases h1:a % fS=bR
 ·rw[jg h1,hI h1]
  by_cases h2:b % fS=bR
  ·rw[jg h2,hI h2]
   cases cK a <;> cases cK b
   ·rw[if_neg (by decide),ce];rfl
   ·rw[if_neg (by decide),if_pos rfl,cg (by omega)];rfl
   ·rw[if_pos rfl,if_neg (by decide),cl (by omega)];rfl
   ·rw[if_pos rfl,ce];rfl
  ·obtain⟨n,j,e2, -, -, -⟩:=jf (w:=b) (by omega)
   have:=bd (w:=b) (by omega)
   rw[e2]
   cases cK a
   ·rw[if_neg (by decide),cg this.2];rfl
   ·rw[if_pos rfl,cl this.1];rfl
 ·obtain⟨m,i,e1,i1,i2, -⟩:=jf (w:=a) (by omega)
  rw[e1]
  by_cases h2:b % fS=bR
  ·have:=bd (w:=a) (by omega)
   rw[jg h2,hI h2]
   cases cK b
   ·rw[if_neg (by decide),cl this.2];rfl
   ·rw[if_pos rfl,cg this.1];rfl
  ·obtain⟨n,j,e2,j1,j2, -⟩:=jf (w:=b) (by omega)
   rw[e2]
   show some (compare (Ieee.signed (cK a) m (i-min i j).toNat) (Ieee.signed (cK b) n (j-min i j).toNat))=_
   rw[BW (k:=2 ^ (min i j+1074).toNat) (Nat.two_pow_pos _),Eo i2 (by omega) (by omega),Eo j2 (by omega) (by omega)]
theorem rU{a b:Nat}(ha:bR<a % fS):Ieee.double.order a b=none:=by
 obtain⟨f,e⟩:=j9 ha
 unfold Ieee.Format.order
 rw[e];rfl
theorem zb{a b:Nat}(hb:bR<b % fS):Ieee.double.order a b=none:=by
 obtain⟨f,e⟩:=j9 hb
 unfold Ieee.Format.order
 rw[e]
 cases Ieee.double.read a <;> rfl
/-! the words of the model -/
theorem kc(a:Int):mF a=decide (bR<a.toNat % fS):=by
 unfold mF Kz
 by_cases h:bR<a.toNat % fS
 ·rw[rU h,decide_eq_true h];rfl
 ·rw[ox h h,decide_eq_false h]
  have:compare (kB a.toNat) (kB a.toNat) = .eq:=by show compareOfLessAndEq _ _=_;unfold compareOfLessAndEq;rw[if_neg (Int.lt_irrefl _),if_pos rfl]
  rw[this];rfl
theorem F7{a b:Int}(ha:¬bR<a.toNat % fS)(hb:¬bR<b.toNat % fS):Dy a b=decide (kB a.toNat<kB b.toNat):=by
 unfold Dy
 rw[ox ha hb]
 show(some (compareOfLessAndEq _ _) == some Ordering.lt)=_
 unfold compareOfLessAndEq
 by_cases h:kB a.toNat<kB b.toNat
 ·rw[if_pos h,decide_eq_true h];rfl
 ·rw[if_neg h,decide_eq_false h]
  split <;> rfl
/-! the reference's words -/
def bE(a:Int):Int:=if a.toNat % fS=0 then 1 else if a.toNat % fS=bR then 2 else if bR<a.toNat % fS then 3 else 0
def fR(a:Int):Int:=if cK a.toNat=true then -((a.toNat % fS:Nat):Int)-1 else a
theorem ke(a:Int):bE a=3↔bR<a.toNat % fS:=by
 unfold bE
 by_cases h1:a.toNat % fS=0
 ·rw[if_pos h1,h1];exact⟨fun h=>absurd h (by decide),fun h=>absurd h (by decide)⟩
 ·rw[if_neg h1]
  by_cases h2:a.toNat % fS=bR
  ·rw[if_pos h2,h2];exact⟨fun h=>absurd h (by decide),fun h=>absurd h (Nat.lt_irrefl _)⟩
  ·rw[if_neg h2]
   by_cases h3:bR<a.toNat % fS
   ·rw[if_pos h3];exact⟨fun _=>h3,fun _=>rfl⟩
   ·rw[if_neg h3];exact⟨fun h=>absurd h (by decide),fun h=>absurd h h3⟩
theorem AA(a:Int):bE a=1↔a.toNat % fS=0:=by
 unfold bE
 by_cases h1:a.toNat % fS=0
 ·rw[if_pos h1];exact⟨fun _=>h1,fun _=>rfl⟩
 ·rw[if_neg h1]
  by_cases h2:a.toNat % fS=bR
  ·rw[if_pos h2];exact⟨fun h=>absurd h (by decide),fun h=>absurd h h1⟩
  ·rw[if_neg h2]
   by_cases h3:bR<a.toNat % fS
   ·rw[if_pos h3];exact⟨fun h=>absurd h (by decide),fun h=>absurd h h1⟩
   ·rw[if_neg h3];exact⟨fun h=>absurd h (by decide),fun h=>absurd h h1⟩
theorem iL{a:Int}(ha:0≤a∧a<18446744073709551616):cK a.toNat=decide (9223372036854775808≤a):=by
 unfold cK fS
 by_cases h:9223372036854775808≤a
 ·rw[decide_eq_true h]
  have:a.toNat / 9223372036854775808 % 2=1:=by omega
  rw[this];rfl
 ·rw[decide_eq_false h]
  have:a.toNat / 9223372036854775808 % 2=0:=by omega
  rw[this];rfl
theorem vF{a b:Int}(ha:0≤a∧a<18446744073709551616)(hb:0≤b∧b<18446744073709551616)(h:¬(a.toNat % fS=0∧b.toNat % fS=0)):(fR a<fR b)↔kB a.toNat<kB b.toNat:=by
 unfold fR kB
 have na:=iL ha
 have nb:=iL hb
 have v0:fU (a.toNat % fS)=0↔a.toNat % fS=0:=⟨fun e=>val_inj.1 (e.trans val_zero.symm),fun e=>by rw[e];rfl⟩
 have w0:fU (b.toNat % fS)=0↔b.toNat % fS=0:=⟨fun e=>val_inj.1 (e.trans val_zero.symm),fun e=>by rw[e];rfl⟩
 have hl:=vE (r:=a.toNat % fS) (s:=b.toNat % fS)
 have hg:=vE (r:=b.toNat % fS) (s:=a.toNat % fS)
 by_cases ca:9223372036854775808≤a
 ·have ta:cK a.toNat=true:=na.trans (decide_eq_true ca)
  rw[if_pos ta,if_pos ta]
  by_cases cb:9223372036854775808≤b
  ·have tb:cK b.toNat=true:=nb.trans (decide_eq_true cb)
   rw[if_pos tb,if_pos tb]
   constructor
   ·intro x;have:=hg.2 (by omega);omega
   ·intro x;have:=hg.1 (by omega);omega
  ·have tb:¬cK b.toNat=true:=by rw[nb,decide_eq_false cb];decide
   rw[if_neg tb,if_neg tb]
   constructor
   ·intro _
    by_cases e:fU (a.toNat % fS)=0
    ·have:¬fU (b.toNat % fS)=0:=fun e2=>h ⟨v0.1 e,w0.1 e2⟩
     omega
    ·omega
   ·intro _;omega
 ·have ta:¬cK a.toNat=true:=by rw[na,decide_eq_false ca];decide
  rw[if_neg ta,if_neg ta]
  have ea:a.toNat % fS=a.toNat:=Nat.mod_eq_of_lt (by unfold fS;omega)
  by_cases cb:9223372036854775808≤b
  ·have tb:cK b.toNat=true:=nb.trans (decide_eq_true cb)
   rw[if_pos tb,if_pos tb]
   constructor
   ·intro x;omega
   ·intro x;omega
  ·have tb:¬cK b.toNat=true:=by rw[nb,decide_eq_false cb];decide
   rw[if_neg tb,if_neg tb]
   have eb:b.toNat % fS=b.toNat:=Nat.mod_eq_of_lt (by unfold fS;omega)
   rw[ea,eb] at hl
   rw[ea,eb]
   constructor
   ·intro x;have:=hl.2 (by omega);omega
   ·intro x;have:=hl.1 (by omega);omega
def qo(a b:Int):Bool:=if bE a=3∨bE b=3∨(bE a=1∧bE b=1) then false else decide (fR a<fR b)
theorem kh{a b:Int}(ha:0≤a∧a<18446744073709551616)(hb:0≤b∧b<18446744073709551616):qo a b=Dy a b:=by
 have hiff:(bE a=3∨bE b=3∨(bE a=1∧bE b=1))↔(bR<a.toNat % fS∨bR<b.toNat % fS∨(a.toNat % fS=0∧b.toNat % fS=0)):=by rw[ke,ke,AA,AA]
 have hl:qo a b=if bR<a.toNat % fS∨bR<b.toNat % fS∨(a.toNat % fS=0∧b.toNat % fS=0) then false else decide (fR a<fR b):=by
  unfold qo
  by_cases h:bE a=3∨bE b=3∨(bE a=1∧bE b=1)
  ·rw[if_pos h,if_pos (hiff.1 h)]
  ·rw[if_neg h,if_neg (fun x=>h (hiff.2 x))]
 rw[hl]
 by_cases h1:bR<a.toNat % fS
 ·rw[if_pos (.inl h1)];unfold Dy;rw[rU h1];rfl
 ·by_cases h2:bR<b.toNat % fS
  ·rw[if_pos (.inr (.inl h2))];unfold Dy;rw[zb h2];rfl
  ·rw[F7 h1 h2]
   by_cases h3:a.toNat % fS=0∧b.toNat % fS=0
   ·rw[if_pos (.inr (.inr h3))]
    refine(decide_eq_false ?_).symm
    unfold kB
    rw[h3.1,h3.2,val_zero]
    split <;> split <;> omega
   ·rw[if_neg (fun x=>x.elim h1 (fun x=>x.elim h2 h3))]
    exact decide_eq_decide.2 (vF ha hb h3)
end Go.SLYtefdijgllbkmfaaGreat
namespace Go.SLYtefdijgllbkmfaaGreat
open Go
theorem gg(w:Nat):Go.FloatKind.f64.decode w=Ieee.double.read w:=rfl
theorem jG(w:Nat):(Ieee.double.read w).isZero=decide (w % fS=0):=by
 by_cases h1:w % fS<bR
 ·obtain⟨m,p,e, -, -,hz⟩:=jf h1
  rw[e]
  by_cases h0:w % fS=0
  ·rw[decide_eq_true h0,hz.2 h0];rfl
  ·rw[decide_eq_false h0]
   cases m with
   | zero=>exact absurd (hz.1 rfl) h0
   | succ m=>rfl
 ·have h0:¬w % fS=0:=fun e=>by rw[e] at h1;exact h1 (by decide)
  rw[decide_eq_false h0]
  by_cases h2:w % fS=bR
  ·rw[jg h2];rfl
  ·obtain⟨f,e⟩:=j9 (w:=w) (by omega)
   rw[e];rfl
theorem Ep(w:Nat):(Ieee.double.read w).neg=cK w:=by
 by_cases h1:w % fS<bR
 ·obtain⟨m,p,e, -, -, -⟩:=jf h1
  rw[e];rfl
 ·by_cases h2:w % fS=bR
  ·rw[jg h2];rfl
  ·obtain⟨f,e⟩:=j9 (w:=w) (by omega)
   rw[e];rfl
theorem mo(w:Nat):(Ieee.double.read w).isNaN=decide (bR<w % fS):=by
 by_cases h1:w % fS<bR
 ·obtain⟨m,p,e, -, -, -⟩:=jf h1
  rw[e,decide_eq_false (by omega)];rfl
 ·by_cases h2:w % fS=bR
  ·rw[jg h2,decide_eq_false (by omega)];rfl
  ·obtain⟨f,e⟩:=j9 (w:=w) (by omega)
   rw[e,decide_eq_true (by omega)];rfl
theorem iR(w:Nat)(n:Bool):(Ieee.double.read w == .infinity n)=decide (w % fS=bR∧cK w=n):=by
 by_cases h1:w % fS<bR
 ·obtain⟨m,p,e, -, -, -⟩:=jf h1
  rw[e,decide_eq_false (fun h=>by omega)];rfl
 ·by_cases h2:w % fS=bR
  ·rw[jg h2]
   by_cases h3:cK w=n
   ·rw[decide_eq_true ⟨h2,h3⟩,h3];simp
   ·rw[decide_eq_false (fun h=>h3 h.2)]
    simp[h3]
  ·obtain⟨f,e⟩:=j9 (w:=w) (by omega)
   rw[e,decide_eq_false (fun h=>h2 h.1)];rfl
theorem F8(n:Bool):Go.FloatKind.f64.encode (.infinity n)=(if n=true then fS else 0)+bR:=by
 cases n <;> decide +kernel
theorem zd{a b:Nat}:(Ieee.double.read a).order (Ieee.double.read b)=Ieee.double.order a b:=rfl
theorem lY{a:Int}(h:¬bR<a.toNat % fS):ft a=a:=by unfold ft;rw[kc,decide_eq_false h,if_neg (by decide)]
def BX(a b:Int):Int:=if bE a=3∨bE b=3 then mK else if fR a<fR b then a else b
def BZ(a b:Int):Int:=if bE a=3∨bE b=3 then mK else if fR b<fR a then a else b
theorem vG{a b:Int}:((mF a || mF b)=true)↔(bE a=3∨bE b=3):=by
 rw[Bool.or_eq_true,kc,kc,decide_eq_true_eq,decide_eq_true_eq,ke,ke]
theorem oy{a:Int}(h:0≤a):((a.toNat:Nat):Int)=a:=Int.toNat_of_nonneg h
theorem eM{a:Int}(ha:0≤a∧a<18446744073709551616)(h:¬ 9223372036854775808≤a):fR a=a∧a.toNat % fS=a.toNat∧cK a.toNat=false:=by
 have na:=iL ha
 rw[decide_eq_false h] at na
 exact⟨by unfold fR;rw[if_neg (by rw[na];decide)],Nat.mod_eq_of_lt (by unfold fS;omega),na⟩
theorem eN{a:Int}(ha:0≤a∧a<18446744073709551616)(h:9223372036854775808≤a):fR a=9223372036854775807-a∧a.toNat % fS=a.toNat-9223372036854775808∧cK a.toNat=true:=by
 have na:=iL ha
 rw[decide_eq_true h] at na
 have e:a.toNat % fS=a.toNat-9223372036854775808:=by unfold fS;omega
 refine⟨?_,e,na⟩
 unfold fR
 rw[if_pos na,e]
 omega
theorem AB{x y:Nat}{neg:Bool}{win:Ordering}(hx:¬bR<x % fS)(hy:¬bR<y % fS)(h1:¬(x % fS=bR∧cK x=neg))(h2:¬(y % fS=bR∧cK y=neg))(h3:¬(x % fS=0∧y % fS=0)):eB neg win x y=if compare (kB x) (kB y)=win then x else y:=by
 unfold eB
 simp only
 rw[gg,gg,iR,iR,decide_eq_false h1,decide_eq_false h2,if_neg (by decide),mo,mo,decide_eq_false hx,decide_eq_false hy,if_neg (by decide),jG,jG,zd,ox hx hy]
 rw[if_neg (by rw[Bool.and_eq_true,decide_eq_true_eq,decide_eq_true_eq];exact h3)]
 by_cases c:compare (kB x) (kB y)=win
 ·rw[if_pos c,if_pos (by rw[c];simp)]
 ·rw[if_neg c,if_neg (by simp[c])]
theorem tH{x y:Nat}{neg:Bool}{win:Ordering}(hx:x % fS=0)(hy:y % fS=0):eB neg win x y=if cK x=neg then x else y:=by
 have z:¬(0=bR):=by decide
 unfold eB
 simp only
 rw[gg,gg,iR,iR,decide_eq_false (fun h=>z (hx.symm.trans h.1)),decide_eq_false (fun h=>z (hy.symm.trans h.1)),if_neg (by decide),mo,mo,hx,hy,if_neg (by decide),jG,jG,hx,hy,if_pos (by decide),Ep]
 by_cases c:cK x=neg
 ·rw[if_pos c,if_pos (by rw[c];simp)]
 ·rw[if_neg c,if_neg (by simp[c])]
theorem xl{x y:Nat}{neg:Bool}{win:Ordering}(h:(x % fS=bR∧cK x=neg)∨(y % fS=bR∧cK y=neg)):eB neg win x y=(if neg=true then fS else 0)+bR:=by
 unfold eB
 simp only
 rw[gg,gg,iR,iR,if_pos,F8]
 rw[Bool.or_eq_true,decide_eq_true_eq,decide_eq_true_eq];exact h
theorem vH{x y:Int}:compare x y = .lt↔x<y:=by
 show compareOfLessAndEq _ _=_↔_
 unfold compareOfLessAndEq
 by_cases h:x<y
 ·rw[if_pos h];exact⟨fun _=>h,fun _=>rfl⟩
 ·rw[if_neg h]
  refine⟨fun e=>?_,fun e=>absurd e h⟩
  split at e <;> cases e
theorem AD{x y:Int}:compare x y = .gt↔y<x:=by
 show compareOfLessAndEq _ _=_↔_
 unfold compareOfLessAndEq
 by_cases h:x<y
 ·rw[if_pos h];exact⟨fun e=>absurd e (by decide),fun e=>by omega⟩
 ·rw[if_neg h]
  by_cases h2:x=y
  ·rw[if_pos h2];exact⟨fun e=>absurd e (by decide),fun e=>by omega⟩
  ·rw[if_neg h2];exact⟨fun _=>by omega,fun _=>rfl⟩
theorem oz{a b:Int}(ha:0≤a∧a<18446744073709551616)(hb:0≤b∧b<18446744073709551616):BX a b=nO a b:=by
 unfold BX nO
 by_cases hn:bE a=3∨bE b=3
 ·rw[if_pos hn,if_pos (vG.2 hn)]
 ·rw[if_neg hn,if_neg (fun h=>hn (vG.1 h))]
  have h1:¬bR<a.toNat % fS:=fun h=>hn (.inl ((ke a).2 h))
  have h2:¬bR<b.toNat % fS:=fun h=>hn (.inr ((ke b).2 h))
  have hr:((eB true .lt a.toNat b.toNat:Nat):Int)=if fR a<fR b then a else b:=by
   by_cases hz:a.toNat % fS=0∧b.toNat % fS=0
   ·rw[tH hz.1 hz.2]
    by_cases ca:9223372036854775808≤a
    ·obtain⟨r1,r2,r3⟩:=eN ha ca
     rw[if_pos r3,r1]
     by_cases cb:9223372036854775808≤b
     ·obtain⟨s1,s2,s3⟩:=eN hb cb
      rw[s1]
      have:=hz.1;have:=hz.2
      split <;> omega
     ·obtain⟨s1,s2,s3⟩:=eM hb cb
      rw[s1,if_pos (by omega)];omega
    ·obtain⟨r1,r2,r3⟩:=eM ha ca
     rw[if_neg (by rw[r3];decide),r1]
     by_cases cb:9223372036854775808≤b
     ·obtain⟨s1,s2,s3⟩:=eN hb cb
      rw[s1,if_neg (by omega)];omega
     ·obtain⟨s1,s2,s3⟩:=eM hb cb
      rw[s1]
      have:=hz.1;have:=hz.2
      split <;> omega
   ·by_cases hi:(a.toNat % fS=bR∧cK a.toNat=true)∨(b.toNat % fS=bR∧cK b.toNat=true)
    ·rw[xl hi,if_pos rfl]
     unfold bR fS at *
     rcases hi with ⟨i1,i2⟩ | ⟨i1,i2⟩
     ·rw[iL ha,decide_eq_true_eq] at i2
      obtain⟨r1,r2,r3⟩:=eN ha i2
      unfold fS at r2
      rw[r1]
      by_cases cb:9223372036854775808≤b
      ·obtain⟨s1,s2,s3⟩:=eN hb cb
       unfold fS at s2
       rw[s1]
       split <;> omega
      ·obtain⟨s1,s2,s3⟩:=eM hb cb
       unfold fS at s2
       rw[s1,if_pos (by omega)];omega
     ·rw[iL hb,decide_eq_true_eq] at i2
      obtain⟨s1,s2,s3⟩:=eN hb i2
      unfold fS at s2
      rw[s1]
      by_cases ca:9223372036854775808≤a
      ·obtain⟨r1,r2,r3⟩:=eN ha ca
       unfold fS at r2
       rw[r1]
       split <;> omega
      ·obtain⟨r1,r2,r3⟩:=eM ha ca
       unfold fS at r2
       rw[r1,if_neg (by omega)];omega
    ·rw[AB h1 h2 (fun h=>hi (.inl h)) (fun h=>hi (.inr h)) hz]
     have hk:=vF ha hb hz
     by_cases c:kB a.toNat<kB b.toNat
     ·rw[if_pos (vH.2 c),if_pos (hk.2 c)];exact oy ha.1
     ·rw[if_neg (fun e=>c (vH.1 e)),if_neg (fun e=>c (hk.1 e))];exact oy hb.1
  rw[hr,lY]
  split
  ·exact h1
  ·exact h2
theorem oA{a b:Int}(ha:0≤a∧a<18446744073709551616)(hb:0≤b∧b<18446744073709551616):BZ a b=nP a b:=by
 unfold BZ nP
 by_cases hn:bE a=3∨bE b=3
 ·rw[if_pos hn,if_pos (vG.2 hn)]
 ·rw[if_neg hn,if_neg (fun h=>hn (vG.1 h))]
  have h1:¬bR<a.toNat % fS:=fun h=>hn (.inl ((ke a).2 h))
  have h2:¬bR<b.toNat % fS:=fun h=>hn (.inr ((ke b).2 h))
  have hr:((eB false .gt a.toNat b.toNat:Nat):Int)=if fR b<fR a then a else b:=by
   by_cases hz:a.toNat % fS=0∧b.toNat % fS=0
   ·rw[tH hz.1 hz.2]
    by_cases ca:9223372036854775808≤a
    ·obtain⟨r1,r2,r3⟩:=eN ha ca
     rw[if_neg (by rw[r3];decide),r1]
     by_cases cb:9223372036854775808≤b
     ·obtain⟨s1,s2,s3⟩:=eN hb cb
      rw[s1]
      have:=hz.1;have:=hz.2
      split <;> omega
     ·obtain⟨s1,s2,s3⟩:=eM hb cb
      rw[s1,if_neg (by omega)];omega
    ·obtain⟨r1,r2,r3⟩:=eM ha ca
     rw[if_pos r3,r1]
     by_cases cb:9223372036854775808≤b
     ·obtain⟨s1,s2,s3⟩:=eN hb cb
      rw[s1,if_pos (by omega)];omega
     ·obtain⟨s1,s2,s3⟩:=eM hb cb
      rw[s1]
      have:=hz.1;have:=hz.2
      split <;> omega
   ·by_cases hi:(a.toNat % fS=bR∧cK a.toNat=false)∨(b.toNat % fS=bR∧cK b.toNat=false)
    ·rw[xl hi,if_neg (by decide)]
     unfold bR fS at *
     rcases hi with ⟨i1,i2⟩ | ⟨i1,i2⟩
     ·rw[iL ha,decide_eq_false_iff_not] at i2
      obtain⟨r1,r2,r3⟩:=eM ha i2
      unfold fS at r2
      rw[r1]
      by_cases cb:9223372036854775808≤b
      ·obtain⟨s1,s2,s3⟩:=eN hb cb
       unfold fS at s2
       rw[s1,if_pos (by omega)];omega
      ·obtain⟨s1,s2,s3⟩:=eM hb cb
       unfold fS at s2
       rw[s1]
       split <;> omega
     ·rw[iL hb,decide_eq_false_iff_not] at i2
      obtain⟨s1,s2,s3⟩:=eM hb i2
      unfold fS at s2
      rw[s1]
      by_cases ca:9223372036854775808≤a
      ·obtain⟨r1,r2,r3⟩:=eN ha ca
       unfold fS at r2
       rw[r1,if_neg (by omega)];omega
      ·obtain⟨r1,r2,r3⟩:=eM ha ca
       unfold fS at r2
       rw[r1]
       split <;> omega
    ·rw[AB h1 h2 (fun h=>hi (.inl h)) (fun h=>hi (.inr h)) hz]
     have hk:=vF hb ha (fun h=>hz ⟨h.2,h.1⟩)
     by_cases c:kB b.toNat<kB a.toNat
     ·rw[if_pos (AD.2 c),if_pos (hk.2 c)];exact oy ha.1
     ·rw[if_neg (fun e=>c (AD.1 e)),if_neg (fun e=>c (hk.1 e))];exact oy hb.1
  rw[hr,lY]
  split
  ·exact h1
  ·exact h2
end Go.SLYtefdijgllbkmfaaGreat
namespace Go.SLYtefdijgllbkmfaaGreat
open Go
def fK(a:Int):Int:=((a.toNat % fS / fD:Nat):Int)-1023
def gU(a:Int):Nat:=fD+a.toNat % fD
def gp(a:Int):Nat:=if 52<fK a then gU a * 2 ^ (fK a-52).toNat else gU a / 2 ^ (52-fK a).toNat
def ng(a:Int):Int :=
 if bE a=3∨bE a=1 then 0 else if fK a<0 then 0 else
 if 63≤fK a then (if cK a.toNat=true then 9223372036854775808 else 9223372036854775807) else
 if cK a.toNat=true then gL (-(gp a:Int)) else (gp a:Int)
theorem B0(s:Bool)(n drop:Nat):Ieee.Toward.zero.cut s n drop=n / 2 ^ drop:=by
 unfold Ieee.Toward.cut
 simp only[Bool.toNat_false,Nat.add_zero]
 rw[Nat.one_shiftLeft]
 by_cases h:drop≤n.log2+2
 ·rw[Nat.min_eq_left h]
 ·rw[Nat.min_eq_right (by omega)]
  have h1:n<2 ^ (n.log2+2):=Nat.lt_of_lt_of_le Nat.lt_log2_self (Nat.pow_le_pow_right (by decide) (by omega))
  have h2:n<2 ^ drop:=Nat.lt_of_lt_of_le h1 (Nat.pow_le_pow_right (by decide) (by omega))
  rw[Nat.div_eq_of_lt h1,Nat.div_eq_of_lt h2]
theorem kk(s:Bool)(m:Nat)(p:Int):(Ieee.Datum.number s m p).toInt .zero=some (if s=true then -((m * 2 ^ p.toNat / 2 ^ (-p).toNat:Nat):Int) else ((m * 2 ^ p.toNat / 2 ^ (-p).toNat:Nat):Int)):=by
 unfold Ieee.Datum.toInt Ieee.Datum.integral
 simp only
 rw[B0,Nat.shiftLeft_eq]
 unfold Ieee.signed
 rw[Nat.shiftLeft_eq,Nat.pow_zero,Nat.mul_one]
theorem pL{w:Nat}(h1:¬w % fS<fD)(h2:w % fS<bR):Ieee.double.read w = .number (cK w) (fD+w % fS % fD) (((w % fS / fD:Nat):Int)-1075):=by
 obtain⟨c1,c2,c3,c4⟩:=gn
 unfold Ieee.Format.read
 simp only
 rw[c1,c2,c3,c4,if_neg h1,if_pos h2]
 have:1≤w % fS / fD:=by rw[Nat.le_div_iff_mul_le (by decide)];omega
 rw[show(-1074:Int)+((w % fS / fD-1:Nat):Int)=((w % fS / fD:Nat):Int)-1075 by omega];rfl
theorem xn{w:Nat}(h1:w % fS<fD):Ieee.double.read w = .number (cK w) (w % fS) (-1074):=by
 obtain⟨c1,c2,c3,c4⟩:=gn
 unfold Ieee.Format.read
 simp only
 rw[c1,c2,c3,c4,if_pos h1];rfl
theorem vI:kB nQ=(fU (1086 * fD):Int)∧kB nR = -(fU (1086 * fD):Int)∧nQ % fS=1086 * fD∧nR % fS=1086 * fD:=by
 have e1:nQ % fS=1086 * fD:=by decide
 have e2:nR % fS=1086 * fD:=by decide
 refine⟨?_,?_,e1,e2⟩
 ·unfold kB;rw[e1,if_neg (by decide)]
 ·unfold kB;rw[e2,if_pos (by decide)]
theorem tI{a:Int}{f:Nat}(h:¬bR<a.toNat % fS)(hf:f % fS=1086 * fD):Ieee.double.order a.toNat f=some (compare (kB a.toNat) (kB f)):=ox h (by rw[hf];decide)
theorem rV{a:Int}(h:¬bR<a.toNat % fS):((Ieee.double.order a.toNat nQ == some .gt || Ieee.double.order a.toNat nQ == some .eq)=true)↔(cK a.toNat=false∧1086 * fD≤a.toNat % fS):=by
 rw[tI h vI.2.2.1,vI.1]
 have hp:0<fU (1086 * fD):=by have:=ik (show 0<1086 * fD by decide);rw[val_zero] at this;exact this
 have hc:(((some (compare (kB a.toNat) (fU (1086 * fD):Int)) == some Ordering.gt) || (some (compare (kB a.toNat) (fU (1086 * fD):Int)) == some Ordering.eq))=true)↔(fU (1086 * fD):Int)≤kB a.toNat:=by
  show((some (compareOfLessAndEq _ _) == some Ordering.gt || some (compareOfLessAndEq _ _) == some Ordering.eq)=true)↔_
  unfold compareOfLessAndEq
  by_cases c:kB a.toNat<(fU (1086 * fD):Int)
  ·rw[if_pos c];exact⟨fun e=>absurd e (by decide),fun e=>by omega⟩
  ·rw[if_neg c]
   refine⟨fun _=>by omega,fun _=>?_⟩
   split <;> rfl
 rw[hc]
 unfold kB
 cases cK a.toNat
 ·rw[if_neg (by decide)]
  have:=vE (r:=a.toNat % fS) (s:=1086 * fD)
  constructor
  ·intro x;exact⟨rfl,by refine Decidable.of_not_not fun e=>?_;have:=this.2 (by omega);omega⟩
  ·rintro⟨-,x⟩;refine Decidable.of_not_not fun e=>?_;have:=this.1 (by omega);omega
 ·rw[if_pos rfl]
  constructor
  ·intro x;omega
  ·rintro⟨x, -⟩;cases x
theorem oB{a:Int}(h:¬bR<a.toNat % fS):((Ieee.double.order a.toNat nR == some .lt)=true)↔(cK a.toNat=true∧1086 * fD<a.toNat % fS):=by
 rw[tI h vI.2.2.2,vI.2.1]
 have hp:0<fU (1086 * fD):=by have:=ik (show 0<1086 * fD by decide);rw[val_zero] at this;exact this
 have hc:((some (compare (kB a.toNat) (-(fU (1086 * fD):Int))) == some Ordering.lt)=true)↔kB a.toNat < -(fU (1086 * fD):Int):=by
  rw[beq_iff_eq,Option.some.injEq,vH]
 rw[hc]
 unfold kB
 cases cK a.toNat
 ·rw[if_neg (by decide)]
  constructor
  ·intro x;omega
  ·rintro⟨x, -⟩;cases x
 ·rw[if_pos rfl]
  have:=vE (r:=1086 * fD) (s:=a.toNat % fS)
  constructor
  ·intro x;exact⟨rfl,this.1 (by omega)⟩
  ·rintro⟨-,x⟩;have:=this.2 x;omega
theorem vJ{a:Int}(k:Nat):(((k:Nat):Int)-1023≤fK a)↔k * fD≤a.toNat % fS:=by
 unfold fK
 rw[← Nat.le_div_iff_mul_le (by decide)]
 omega
theorem gV{a:Int}(ha:0≤a∧a<18446744073709551616):ng a=eZ a:=by
 have hD:fD=4503599627370496:=rfl
 unfold ng eZ
 by_cases h3:bE a=3
 ·rw[if_pos (.inl h3),if_pos (by rw[kc];exact decide_eq_true ((ke a).1 h3))]
 ·have hn:¬bR<a.toNat % fS:=fun h=>h3 ((ke a).2 h)
  rw[if_neg (c:=mF a=true) (by rw[kc,decide_eq_false hn];decide)]
  by_cases h1:bE a=1
  ·have h0:=(AA a).1 h1
   rw[if_pos (.inr h1),if_neg (fun e=>by have:=((rV hn).1 e).2;rw[h0,hD] at this;omega),if_neg (fun e=>by have:=((oB hn).1 e).2;rw[h0] at this;omega)]
   rw[gg,xn (by rw[h0];decide),kk,h0]
   have hz0:∀ k j:Nat,0 * 2 ^ k / 2 ^ j=0:=fun k j=>by rw[Nat.zero_mul,Nat.zero_div]
   rw[hz0]
   split <;> rfl
  ·rw[if_neg (by rintro(x | x);exact h3 x;exact h1 x)]
   by_cases hp:fK a<0
   ·have hr:¬ 1023 * fD≤a.toNat % fS:=fun e=>by have:=(vJ (a:=a) 1023).2 e;omega
    rw[if_pos hp,if_neg (fun e=>by have:=((rV hn).1 e).2;rw[hD] at *;omega),if_neg (fun e=>by have:=((oB hn).1 e).2;rw[hD] at *;omega),gg]
    have hz:∀ (m:Nat) (p:Int),m<2 ^ 53→p≤ -53→m * 2 ^ p.toNat / 2 ^ (-p).toNat=0:=fun m p hm hp=>by
     rw[show p.toNat=0 by omega,Nat.pow_zero,Nat.mul_one]
     exact Nat.div_eq_of_lt (Nat.lt_of_lt_of_le hm (Nat.pow_le_pow_right (by decide) (by omega)))
    by_cases h4:a.toNat % fS<fD
    ·rw[xn h4,kk,hz _ _ (by rw[hD] at h4;omega) (by decide)]
     simp[gL]
    ·have hm:=Nat.mod_lt (a.toNat % fS) (show 0<fD by decide)
     unfold fK at hp
     rw[pL h4 (by unfold bR;rw[hD] at *;omega),kk,hz _ _ (by rw[hD] at *;omega) (by omega)]
     simp[gL]
   ·have hr:1023 * fD≤a.toNat % fS:=(vJ (a:=a) 1023).1 (by omega)
    rw[if_neg hp]
    by_cases h6:63≤fK a
    ·have hr6:1086 * fD≤a.toNat % fS:=(vJ (a:=a) 1086).1 (by omega)
     rw[if_pos h6]
     cases hg:cK a.toNat
     ·rw[if_neg (by decide),if_pos ((rV hn).2 ⟨hg,hr6⟩)]
     ·rw[if_pos rfl,if_neg (fun e=>by have:=((rV hn).1 e).1;rw[hg] at this;cases this)]
      by_cases hl:1086 * fD<a.toNat % fS
      ·rw[if_pos ((oB hn).2 ⟨hg,hl⟩)]
      ·have he:a.toNat % fS=1086 * fD:=by omega
       rw[if_neg (fun e=>hl ((oB hn).1 e).2),gg,pL (by rw[he];decide) (by rw[he];decide),he,kk,hg,if_pos rfl]
       decide +kernel
    ·have hr6:¬ 1086 * fD≤a.toNat % fS:=fun e=>by have:=(vJ (a:=a) 1086).2 e;omega
     rw[if_neg h6,if_neg (fun e=>hr6 ((rV hn).1 e).2),if_neg (fun e=>hr6 (Nat.le_of_lt ((oB hn).1 e).2)),gg,pL (by rw[hD] at *;omega) (by unfold bR;rw[hD] at *;omega),kk]
     have hmd:a.toNat % fS % fD=a.toNat % fD:=Nat.mod_mod_of_dvd _ ⟨2048,by decide⟩
     have hsh:(fD+a.toNat % fS % fD) * 2 ^ (((a.toNat % fS / fD:Nat):Int)-1075).toNat / 2 ^ (-(((a.toNat % fS / fD:Nat):Int)-1075)).toNat=gp a:=by
      unfold gp gU fK
      rw[hmd]
      by_cases c:52<((a.toNat % fS / fD:Nat):Int)-1023
      ·rw[if_pos c,show(-(((a.toNat % fS / fD:Nat):Int)-1075)).toNat=0 by omega,Nat.pow_zero,Nat.div_one]
       congr 2;omega
      ·rw[if_neg c,show(((a.toNat % fS / fD:Nat):Int)-1075).toNat=0 by omega,Nat.pow_zero,Nat.mul_one]
       congr 2;omega
     rw[hsh]
     cases hg:cK a.toNat
     ·rw[if_neg (by decide),if_neg (by decide)]
      have hb:gp a<2 ^ 63:=by
       unfold gp
       have hw:gU a<2 ^ 53:=by
        unfold gU
        have:=Nat.mod_lt a.toNat (show 0<fD by decide)
        rw[hD] at *;omega
       split
       ·have:2 ^ (fK a-52).toNat≤2 ^ 10:=Nat.pow_le_pow_right (by decide) (by omega)
        calc _<2 ^ 53 * 2 ^ (fK a-52).toNat:=Nat.mul_lt_mul_of_pos_right hw (Nat.two_pow_pos _)
         _≤2 ^ 53 * 2 ^ 10:=Nat.mul_le_mul_left _ this
       ·exact Nat.lt_of_le_of_lt (Nat.div_le_self _ _) (Nat.lt_trans hw (by decide))
      show(gp a:Int)=gL (gp a:Int)
      unfold gL
      omega
     ·rw[if_pos rfl,if_pos rfl];rfl
end Go.SLYtefdijgllbkmfaaGreat
namespace Go.SLYtefdijgllbkmfaaGreat
open Go
def dL(a:Int):Nat:=if 9223372036854775808≤a then (18446744073709551616-a).toNat else a.toNat
def lq(a:Int):Nat:=if 9223372036854775808≤a then fS else 0
def jh(m:Nat):Nat:=m / 2 ^ (m.log2-52)+(if 2 ^ (m.log2-53)<m % 2 ^ (m.log2-52)∨(m % 2 ^ (m.log2-52)=2 ^ (m.log2-53)∧m / 2 ^ (m.log2-52) % 2=1) then 1 else 0)
def oC(a:Int):Int :=
 if dL a=0 then 0 else
 if (dL a).log2≤52 then ((lq a+((dL a).log2+1023) * fD+dL a * 2 ^ (52-(dL a).log2) % fD:Nat):Int)
 else ((lq a+(((dL a).log2+1022) * fD+jh (dL a)):Nat):Int)
theorem vK{a:Int}(ha:0≤a∧a<18446744073709551616):dL a≤9223372036854775808:=by unfold dL;split <;> omega
theorem B1(s:Bool)(n:Nat):Ieee.Toward.even.cut s n 0=n:=by
 unfold Ieee.Toward.cut
 simp[Nat.mod_one]
theorem Er(s:Bool){n d:Nat}(hd:1≤d)(h:d≤n.log2+2):Ieee.Toward.even.cut s n d=n / 2 ^ d+(if 2 ^ (d-1)<n % 2 ^ d∨(n % 2 ^ d=2 ^ (d-1)∧n / 2 ^ d % 2=1) then 1 else 0):=by
 unfold Ieee.Toward.cut
 simp only
 rw[Nat.one_shiftLeft,Nat.min_eq_left h]
 have hp:2 ^ d=2 * 2 ^ (d-1):=by
  obtain⟨e,rfl⟩:∃ e,d=e+1:=⟨d - 1,by omega⟩
  rw[Nat.pow_succ,Nat.add_sub_cancel,Nat.mul_comm]
 congr 1
 by_cases c:2 ^ (d-1)<n % 2 ^ d∨(n % 2 ^ d=2 ^ (d-1)∧n / 2 ^ d % 2=1)
 ·rw[if_pos c]
  rcases c with c | ⟨c1,c2⟩
  ·rw[decide_eq_true (show 2 ^ d<2 * (n % 2 ^ d) by omega)];rfl
  ·rw[c2,c1,show(2 ^ d == 2 * 2 ^ (d-1))=true from beq_iff_eq.2 hp];simp
 ·rw[if_neg c,decide_eq_false (fun e=>c (.inl (by omega)))]
  have:(2 ^ d == 2 * (n % 2 ^ d) && n / 2 ^ d % 2 == 1)=false:=by
   refine Bool.eq_false_iff.2 fun e=>c (.inr ?_)
   rw[Bool.and_eq_true,beq_iff_eq,beq_iff_eq] at e
   exact⟨by omega,e.2⟩
  rw[this];rfl
theorem Iu{m:Nat}(h:m≤9223372036854775808):m.log2≤63:=by
 by_cases h0:m=0
 ·subst h0;decide
 ·refine Decidable.of_not_not fun e=>?_
  have h1:=Nat.log2_self_le h0
  have h2:2 ^ 64≤2 ^ m.log2:=Nat.pow_le_pow_right (by decide) (by omega)
  have:(2:Nat) ^ 64=18446744073709551616:=by decide
  omega
theorem B2{t X:Nat}(h1:X<2 * fD)(h2:t * fD≤52 * fD):t * fD+1022 * fD+X≤bR :=
 Nat.le_trans (Nat.add_le_add (Nat.add_le_add h2 (Nat.le_refl _)) (Nat.le_of_lt h1)) (by decide)
theorem xo{s:Bool}{m:Nat}(h0:m≠0)(h:m.log2≤52):Ieee.double.nearest s m 0=(if s=true then fS else 0)+(m.log2+1023) * fD+m * 2 ^ (52-m.log2) % fD:=by
 obtain⟨c1,c2,c3,c4⟩:=gn
 have hf:Ieee.double.fractionBits=52:=rfl
 have hl1:=Nat.log2_self_le h0
 have hl2:=Nat.lt_log2_self (n:=m)
 unfold Ieee.Format.nearest
 simp only
 rw[if_neg h0,c2,c3,c4,hf,show max ((0:Int)+(m.log2:Int)-((52:Nat):Int)) (-1074)=(m.log2:Int)-52 by omega,show((m.log2:Int)-52-0).toNat=0 by omega,B1,show((0:Int)-((m.log2:Int)-52)).toNat=52-m.log2 by omega,show((m.log2:Int)-52 - -1074).toNat=m.log2+1022 by omega,Nat.shiftLeft_eq]
 have hk1:fD≤m * 2 ^ (52-m.log2):=by
  have:=Nat.mul_le_mul_right (2 ^ (52-m.log2)) hl1
  rw[← Nat.pow_add,show m.log2+(52-m.log2)=52 by omega] at this
  exact this
 have hk2:m * 2 ^ (52-m.log2)<2 * fD:=by
  have:=Nat.mul_lt_mul_of_pos_right hl2 (Nat.two_pow_pos (52-m.log2))
  rw[← Nat.pow_add,show m.log2+1+(52-m.log2)=53 by omega] at this
  exact this
 have hm:m * 2 ^ (52-m.log2) % fD=m * 2 ^ (52-m.log2)-fD:=by
  rw[Nat.mod_eq_sub_mod hk1,Nat.mod_eq_of_lt (by omega)]
 have hD:fD=4503599627370496:=rfl
 have hI:bR=9218868437227405312:=rfl
 have ht:=Nat.mul_le_mul_right fD h
 rw[hm]
 clear hm hl1 hl2
 generalize m * 2 ^ (52-m.log2)=X at hk1 hk2 ⊢
 generalize m.log2=t at ht ⊢
 rw[Nat.add_mul,Nat.add_mul]
 clear hD hI c2 c3 c4 hf h0 h
 rw[Nat.min_eq_left (B2 hk2 ht)]
 unfold Ieee.Format.word
 rw[c1]
 cases s
 ·rw[if_neg (by decide),if_neg (by decide)];omega
 ·rw[if_pos rfl,if_pos rfl];omega
theorem oD{s:Bool}{m:Nat}(hm:m≤9223372036854775808)(h:52<m.log2):Ieee.double.nearest s m 0=(if s=true then fS else 0)+((m.log2+1022) * fD+jh m)∧(m.log2+1022) * fD+jh m<bR:=by
 obtain⟨c1,c2,c3,c4⟩:=gn
 have hf:Ieee.double.fractionBits=52:=rfl
 have h0:m≠0:=fun e=>by rw[e] at h;exact absurd h (by decide)
 have hl2:=Nat.lt_log2_self (n:=m)
 have hl63:=Iu hm
 have hD:fD=4503599627370496:=rfl
 have hI:bR=9218868437227405312:=rfl
 have hq:m / 2 ^ (m.log2-52)<2 ^ 53:=by
  refine Nat.div_lt_of_lt_mul ?_
  rw[← Nat.pow_add,show m.log2-52+53=m.log2+1 by omega];exact hl2
 have hk:jh m≤2 ^ 53:=by
  unfold jh
  split <;> omega
 have ht:=Nat.mul_le_mul_right fD hl63
 have hb:(m.log2+1022) * fD+jh m<bR:=by
  rw[Nat.add_mul,hI];rw[hD] at *;omega
 refine⟨?_,hb⟩
 unfold Ieee.Format.nearest
 simp only
 rw[if_neg h0,c2,c3,c4,hf,show max ((0:Int)+(m.log2:Int)-((52:Nat):Int)) (-1074)=(m.log2:Int)-52 by omega,show((0:Int)-((m.log2:Int)-52)).toNat=0 by omega,show((m.log2:Int)-52-0).toNat=m.log2-52 by omega,show((m.log2:Int)-52 - -1074).toNat=m.log2+1022 by omega,Nat.shiftLeft_zero,Er s (by omega) (by omega),show m.log2-52-1=m.log2-53 by omega]
 show Ieee.double.word s (min ((m.log2+1022) * fD+jh m) bR)=_
 rw[Nat.min_eq_left (Nat.le_of_lt hb)]
 unfold Ieee.Format.word
 rw[c1]
 cases s
 ·rw[if_neg (by decide),if_neg (by decide)];omega
 ·rw[if_pos rfl,if_pos rfl]
theorem xp(b:Bool){r:Nat}(h:r<bR):((if b=true then fS else 0)+r) % fS=r:=by
 have:bR<fS:=by decide
 cases b
 ·rw[if_neg (by decide),Nat.zero_add,Nat.mod_eq_of_lt (by omega)]
 ·rw[if_pos rfl,Nat.add_mod_left,Nat.mod_eq_of_lt (by omega)]
theorem kT{a:Int}(ha:0≤a∧a<18446744073709551616):oC a=fc a:=by
 have hw:Go.IntKind.i64.wrap a=if 9223372036854775808≤a then a-18446744073709551616 else a:=by
  unfold Go.IntKind.wrap
  split <;> simp[Go.IntKind.bits,Go.IntKind.signed] <;> omega
 have hn:Go.FloatKind.f64.nearest (Go.IntKind.i64.wrap a)=Ieee.double.nearest (decide (9223372036854775808≤a)) (dL a) 0:=by
  unfold Go.FloatKind.nearest
  show Ieee.double.nearest (decide (Go.IntKind.i64.wrap a<0)) (Go.IntKind.i64.wrap a).natAbs 0=_
  rw[hw]
  unfold dL
  by_cases c:9223372036854775808≤a
  ·rw[if_pos c,if_pos c,decide_eq_true c,decide_eq_true (show a-18446744073709551616<0 by omega),show(a-18446744073709551616).natAbs=(18446744073709551616-a).toNat by omega]
  ·rw[if_neg c,if_neg c,decide_eq_false c,decide_eq_false (show ¬a<0 by omega),show a.natAbs=a.toNat by omega]
 have hs:lq a=if decide (9223372036854775808≤a)=true then fS else 0:=by
  unfold lq
  by_cases c:9223372036854775808≤a
  ·rw[if_pos c,decide_eq_true c,if_pos rfl]
  ·rw[if_neg c,decide_eq_false c,if_neg (by decide)]
 unfold fc oC
 rw[hn]
 have hD:fD=4503599627370496:=rfl
 have hI:bR=9218868437227405312:=rfl
 by_cases h0:dL a=0
 ·have hc:¬ 9223372036854775808≤a:=fun c=>by unfold dL at h0;rw[if_pos c] at h0;omega
  rw[if_pos h0,h0,decide_eq_false hc]
  decide +kernel
 ·rw[if_neg h0]
  by_cases h1:(dL a).log2≤52
  ·rw[if_pos h1,xo h0 h1, ← hs,lY]
   rw[Int.toNat_natCast,Nat.add_assoc,hs,xp]
   ·have:=Nat.mod_lt (dL a * 2 ^ (52-(dL a).log2)) (show 0<fD by decide)
    have ht:=Nat.mul_le_mul_right fD h1
    rw[Nat.add_mul,hI];rw[hD] at *;omega
   ·have:=Nat.mod_lt (dL a * 2 ^ (52-(dL a).log2)) (show 0<fD by decide)
    have ht:=Nat.mul_le_mul_right fD h1
    rw[Nat.add_mul,hI];rw[hD] at *;omega
  ·obtain⟨e1,e2⟩:=oD (s:=decide (9223372036854775808≤a)) (vK ha) (show 52<(dL a).log2 by omega)
   rw[if_neg h1,e1, ← hs,lY]
   rw[Int.toNat_natCast,hs,xp _ e2]
   omega
end Go.SLYtefdijgllbkmfaaGreat
namespace Go.SLYtefdijgllbkmfaaGreat
open Go
theorem qN{x:Nat}(hx:x<18446744073709551616):(BitVec.ofInt Go.IntKind.u64.bits (x:Int)).toNat=x:=by
 show(BitVec.ofInt 64 (x:Int)).toNat=x
 rw[BitVec.toNat_ofInt]
 omega
theorem rW{x:Nat}(hx:x<18446744073709551616):Go.IntKind.u64.wrap (x:Int)=(x:Int):=by
 unfold Go.IntKind.wrap
 simp[Go.IntKind.bits,Go.IntKind.signed]
 omega
theorem Es{x y:Nat}(hx:x<18446744073709551616)(hy:y<18446744073709551616):pj .u64 (x:Int) (y:Int)=((x &&& y:Nat):Int):=by
 unfold pj
 rw[BitVec.toNat_and,qN hx,qN hy,rW (Nat.lt_of_le_of_lt Nat.and_le_left hx)]
theorem AE{x y:Nat}(hx:x<18446744073709551616)(hy:y<18446744073709551616):Fy .u64 (x:Int) (y:Int)=((x ||| y:Nat):Int):=by
 unfold Fy
 rw[BitVec.toNat_or,qN hx,qN hy,rW (show x ||| y<2 ^ 64 from Nat.or_lt_two_pow (n:=64) hx hy)]
theorem km{x k:Nat}(hx:x<18446744073709551616)(hk:k≤64):pj .u64 (x:Int) ((2 ^ k-1:Nat):Int)=((x % 2 ^ k:Nat):Int):=by
 have h1:2 ^ k≤2 ^ 64:=Nat.pow_le_pow_right (by decide) hk
 have h2:0<2 ^ k:=Nat.two_pow_pos k
 have h3:(2:Nat) ^ 64=18446744073709551616:=by decide
 rw[Es hx (by omega),Nat.and_two_pow_sub_one_eq_mod]
theorem vL{x y k:Nat}(hx:x % 2 ^ k=0)(hy:y<2 ^ k)(h:x+y<18446744073709551616):Fy .u64 (x:Int) (y:Int)=((x+y:Nat):Int):=by
 rw[AE (by omega) (by omega)]
 obtain⟨q,hq⟩:∃ q,x=2 ^ k * q:=⟨x / 2 ^ k,by have:=Nat.div_add_mod x (2 ^ k);omega⟩
 rw[hq, ← Nat.two_pow_add_eq_or_of_lt hy]
theorem oE{x n:Nat}(hn:n≤64):yA .u64 (x:Int) (n:Int)=((x / 2 ^ n:Nat):Int):=by
 unfold yA
 rw[Int.toNat_natCast,show min n Go.IntKind.u64.bits=n from Nat.min_eq_left hn]
 show Int.fdiv (x:Int) ((2:Int) ^ n)=_
 rw[show((2:Int) ^ n)=((2 ^ n:Nat):Int) by rw[Int.natCast_pow];rfl]
 exact Int.ofNat_fdiv x (2 ^ n) |>.symm
theorem kn{x n:Nat}(hn:n≤64)(h:x * 2 ^ n<18446744073709551616):mE .u64 (x:Int) (n:Int)=((x * 2 ^ n:Nat):Int):=by
 unfold mE
 rw[Int.toNat_natCast,show min n Go.IntKind.u64.bits=n from Nat.min_eq_left hn,show(x:Int) * (2:Int) ^ n=((x * 2 ^ n:Nat):Int) by rw[Int.natCast_mul,Int.natCast_pow];rfl,rW h]
end Go.SLYtefdijgllbkmfaaGreat
namespace Go.SLYtefdijgllbkmfaaGreat
open Go Go.RowKit
theorem ze{a:Int}(ha:0≤a∧a<18446744073709551616):∃ n:Nat,a=(n:Int)∧n<18446744073709551616:=⟨a.toNat,by omega,by omega⟩
theorem xr{a:Int}(ha:0≤a∧a<18446744073709551616):pj .u64 a 9223372036854775807=((a.toNat % fS:Nat):Int):=by
 obtain⟨n,rfl,hn⟩:=ze ha
 rw[Int.toNat_natCast]
 exact km (k:=63) hn (by decide)
theorem oF{a:Int}(ha:0≤a∧a<18446744073709551616)(k:Nat)(hk:k≤64):yA .u64 a (k:Int)=((a.toNat / 2 ^ k:Nat):Int):=by
 obtain⟨n,rfl,hn⟩:=ze ha
 rw[Int.toNat_natCast]
 exact oE hk
theorem Iv{a:Int}(h:((a.toNat % fS:Nat):Int)=0):bE a=1:=(AA a).2 (by omega)
theorem Iw{a:Int}(h1:¬((a.toNat % fS:Nat):Int)=0)(h:((a.toNat % fS:Nat):Int)=9218868437227405312):bE a=2:=by
 have h1':¬a.toNat % fS=0:=by omega
 have h':a.toNat % fS=bR:=by unfold bR;omega
 unfold bE;rw[if_neg h1',if_pos h']
theorem Ix{a:Int}(_:¬((a.toNat % fS:Nat):Int)=0)(_:¬((a.toNat % fS:Nat):Int)=9218868437227405312)(h:9218868437227405312<((a.toNat % fS:Nat):Int)):bE a=3:=(ke a).2 (by unfold bR;omega)
theorem Iy{a:Int}(h1:¬((a.toNat % fS:Nat):Int)=0)(h2:¬((a.toNat % fS:Nat):Int)=9218868437227405312)(h:¬ 9218868437227405312<((a.toNat % fS:Nat):Int)):bE a=0:=by
 have h1':¬a.toNat % fS=0:=by omega
 have h2':¬a.toNat % fS=bR:=by unfold bR;omega
 have h3':¬bR<a.toNat % fS:=by unfold bR;omega
 unfold bE;rw[if_neg h1',if_neg h2',if_neg h3']
theorem F9{a:Int}(h:bE a=3):ft a=9221120237041090560:=by
 unfold ft
 rw[kc,decide_eq_true ((ke a).1 h),if_pos rfl];rfl
theorem Ga{a:Int}(h:¬bE a=3):ft a=a:=lY (fun e=>h ((ke a).2 e))
theorem oG{a:Int}(ha:0≤a∧a<18446744073709551616):((a.toNat / 2 ^ 63:Nat):Int)=1↔ 9223372036854775808≤a:=by
 have:(2:Nat) ^ 63=9223372036854775808:=by decide
 rw[this];omega
theorem Gb{a:Int}(ha:0≤a∧a<18446744073709551616)(h:((a.toNat / 2 ^ 63:Nat):Int)=1):fR a=0-((a.toNat % fS:Nat):Int)-1:=by
 obtain⟨r1,r2,r3⟩:=eN ha ((oG ha).1 h)
 rw[r1,r2];omega
theorem AF{a:Int}(ha:0≤a∧a<18446744073709551616)(h:¬((a.toNat / 2 ^ 63:Nat):Int)=1):a<9223372036854775808∧fR a=a:=by
 have h':¬ 9223372036854775808≤a:=fun e=>h ((oG ha).2 e)
 exact⟨by omega,(eM ha h').1⟩
end Go.SLYtefdijgllbkmfaaGreat
namespace Go.SLYtefdijgllbkmfaaGreat
open Go Go.RowKit
theorem oH{a:Int}(ha:0≤a∧a<18446744073709551616):cK a.toNat=true↔((a.toNat / 2 ^ 63:Nat):Int)=1:=by
 rw[oG ha,iL ha,decide_eq_true_eq]
theorem Et{a:Int}(ha:0≤a∧a<18446744073709551616):pj .u64 ((a.toNat / 2 ^ 52:Nat):Int) 2047=((a.toNat % fS / fD:Nat):Int):=by
 have h:=km (x:=a.toNat / 2 ^ 52) (k:=11) (by have:(2:Nat) ^ 52=4503599627370496:=(by decide);rw[this];omega) (by decide)
 refine h.trans ?_
 have h1:(2:Nat) ^ 52=4503599627370496:=by decide
 have h2:(2:Nat) ^ 11=2048:=by decide
 rw[h1,h2]
 unfold fS fD
 omega
theorem B3{a:Int}(ha:0≤a∧a<18446744073709551616):pj .u64 a 4503599627370495=((a.toNat % fD:Nat):Int):=by
 obtain⟨n,rfl,hn⟩:=ze ha
 rw[Int.toNat_natCast]
 exact km (k:=52) hn (by decide)
theorem zf(a:Int):Fy .u64 ((a.toNat % fD:Nat):Int) 4503599627370496=(gU a:Int):=by
 have hm:=Nat.mod_lt a.toNat (show 0<fD by decide)
 have hD:fD=4503599627370496:=rfl
 have h:=AE (x:=a.toNat % fD) (y:=4503599627370496) (by omega) (by decide)
 refine h.trans ?_
 have h2:=Nat.two_pow_add_eq_or_of_lt (i:=52) (b:=a.toNat % fD) hm 1
 rw[Nat.or_comm]
 unfold gU
 rw[Nat.mul_one] at h2
 exact congrArg _ h2.symm
theorem Eu(a:Int):gU a<2 ^ 53:=by
 have hm:=Nat.mod_lt a.toNat (show 0<fD by decide)
 have h1:(2:Nat) ^ 53=2 * fD:=by decide
 unfold gU
 omega
theorem Gc{a:Int}(h:52<fK a)(h2:¬ 63≤fK a):mE .u64 (gU a:Int) (fK a-52)=(gp a:Int):=by
 obtain⟨n,hn⟩:∃ n:Nat,fK a - 52=(n:Int):=⟨(fK a - 52).toNat,by omega⟩
 have hb:gU a * 2 ^ n<18446744073709551616:=by
  have h1:=Eu a
  have h3:2 ^ n≤2 ^ 10:=Nat.pow_le_pow_right (by decide) (by omega)
  calc gU a * 2 ^ n<2 ^ 53 * 2 ^ n:=Nat.mul_lt_mul_of_pos_right h1 (Nat.two_pow_pos _)
   _≤2 ^ 53 * 2 ^ 10:=Nat.mul_le_mul_left _ h3
   _≤18446744073709551616:=by decide
 rw[hn,kn (by omega) hb]
 unfold gp
 rw[if_pos h,hn,Int.toNat_natCast]
theorem Gd{a:Int}(h:¬ 52<fK a)(h0:¬fK a<0):yA .u64 (gU a:Int) (52-fK a)=(gp a:Int):=by
 obtain⟨n,hn⟩:∃ n:Nat,52 - fK a=(n:Int):=⟨(52 - fK a).toNat,by omega⟩
 rw[hn,oE (by omega)]
 unfold gp
 rw[if_neg h,hn,Int.toNat_natCast]
theorem JO{a:Int}(ha:0≤a∧a<18446744073709551616)(h:bE a=3∨bE a=1):eZ a=0:=by rw[← gV ha];exact if_pos h
theorem KM{a:Int}(ha:0≤a∧a<18446744073709551616)(h:¬(bE a=3∨bE a=1))(h1:fK a<0):eZ a=0:=by rw[← gV ha];unfold ng;rw[if_neg h,if_pos h1]
theorem KN{a:Int}(ha:0≤a∧a<18446744073709551616)(h:¬(bE a=3∨bE a=1))(h1:¬fK a<0)(h2:63≤fK a)(h3:((a.toNat / 2 ^ 63:Nat):Int)=1):eZ a=9223372036854775808:=by rw[← gV ha];unfold ng;rw[if_neg h,if_neg h1,if_pos h2,if_pos ((oH ha).2 h3)]
theorem KO{a:Int}(ha:0≤a∧a<18446744073709551616)(h:¬(bE a=3∨bE a=1))(h1:¬fK a<0)(h2:63≤fK a)(h3:¬((a.toNat / 2 ^ 63:Nat):Int)=1):eZ a=9223372036854775807:=by rw[← gV ha];unfold ng;rw[if_neg h,if_neg h1,if_pos h2,if_neg (fun e=>h3 ((oH ha).1 e))]
theorem KP{a:Int}(ha:0≤a∧a<18446744073709551616)(h:¬(bE a=3∨bE a=1))(h1:¬fK a<0)(h2:¬ 63≤fK a)(h3:((a.toNat / 2 ^ 63:Nat):Int)=1):eZ a=gL (-(gp a:Int)):=by rw[← gV ha];unfold ng;rw[if_neg h,if_neg h1,if_neg h2,if_pos ((oH ha).2 h3)]
theorem KQ{a:Int}(ha:0≤a∧a<18446744073709551616)(h:¬(bE a=3∨bE a=1))(h1:¬fK a<0)(h2:¬ 63≤fK a)(h3:¬((a.toNat / 2 ^ 63:Nat):Int)=1):eZ a=(gp a:Int):=by rw[← gV ha];unfold ng;rw[if_neg h,if_neg h1,if_neg h2,if_neg (fun e=>h3 ((oH ha).1 e))]
theorem AG(n:Int):Go.IntKind.u64.wrap (0-n)=gL (-n):=by
 unfold gL Go.IntKind.wrap
 simp[Go.IntKind.bits,Go.IntKind.signed]
/-! numbers of whole ones -/
theorem AH{a:Int}(ha:0≤a∧a<18446744073709551616)(h:((a.toNat / 2 ^ 63:Nat):Int)=1):Go.IntKind.u64.wrap (0-a)=(dL a:Int)∧(9223372036854775808:Int)=(lq a:Int):=by
 have h':=(oG ha).1 h
 unfold dL lq
 rw[if_pos h',if_pos h',AG]
 exact⟨by unfold gL;omega,rfl⟩
theorem AJ{a:Int}(ha:0≤a∧a<18446744073709551616)(h:¬((a.toNat / 2 ^ 63:Nat):Int)=1):a=(dL a:Int)∧(0:Int)=(lq a:Int):=by
 have h':¬ 9223372036854775808≤a:=fun e=>h ((oG ha).2 e)
 unfold dL lq
 rw[if_neg h',if_neg h']
 exact⟨by omega,rfl⟩
theorem Ge{m t:Nat}(h0:m≠0)(h1:m<2 ^ (t+1))(h2:¬m / 2 ^ t=0):t=m.log2:=by
 have h3:2 ^ t≤m:=by
  refine Decidable.of_not_not fun e=>h2 (Nat.div_eq_of_lt (by omega))
 have h4:=Nat.log2_self_le h0
 have h5:=Nat.lt_log2_self (n:=m)
 rcases Nat.lt_trichotomy t m.log2 with g | g | g
 ·have:=Nat.pow_le_pow_right (n:=2) (by decide) (show t+1≤m.log2 from g);omega
 ·exact g
 ·have:=Nat.pow_le_pow_right (n:=2) (by decide) (show m.log2+1≤t from g);omega
theorem Ew{m t:Nat}(h2:m / 2 ^ t=0)(h0:m≠0):1≤t∧m<2 ^ (t-1+1):=by
 have h3:m<2 ^ t:=by
  rcases Nat.lt_or_ge m (2 ^ t) with g | g
  ·exact g
  ·have:=Nat.div_pos g (Nat.two_pow_pos t);omega
 have h1:1≤t:=by
  refine Decidable.of_not_not fun e=>?_
  have:t=0:=by omega
  subst this
  rw[Nat.pow_zero] at h3;omega
 exact⟨h1,by rw[Nat.sub_add_cancel h1];exact h3⟩
theorem KR{a:Int}(ha:0≤a∧a<18446744073709551616)(h:dL a=0):fc a=0:=by rw[← kT ha];exact if_pos h
theorem iS(a:Int):lq a=0∨lq a=9223372036854775808:=by unfold lq;split <;> simp[fS]
theorem Gf(a:Int){X:Nat}(h:X<2 ^ 63):lq a+X<18446744073709551616:=by
 have h63:(2:Nat) ^ 63=9223372036854775808:=by decide
 rw[h63] at h
 rcases iS a with e | e <;> rw[e] <;> omega
theorem Gg(a:Int):lq a % 2 ^ 63=0:=by rcases iS a with e | e <;> rw[e] <;> decide
theorem Gh{a:Int}{t:Nat}(ht:t≤63):Fy .u64 (lq a:Int) (mE .u64 ((t:Int)+1023) 52)=((lq a+(t+1023) * fD:Nat):Int):=by
 have hD:fD=2 ^ 52:=by decide
 have hb:(t+1023) * 2 ^ 52≤1086 * 2 ^ 52:=Nat.mul_le_mul_right _ (by omega)
 have hlt:(t+1023) * 2 ^ 52<2 ^ 63:=Nat.lt_of_le_of_lt hb (by decide)
 have hs:mE .u64 ((t:Int)+1023) 52=(((t+1023) * 2 ^ 52:Nat):Int):=(show mE .u64 ((t:Int)+1023) 52=mE .u64 ((t+1023:Nat):Int) ((52:Nat):Int) from rfl).trans (kn (by decide) (Nat.lt_trans hlt (by decide)))
 rw[hs,hD,vL (k:=63) (Gg a) hlt (Gf a hlt)]
theorem Iz{a:Int}(ha:0≤a∧a<18446744073709551616){t:Nat}(h:¬dL a=0)(ht:t=(dL a).log2)(h1:t≤52):Fy .u64 (Fy .u64 (lq a:Int) (mE .u64 ((t:Int)+1023) 52)) (pj .u64 (mE .u64 (dL a:Int) (52-(t:Int))) 4503599627370495)=fc a:=by
 have hD:fD=2 ^ 52:=by decide
 have hm:=vK ha
 have hl:=Nat.lt_log2_self (n:=dL a)
 obtain⟨n,hn⟩:∃ n:Nat,(52:Int) - (t:Int)=(n:Int):=⟨52 - t,by omega⟩
 have hb:dL a * 2 ^ n<2 ^ 53:=by
  have:=Nat.mul_lt_mul_of_pos_right hl (Nat.two_pow_pos n)
  rw[← ht, ← Nat.pow_add,show t+1+n=53 by omega] at this
  exact this
 have h53:(2:Nat) ^ 53<18446744073709551616:=by decide
 rw[Gh (by omega),hn,kn (by omega) (by omega)]
 rw[show pj .u64 ((dL a * 2 ^ n:Nat):Int) 4503599627370495=((dL a * 2 ^ n % 2 ^ 52:Nat):Int) from km (k:=52) (by omega) (by decide)]
 have hlt:dL a * 2 ^ n % 2 ^ 52<2 ^ 52:=Nat.mod_lt _ (Nat.two_pow_pos 52)
 have hq:(t+1023) * fD≤1075 * fD:=Nat.mul_le_mul_right _ (by omega)
 have hc:1075 * fD+2 ^ 52<2 ^ 63:=by decide
 have h63:(2:Nat) ^ 63=9223372036854775808:=by decide
 rw[vL (k:=52) ?_ hlt ?_, ← kT ha]
 ·unfold oC
  rw[if_neg h, ← ht,if_pos h1,show n=52-t by omega,hD]
 ·rw[Nat.add_mod,hD,Nat.mul_mod_left]
  rcases iS a with e | e <;> rw[e] <;> decide
 ·rcases iS a with e | e <;> rw[e] <;> omega
theorem Gi{a:Int}(ha:0≤a∧a<18446744073709551616){t:Nat}(h:¬dL a=0)(ht:t=(dL a).log2)(h1:¬t≤52):Fy .u64 (lq a:Int) ((((t+1022) * fD+jh (dL a):Nat)):Int)=fc a:=by
 have hm:=vK ha
 have hk:=(oD (s:=true) hm (show 52<(dL a).log2 by omega)).2
 have hi:bR<2 ^ 63:=by decide
 have h63:(2:Nat) ^ 63=9223372036854775808:=by decide
 rw[← ht] at hk
 rw[vL (k:=63) ?_ (by omega) ?_, ← kT ha]
 ·unfold oC
  rw[if_neg h, ← ht,if_neg h1]
 ·rcases iS a with e | e <;> rw[e] <;> decide
 ·rcases iS a with e | e <;> rw[e] <;> omega
end Go.SLYtefdijgllbkmfaaGreat
namespace Go.SLYtefdijgllbkmfaaGreat
open Go Go.RowKit
def Hv(o:Option Nat)(r:Nat):Prop:=HU o r∧(o=none→r<18446744073709551616)
theorem IA(t:Nat):(t % 2) * 2 ^ 63+0x7ff0000000000000+1+(t / 2) % (2 ^ 52-1)<18446744073709551616:=by
 have h1:t % 2<2:=Nat.mod_lt _ (by decide)
 have h2:(t / 2) % (2 ^ 52-1)<2 ^ 52-1:=Nat.mod_lt _ (by decide)
 omega
section
variable{P:Program}{W:World}{N:Nat}{L:List (Nat×Option Value)}{H:List aa}{T:TypeId}
theorem af.AK{op:BinOp}{xT yT:TypeId}{x y:Operand}{pos:String}{after:Array Edge}{guard:Option (Nat×Bool)}{d m n:Nat}(o:Option Nat)(hN:Nat.blt d N=true)(hx:ev L x=some (.float .f64 m))(hy:ev L y=some (.float .f64 n))
  (h:∀ w,(do eqGuard op xT x y (.float .f64 m) (.float .f64 n);binOp op xT (.float .f64 m) (.float .f64 n):Sem Value).run P w=(match o with | some r=>pure (.float .f64 r) | none=>do pure (.float .f64 (← choose (.nanBits .f64 m n))):Sem Value).run P w) :
  af P W N ⟨some d,.binOp op xT x y yT,T,pos,after,guard⟩ L H (fun L1 H1=>∃ r,Hv o r∧L1=(d,some (.float .f64 r))::L∧H1=H):=fun a w ha hs Kp hK=>by
 have hrun:∀ v w',(match o with | some r=>pure (.float .f64 r) | none=>do pure (.float .f64 (← choose (.nanBits .f64 m n))):Sem Value).run P w = .ok v w'→(execOp a.eval ⟨some d,.binOp op xT x y yT,T,pos,after,guard⟩).run P w = .ok (.value v) w':=fun v w' hv=>by
  simp only[execOp,ha.eval hx,ha.eval hy]
  have h2:=(h w).trans hv
  show((do eqGuard op xT x y (.float .f64 m) (.float .f64 n);binOp op xT (.float .f64 m) (.float .f64 n):Sem Value) >>= fun v=>pure (Next.value v)).run P w=_
  rw[Sem.run_bind,h2]
  rfl
 unfold Oper.wp
 cases o with
 | some r =>
  rw[hrun (.float .f64 r) w rfl]
  simp only[Oper.upon]
  exact hK _ _ ⟨r,⟨rfl,fun e=>by cases e⟩,rfl,rfl⟩ _ _ (ha.put (Nat.blt_eq.mp hN) _) hs
 | none =>
  have hq:(choose (.nanBits .f64 m n)).run P w = .ok ((Question.nanBits .f64 m n).cut (w.tape w.drawn (.nanBits .f64 m n))) w.drew:=by
   rw[run_choose_drew];simp[Question.forced]
  rw[hrun (.float .f64 ((Question.nanBits .f64 m n).cut (w.tape w.drawn (.nanBits .f64 m n)))) w.drew (by simp only[Sem.run_bind,hq,Result.andThen_ok,Sem.run_pure])]
  simp only[Oper.upon]
  refine hK _ _ ⟨_,⟨?_,fun _=>?_⟩,rfl,rfl⟩ _ _ (ha.put (Nat.blt_eq.mp hN) _) hs.drew
  ·show(jK _ _ == some .eq)=false
   simp only[Question.cut]
   exact Ab _
  ·simp only[Question.cut]
   exact IA _
end
theorem vN{o:Option Nat}{r:Nat}(h:Hv o r)(ho:∀ q,o=some q→q<18446744073709551616):0≤(r:Int)∧(r:Int)<18446744073709551616:=by
 cases o with
 | none=>have:=h.2 rfl;omega
 | some q =>
  have h1:r=q:=h.1
  have:=ho q rfl
  omega
theorem qO:2 ^ Ieee.double.width=18446744073709551616:=by decide +kernel
theorem JP{a b q:Nat}(h:Ieee.double.add a b=some q):q<18446744073709551616:=qO ▸ Ieee.Format.add_lt _ h
theorem JQ{a b q:Nat}(h:Ieee.double.sub a b=some q):q<18446744073709551616:=qO ▸ Ieee.Format.sub_lt _ h
theorem JT{a b q:Nat}(h:Ieee.double.mul a b=some q):q<18446744073709551616:=qO ▸ Ieee.Format.mul_lt _ h
theorem JU{a b q:Nat}(h:Ieee.double.div a b=some q):q<18446744073709551616:=qO ▸ Ieee.Format.div_lt _ h
def vO(op a b:Int):Int:=if op=1 then Br a b else if op=2 then Bt a b else if op=3 then Bu a b else Bv a b
theorem Ex{t K:Nat}:(((t+1023) * fD:Nat):Int)+(K:Int)-4503599627370496=(((t+1022) * fD+K:Nat):Int):=by
 have h:(t+1023) * fD=(t+1022) * fD+fD:=by rw[show t+1023=t+1022+1 from rfl,Nat.succ_mul]
 have hD:fD=4503599627370496:=rfl
 rw[h];rw[hD];omega
end Go.SLYtefdijgllbkmfaaGreat
namespace Go.SLYtefdijgllbkmfaaGreat
open Go Go.RowKit
theorem Gj{m t ct:Nat}(ht:t=m.log2)(h:¬t≤52)(hc:t=ct+53∧(((2 ^ ct:Nat):Int)<((m % 2 ^ (ct+1):Nat):Int)∨((m % 2 ^ (ct+1):Nat):Int)=((2 ^ ct:Nat):Int)∧((m / 2 ^ (ct+1) % 2:Nat):Int)=1)):((m / 2 ^ (ct+1):Nat):Int)+1=(jh m:Int):=by
 unfold jh
 rw[← ht,hc.1,show ct+53-52=ct+1 by omega,show ct+53-53=ct by omega,if_pos]
 ·omega
 ·rcases hc.2 with e | ⟨e1,e2⟩
  ·exact .inl (by omega)
  ·exact .inr ⟨by omega,by omega⟩
theorem Gk{m t ct:Nat}(ht:t=m.log2)(h:¬t≤52)(hc:t=ct+53∧¬(((2 ^ ct:Nat):Int)<((m % 2 ^ (ct+1):Nat):Int)∨((m % 2 ^ (ct+1):Nat):Int)=((2 ^ ct:Nat):Int)∧((m / 2 ^ (ct+1) % 2:Nat):Int)=1)):((m / 2 ^ (ct+1):Nat):Int)=(jh m:Int):=by
 unfold jh
 rw[← ht,hc.1,show ct+53-52=ct+1 by omega,show ct+53-53=ct by omega,if_neg]
 ·rfl
 ·rintro(e | ⟨e1,e2⟩)
  ·exact hc.2 (.inl (by omega))
  ·exact hc.2 (.inr ⟨by omega,by omega⟩)
theorem Gl{t:Nat}(ht:t≤63):mE .u64 ((t:Int)+1023) 52=(((t+1023) * fD:Nat):Int):=by
 have hD:fD=2 ^ 52:=by decide
 have hb:(t+1023) * 2 ^ 52≤1086 * 2 ^ 52:=Nat.mul_le_mul_right _ (by omega)
 rw[hD]
 exact(show mE .u64 ((t:Int)+1023) 52=mE .u64 ((t+1023:Nat):Int) ((52:Nat):Int) from rfl).trans (kn (by decide) (Nat.lt_of_le_of_lt hb (by decide)))
theorem Gm{m t:Nat}(ht:t=m.log2)(h:¬t≤52)(h63:t≤63):(jh m:Int)≤9007199254740992:=by
 have hl2:=Nat.lt_log2_self (n:=m)
 have hq:m / 2 ^ (m.log2-52)<2 ^ 53:=by
  refine Nat.div_lt_of_lt_mul ?_
  rw[← Nat.pow_add,show m.log2-52+53=m.log2+1 by omega];exact hl2
 have h53:(2:Nat) ^ 53=9007199254740992:=by decide
 rw[h53] at hq
 unfold jh
 split <;> omega
theorem IB{t:Nat}(ht:t≤63):(((t+1023) * fD:Nat):Int)≤4890909195324358656∧(4607182418800017408:Int)≤(((t+1023) * fD:Nat):Int):=by
 have h1:(t+1023) * fD≤1086 * fD:=Nat.mul_le_mul_right _ (by omega)
 have h2:1023 * fD≤(t+1023) * fD:=Nat.mul_le_mul_right _ (by omega)
 have e1:1086 * fD=4890909195324358656:=by decide
 have e2:1023 * fD=4607182418800017408:=by decide
 omega
def Ey(a:Int):Nat:=a.toNat % fS / fD
theorem Gn(a:Int):Ey a≤2047:=by unfold Ey fS fD;omega
theorem B4{a:Int}(ha:0≤a∧a<18446744073709551616):pj .u64 ((a.toNat / 2 ^ 52:Nat):Int) 2047=(Ey a:Int):=Et ha
theorem Gp{n:Int}(h:0≤n∧n≤9223372036854775807):Go.IntKind.i64.wrap (0-n)=0-n:=by
 unfold Go.IntKind.wrap
 simp[Go.IntKind.bits,Go.IntKind.signed]
 omega
theorem Ez(a:Int):0≤((a.toNat % fS:Nat):Int)∧((a.toNat % fS:Nat):Int)≤9223372036854775807:=by
 have:=Nat.mod_lt a.toNat (show 0<fS by decide)
 have h2:fS=9223372036854775808:=rfl
 omega
end Go.SLYtefdijgllbkmfaaGreat
