/- Walks of functions, and what they compute. Conditions: none, this text proves no statement. -/
import Derived.Test.YtefdijgllbkmfaaGreatH04
import Derived.Laws.StructEq
import Derived.Test.YtefdijgllbkmfaaGreatH01
import Derived.WalkKit
import Derived.ProofKit
import Derived.OpenShut
import Derived.JoinedCond
import Derived.Deep.Slices
import Derived.Carry
import Derived.Test.YtefdijgllbkmfaaGreatRows
import Derived.Test.YtefdijgllbkmfaaGreatH02
import Derived.Test.YtefdijgllbkmfaaGreatH03
import Derived.Laws.FloatBits
namespace Go.SLYtefdijgllbkmfaaGreat
open Go Go.RowKit
section
variable{k:Nat}{s:Spc}
theorem dO.start(h:Ok k s [] [])(hR:ek s s.au){n:Nat}{i:Ins}{c:Int}:dO k s (s.dM n i c) [] []:=⟨h,fun w=>by simp[Spc.dM,iZ.z],fun w hw=>(by cases hw),by show ek s (s.au++[]);rw[List.append_nil];exact hR,List.prefix_refl _⟩
theorem Jq{d:Dng}(h:dO k s d [] []){n:Int}(hn:n=(d.n:Int)):Ok k d.finish.2 [] []∧(∀ w,eR d.finish.2 w+(if (d.finish.1.bE=true∨d.finish.1.ended=true)∧w=n then 1 else 0)=eR s w+d.finish.1.aM.count w)∧(∀ w∈d.finish.1.aM,eR s w=0)∧ek d.finish.2 d.finish.2.au∧s.au <+: d.finish.2.au:=by
 subst hn
 exact⟨h.ok.au _,h.rd,h.wk,h.rc.of rfl rfl,h.px.trans (List.prefix_append _ _)⟩
theorem Cr(d:Dng)(a:List Int):(d.dE a).n=d.n:=by
 induction a generalizing d with
 | nil=>rfl
 | cons x l ih=>exact(ih _).trans rfl
theorem Ba{d:Dng}{v:Int}:(d.fin v).n=d.n:=by
 unfold Dng.fin
 split
 ·rfl
 ·split <;> rfl
theorem GV{d:Dng}:d.plain.n=d.n:=by
 unfold Dng.plain
 split
 ·simp only
  split
  ·rfl
  ·split <;> rfl
 ·split
  ·exact Ba
  ·exact Ba
theorem Bb{d:Dng}{n:Int}{ok:Bool}:(d.given n ok).n=d.n:=by unfold Dng.given;split <;> rfl
theorem It{d:Dng}{b y i:Int}:(d.ask b y i).n=d.n:=by
 unfold Dng.ask
 simp only
 repeat' split
 all_goals rfl
theorem Jr{d:Dng}:d.call.n=d.n:=by
 unfold Dng.call
 simp only
 split
 ·rfl
 split
 ·rfl
 split
 ·rfl
 split
 ·unfold Dng.join;simp only;repeat' split
  all_goals rfl
 split
 ·unfold Dng.cO;simp only;repeat' split
  all_goals rfl
 split
 ·exact Ba
 split
 ·unfold Dng.mutex;simp only;repeat' split
  all_goals first | rfl | exact Bb
 split
 ·exact Cr _ _
 split
 ·unfold Dng.cf;simp only;repeat' split
  all_goals first | rfl | exact Bb
 ·unfold Dng.kernel
  split
  ·exact It
  split
  ·exact It
  split
  ·unfold Dng.put;simp only;repeat' split
   all_goals rfl
  split
  ·unfold Dng.get;simp only;repeat' split
   all_goals rfl
  split
  ·unfold Dng.sleep;simp only;repeat' split
   all_goals rfl
  ·rfl
theorem Bc{s:Spc}(hO:fE s){f:iG}{i:Ins}(e:eE s.dK f=some i):f.pc≤256:=by
 unfold eE at e
 split at e
 ·cases e
 ·have hlt:=(List.getElem?_eq_some_iff.1 e).1
  cases hf:s.dK.funcs[f.fn.toNat]? with
  | none=>rw[List.getD_eq_getElem?_getD,hf] at hlt;exact absurd hlt (Nat.not_lt_zero _)
  | some g =>
   rw[List.getD_eq_getElem?_getD,hf] at hlt
   have h1:f.pc.toNat<g.length:=hlt
   have h2:=hO.EC.2 g (List.mem_of_getElem? hf)
   omega
theorem Ok.run(h:Ok k s [] [])(hR:ek s s.au)(hk:k≤1000000)(hr:s.au.length≤800000000){n c:Int} :
  Ok (k+1) (s.run n c).2.2 [] []∧(∀ w,eR (s.run n c).2.2 w+(if ((s.run n c).1.bE=true∨(s.run n c).1.ended=true)∧w=n then 1 else 0)=eR s w+(s.run n c).1.aM.count w)∧
  ((s.run n c).2.1≠0→(s.run n c).2.2=s∧(s.run n c).1=iZ.z)∧(s.run n c).2.2.au.length≤s.au.length+400002∧((s.run n c).2.1=0↔eR s n=1)∧(∀ w∈(s.run n c).1.aM,eR s w=0)∧ek (s.run n c).2.2 (s.run n c).2.2.au∧s.au <+: (s.run n c).2.2.au:=by
 have hO:=h.qP hk hr
 have hup:Ok (k+1) s [] []:=h.more (Nat.le_succ _)
 cases hat:s.at n with
 | none =>
  rw[ss hat]
  refine⟨hup,fun w=>by simp[iZ.z],fun _=>⟨rfl,rfl⟩,by simp only;omega,?_,fun w hw=>(by cases hw),hR,List.prefix_refl _⟩
  simp only
  unfold eR;rw[hat];simp[rO]
 | some t =>
  by_cases hw:t.why≠0
  ·rw[su hat hw]
   refine⟨hup,fun w=>by simp[iZ.z],fun _=>⟨rfl,rfl⟩,by simp only;omega,?_,fun w hw=>(by cases hw),hR,List.prefix_refl _⟩
   simp only
   unfold eR;rw[hat,ee,if_neg hw];simp
  ·have hw0:t.why=0:=Decidable.not_not.mp hw
   obtain⟨h0,ht⟩:=fa hat
   obtain⟨m,rfl⟩:∃ m:Nat,n=(m:Int):=⟨n.toNat,by omega⟩
   rw[Int.toNat_natCast] at ht
   have hrd:eR s (m:Int)=1:=by unfold eR;rw[hat,ee,if_pos hw0]
   have fin:∀ {z:Dng} {a b:Nat},dO (k+1) s z [] []→z.n=m→eK (s.dM m ⟨0,0,0,0,0⟩ c) z a b→a≤1→b≤400001→s.run (m:Int) c=(z.finish.1,0,z.finish.2)→
     Ok (k+1) (s.run (m:Int) c).2.2 [] []∧(∀ w,eR (s.run (m:Int) c).2.2 w+(if ((s.run (m:Int) c).1.bE=true∨(s.run (m:Int) c).1.ended=true)∧w=(m:Int) then 1 else 0)=eR s w+(s.run (m:Int) c).1.aM.count w)∧
     ((s.run (m:Int) c).2.1≠0→(s.run (m:Int) c).2.2=s∧(s.run (m:Int) c).1=iZ.z)∧(s.run (m:Int) c).2.2.au.length≤s.au.length+400002∧((s.run (m:Int) c).2.1=0↔eR s (m:Int)=1)∧(∀ w∈(s.run (m:Int) c).1.aM,eR s w=0)∧ek (s.run (m:Int) c).2.2 (s.run (m:Int) c).2.2.au∧s.au <+: (s.run (m:Int) c).2.2.au:=fun {z a b} hz hzn hg ha hb e=>by
    rw[e]
    obtain⟨g1,g2,g3,g4,g5⟩:=Jq hz (n:=(m:Int)) (by rw[hzn])
    refine⟨g1,g2,fun hne=>absurd rfl hne,?_,⟨fun _=>hrd,fun _=>rfl⟩,g3,g4,g5⟩
    show(z.s.au++z.ends).length≤_
    rw[List.length_append]
    have h1:z.s.au.length≤s.au.length+a:=hg.1
    have h2:z.ends.length≤0+b:=hg.2
    omega
   cases hn:eE s.dK t.hZ with
   | none =>
    have h1:dO k s (((s.dM m ⟨23,0,0,0,0⟩ c).tell 0 0 0 true).fin 0) [] []:=dO.fin (dO.tell (dO.start h hR) ht hw0 rfl) ht hw0 rfl rfl Gn
    exact fin (h1.more (Nat.le_succ _)) Ba (cZ (gB.trans ko) rfl rfl) (by decide) (by decide) (wa hat hw hn rfl)
   | some i =>
    obtain⟨hI,hIn,hIt⟩:=kn hO hn
    have hpc:=Bc hO hn
    have hpc:t.pc≤256:=hpc
    by_cases hc:cls i.op=1
    ·have S:St k s (s.dM m i c) t:=⟨dO.start h hR,ht,hw0,rfl,rfl,hI,rfl⟩
     exact fin ((S.plain hpc).more (Nat.le_succ _)) GV (cZ nq rfl rfl) (by decide) (by decide) (pQ hat hw hn hc rfl)
    ·have ho:=h.th m t ht
     have h1:dO k s ((s.dM m i c).aj {t with pc:=t.pc+1 }) [] []:=dO.own (dO.start h hR) ht (t':={t with pc:=t.pc+1 }) ⟨ho.R.l,ho.R.r,ho.R.i,ho.R.v,ho.R.h⟩ (by have:=ho.pc;show 0≤t.pc+1∧t.pc+1≤257;omega) rfl rfl rfl rfl rfl
     have S:St k s ((s.dM m i c).aj {t with pc:=t.pc+1 }) {t with pc:=t.pc+1 }:=⟨h1,bW ht,hw0,rfl,rfl,hI,rfl⟩
     exact fin (S.call hk hIt) Jr (cZ (pR hO.zB.2) rfl rfl) (by decide) (by decide) (sz hat hw hn hc rfl)
/-! a request is done -/
theorem Js{d:jC}(h:zG d){c:Int}(hd:(d.done c).2.2.1=true):zG (d.done c).2.2.2∧fq (d.done c).2.1∧ ∀ w,cD (d.done c).2.2.2 w+b2 ((d.done c).1.who=w)=cD d w:=by
 by_cases h0:d.wait.length=0
 ·rw[mA h0] at hd;cases hd
 ·have hp:=fc (t:=c) (n:=d.wait.length) (by omega)
  have hx:d.wait[pick c d.wait.length]?=some (d.wait.getD (pick c d.wait.length) sd):=getD_some hp
  have hm:=List.mem_of_getElem? hx
  generalize hr:d.wait.getD (pick c d.wait.length) sd=r at hx hm
  have hrw:=h.w r hm
  have hcn:∀ w,(d.wait.eraseIdx (pick c d.wait.length)).countP (fun r=>decide (r.who=w))+b2 (r.who=w)=d.wait.countP (fun r=>decide (r.who=w)):=fun w=>by
   have:=k0 (P:=fun r:pE=>decide (r.who=w)) hx
   unfold b2;simpa using this
  cases hw:r.write with
  | true =>
   rw[kU h0 hr hw]
   refine⟨⟨by simp only[List.length_set];exact h.l,fun x hx=>?_,fun y hy=>?_⟩,Gn,fun w=>hcn w⟩
   ·rcases List.mem_or_eq_of_mem_set hx with hx | rfl
    ·exact h.b x hx
    ·exact hrw.2.2
   ·simp only[List.length_set];exact h.w y (List.mem_of_mem_eraseIdx hy)
  | false =>
   rw[mB h0 hr hw]
   exact⟨⟨h.l,h.b,fun y hy=>h.w y (List.mem_of_mem_eraseIdx hy)⟩,wq h.b (by omega),fun w=>hcn w⟩
theorem Ok.KO(h:Ok k s [] [])(hR:ek s s.au){c:Int} :
  Ok k (s.done c).2.2 [] []∧(∀ w,eR (s.done c).2.2 w+(if ((s.done c).1.bE=true∨(s.done c).1.ended=true) then 1 else 0)=eR s w+(s.done c).1.aM.count w)∧
  ((s.done c).2.1≠0→(s.done c).2.2=s∧(s.done c).1=iZ.z)∧(s.done c).2.2.au.length≤s.au.length+1∧(s.done c).1.bE=false∧(s.done c).1.ended=false∧ek (s.done c).2.2 (s.done c).2.2.au∧s.au <+: (s.done c).2.2.au:=by
 cases hd:(s.aO.done c).2.2.1 with
 | false =>
  rw[lZ hd]
  exact⟨h,fun w=>by simp[iZ.z],fun _=>⟨rfl,rfl⟩,by simp,rfl,rfl,hR,List.prefix_refl _⟩
 | true =>
  obtain⟨g1,g2,g3⟩:=Js h.dk hd
  have h1:Ok k {s with aO:=(s.aO.done c).2.2.2 } [(s.aO.done c).1.who] []:=h.aO g1 (fun w=>by rw[oH];have:=g3 w;simp;omega)
  have hb:=h1.oE (s.aO.done c).1.who
  obtain⟨u,hu,hu0,hu9⟩:=gO (s:={s with aO:=(s.aO.done c).2.2.2 }) (w:=(s.aO.done c).1.who) (by simp at hb;omega)
  obtain⟨h0,hat⟩:=fa hu
  rw[l1 hd hat]
  have h2:=h1.dn hu hu0 hu9 g2
  refine⟨(h2.Ji (p':=[]) (q':=[]) (fun w=>by simp)).au _,fun w=>?_,fun hne=>absurd rfl hne,by simp[Spc.tell,Spc.dn,Spc.aj],rfl,rfl,?_,List.prefix_append _ _⟩
  rotate_left
  ·have hR1:ek {s with aO:=(s.aO.done c).2.2.2 } s.au:=hR.of rfl rfl
   exact(hR1.dn h1 hu hu0 hu9 (y:=(s.aO.done c).2.1)).of rfl rfl
  show eR (({s with aO:=(s.aO.done c).2.2.2 }:Spc).dn (s.aO.done c).1.who.toNat (s.aO.done c).2.1) w+(if (false=true∨false=true) then 1 else 0)=eR s w+[(s.aO.done c).1.who].count w
  simp only[Bool.false_eq_true,or_self,if_false,Nat.add_zero]
  rw[oG hu,oH]
  have hs:∀ w,eR {s with aO:=(s.aO.done c).2.2.2 } w=eR s w:=fun w=>rfl
  by_cases e:w=(s.aO.done c).1.who
  ·have:eR s w=0:=by rw[← hs,e];unfold eR;rw[hu,ee];exact if_neg hu0
   rw[if_pos e,jf e.symm];omega
  ·rw[if_neg e,eS (fun h=>e h.symm),hs];rfl
/-! a moment -/
theorem xW(l:List Int)(w:Int):(gz l).count w=l.count w:=by
 have hi:∀ (a:Int) (m:List Int),(dH a m).count w=m.count w+b2 (a=w):=by
  intro a m
  induction m with
  | nil=>rw[show dH a []=[a] from rfl,oH];simp
  | cons b m ih =>
   unfold dH
   split
   ·rw[eI]
   ·rw[eI,ih,eI];omega
 induction l with
 | nil=>rfl
 | cons a l ih=>show(dH a (gz l)).count w=_;rw[hi,ih,eI]
theorem Cs(l:List (Int×Int))(n w:Int):(dT l n).countP (fun x=>decide (x.1=w))=if w=n then 0 else l.countP (fun x=>decide (x.1=w)):=by
 unfold dT
 rw[List.countP_filter]
 by_cases e:w=n
 ·rw[if_pos e,List.countP_eq_zero]
  intro x hx
  simp[e]
 ·rw[if_neg e]
  apply List.countP_congr
  intro x hx
  simp only[Bool.and_eq_true,decide_eq_true_eq,Bool.not_eq_true',decide_eq_false_iff_not]
  exact⟨fun h=>h.1,fun h=>⟨h,fun h2=>e (h.symm.trans h2)⟩⟩
theorem sD:∀ (a:List Int) (l:List (Int×Int)) (w:Int),(a.foldl dT l).countP (fun x=>decide (x.1=w))=if w∈a then 0 else l.countP (fun x=>decide (x.1=w))
 | [],_,_=>by simp
 | n::a,l,w=>by
  rw[List.foldl_cons,sD a,Cs]
  by_cases h:w∈a
  ·rw[if_pos h,if_pos (List.mem_cons_of_mem _ h)]
  ·rw[if_neg h]
   by_cases e:w=n
   ·rw[if_pos e,if_pos (by rw[e];exact List.mem_cons_self)]
   ·rw[if_neg e,if_neg (by simp[e,h])]
theorem Jt{u:j6}(h:0≤u.now∧u.now≤1099511627776)(hb:∀ w,cL u w≤1):(0≤u.tick.2.now∧u.tick.2.now≤1099511627776)∧ ∀ w,cL u.tick.2 w+u.due.count w=cL u w:=by
 refine⟨by show 0≤min (u.now+1) 1099511627776∧min (u.now+1) 1099511627776≤_;omega,fun w=>?_⟩
 have h1:cL u.tick.2 w=if w∈u.due then 0 else cL u w:=sD u.due u.dY w
 have h2:u.due.count w=(u.dY.filter fun p=>decide (p.2≤min (u.now+1) 1099511627776)).countP (fun x=>decide (x.1=w)):=by
  unfold j6.due;rw[xW];unfold List.count;rw[List.countP_map];congr 1
 have h3:(u.dY.filter fun p=>decide (p.2≤min (u.now+1) 1099511627776)).countP (fun x=>decide (x.1=w))≤cL u w:=List.Sublist.countP_le List.filter_sublist
 rw[h1]
 by_cases hm:w∈u.due
 ·have:=List.count_pos_iff.2 hm
  have:=hb w
  rw[if_pos hm];omega
 ·have:=List.count_eq_zero.2 hm
  rw[if_neg hm];omega
theorem Ok.di:∀ (l:List Int) (s:Spc),Ok k s l []→ek s s.au→Ok k (di s l) [] []∧(∀ w,eR (di s l) w=eR s w+l.count w)∧ek (di s l) (di s l).au∧s.au <+: (di s l).au
 | [],_,h,hR=>⟨h,fun w=>rfl,hR,List.prefix_refl _⟩
 | n::l,s,h,hR=>by
  have hb:=h.oE n
  rw[eI,jf rfl] at hb
  obtain⟨u,hu,hu0,hu9⟩:=gO (s:=s) (w:=n) (by simp at hb;omega)
  have h1:=h.dn hu hu0 hu9 (y:=0) Gn
  have h2:Ok k ((s.dn n.toNat 0).tell ((s.t n.toNat).dL 0)) l []:=(h1.Ji (fun w=>by rw[eI,eI];simp)).au _
  have hR2:ek ((s.dn n.toNat 0).tell ((s.t n.toNat).dL 0)) ((s.dn n.toNat 0).tell ((s.t n.toNat).dL 0)).au:=by
   show ek ((s.dn n.toNat 0).tell ((s.t n.toNat).dL 0)) (s.au++[(s.t n.toNat).dL 0])
   rw[cW (fa hu).2]
   exact(hR.dn h hu hu0 hu9 (y:=0)).of rfl rfl
  obtain⟨h3,h4,h6,h7⟩:=Ok.di l _ h2 hR2
  refine⟨h3,fun w=>(h4 w).trans ?_,h6,List.IsPrefix.trans (List.prefix_append _ _) h7⟩
  have h5:eR ((s.dn n.toNat 0).tell ((s.t n.toNat).dL 0)) w=eR (s.dn n.toNat 0) w:=rfl
  rw[h5,oG hu,eI]
  by_cases e:w=n
  ·have:eR s w=0:=by rw[e];unfold eR;rw[hu,ee];exact if_neg hu0
   rw[if_pos e,jf e.symm];omega
  ·rw[if_neg e,eS (fun h=>e h.symm)];omega
theorem Ok.KP(h:Ok k s [] [])(hR:ek s s.au) :
  Ok k s.tick.2 [] []∧(∀ w,eR s.tick.2 w=eR s w+s.tick.1.aM.count w)∧s.tick.2.au.length≤s.au.length+16∧s.tick.1.bE=false∧s.tick.1.ended=false∧ek s.tick.2 s.tick.2.au∧s.au <+: s.tick.2.au:=by
 have hbal:∀ w,gN s w=ed s w:=fun w=>by have:=h.oE w;simpa using this
 have bL:∀ w,cL s.aA w≤ed s w:=fun w=>by have:=hbal w;unfold gN at this;omega
 obtain⟨g1,g2⟩:=Jt h.wl (fun w=>Nat.le_trans (bL w) pT)
 have h1:Ok k {s with aA:=s.aA.tick.2 } s.aA.due []:=h.aA g1 (fun w=>by have:=g2 w;simp;omega)
 obtain⟨h2,h3,h4,h5⟩:=Ok.di s.aA.due _ h1 (hR.of rfl rfl)
 refine⟨h2,fun w=>(h3 w).trans rfl,?_,rfl,rfl,h4,h5⟩
 show(Go.SLYtefdijgllbkmfaaGreat.di _ s.aA.due).au.length≤_
 rw[oD]
 have:=xO s.aA
 have:s.aA.dY.length≤16:=oJ (f:=fun r:Int×Int=>r.1) h.lt bL
 show s.au.length+_≤_
 omega
end
end Go.SLYtefdijgllbkmfaaGreat
namespace Go.SLYtefdijgllbkmfaaGreat
open Go Go.RowKit
theorem sE{α:Type}{f:α→Nat}{n:Nat}{x:α}(h:f x=0):kZ f (List.replicate n x)=0:=pS (fun y hy=>by rw[(List.mem_replicate.1 hy).2];exact h)
theorem Ok.KQ{p:eZ}(h:xP p):Ok 0 ⟨p,List.replicate 16 (false,0),List.replicate 16 none,List.replicate p.words.toNat 0,Gates.new p.aB p.conds p.aU,p.aG.map Tub.new,jC.new p.blocks,j6.new,[]⟩ [] []:=by
 have hcap:eg p=true:=by
  have:=h.1;unfold dD at this
  split at this
  ·assumption
  ·cases this
 have hc:=hcap
 unfold eg at hc
 simp only[Bool.and_eq_true,decide_eq_true_eq,within,List.all_eq_true] at hc
 obtain⟨⟨⟨⟨⟨⟨⟨⟨⟨⟨⟨c1,c2⟩,c3⟩,c4⟩,c5⟩,c6⟩,c7⟩,c8⟩,c9⟩,c10⟩,c11⟩,c12⟩:=hc
 have cl:∀ {n:Int},0≤n→n≤4→bb n 4=n:=fun a b=>by unfold bb;omega
 refine⟨h,by simp,by simp,fun o ho=>?_,fun n hn=>?_,fun n t ht=>?_,⟨by simp,fun x hx=>?_⟩,⟨?_,?_,?_,fun x hx=>?_,fun r hr w hw=>?_⟩,⟨by simp,fun u hu=>?_⟩,⟨?_,fun x hx=>?_,fun r hr=>?_⟩,(by show(0:Int)≤0∧(0:Int)≤1099511627776;decide),fun w=>?_⟩
 ·rw[(List.mem_replicate.1 ho).2];decide
 ·rw[List.getD_eq_getElem?_getD,List.getElem?_replicate,List.getElem?_replicate,if_pos hn,if_pos hn]
  exact⟨fun h=>(by cases h),fun⟨t,h⟩=>(by cases h)⟩
 ·have ht:(List.replicate 16 (none:Option bo))[n]?=some (some t):=ht
  rw[List.getElem?_replicate] at ht
  split at ht <;> cases ht
 ·rw[(List.mem_replicate.1 hx).2];exact Gn
 ·show(List.replicate (bb p.aB 4).toNat _).length=_;rw[List.length_replicate,cl (by omega) (by omega)]
 ·show(List.replicate (bb p.conds 4).toNat _).length=_;rw[List.length_replicate,cl (by omega) (by omega)]
 ·show((p.aU.take 4).map _).length=p.aU.length;rw[List.length_map,List.length_take];omega
 ·obtain⟨n,hn,rfl⟩:=List.mem_map.1 (show x∈(p.aU.take 4).map fun n=>(⟨[],bb n 1048576⟩:jr) from hx)
  show 0≤bb n 1048576∧bb n 1048576≤1048576;unfold bb;omega
 ·have hr:r∈List.replicate (bb p.conds 4).toNat ([]:List dh):=hr
  rw[(List.mem_replicate.1 hr).2] at hw;cases hw
 ·obtain⟨n,hn,rfl⟩:=List.mem_map.1 (show u∈p.aG.map Tub.new from hu)
  exact⟨by show min (max n 1) 8≤8;omega,by show 0≤8;decide,fun x hx=>(by cases hx),fun x hx=>(by cases hx)⟩
 ·show(List.replicate (bb p.blocks 64).toNat _).length≤64;rw[List.length_replicate];unfold bb;omega
 ·have hx:x∈List.replicate (bb p.blocks 64).toNat (0:Int):=hx
  rw[(List.mem_replicate.1 hx).2];exact Gn
 ·cases hr
 ·have e1:cG (Gates.new p.aB p.conds p.aU) w=0:=by
   unfold cG Gates.new
   simp only
   rw[sE (f:=fun m:dB=>dp w m.wait) rfl,sE (f:=dp w) rfl,pS (fun x hx=>by
    obtain⟨n,hn,rfl⟩:=List.mem_map.1 hx;rfl)]
  have e2:cT (p.aG.map Tub.new) w=0:=pS (fun x hx=>by obtain⟨n,hn,rfl⟩:=List.mem_map.1 hx;rfl)
  have e3:cJ (List.replicate 16 none) w=0:=sE rfl
  unfold gN ed
  simp only[e1,e2,e3]
  have e4:∀ (s:Spc),s.thr=List.replicate 16 none→s.at w=none:=fun s hs=>by
   unfold Spc.at cE
   split
   ·rfl
   ·rw[hs,List.getElem?_replicate];split <;> rfl
  rw[e4 _ rfl]
  rfl
theorem Ok.new{p:eZ}(h:xP p):Ok 1 (Spc.new p) [] []:=Ok.begin (Ok.KQ h) (by decide) Gn
theorem ek.new{p:eZ}:ek (Spc.new p) (Spc.new p).au:=by
 have e:(Spc.new p).au=[]:=by unfold Spc.new;rw[je]
 rw[e]
 refine⟨sA.nil,fun n t ht=>?_,fun r hr=>by cases hr⟩
 have hb:∀ (n:Nat) (t:bo),(Spc.new p).thr[n]?=some (some t)→bT t=0:=fun n t ht=>by
  unfold Spc.new at ht
  rw[dX (n:=0) rfl] at ht
  have ht:((List.replicate 16 (none:Option bo)).set 0 _)[n]?=some (some t):=ht
  by_cases e:0=n
  ·subst e;rw[List.getElem?_set_self (by simp)] at ht;cases ht;rfl
  ·rw[List.getElem?_set_ne e,List.getElem?_replicate] at ht
   split at ht <;> cases ht
 rw[hb n t ht];rfl
end Go.SLYtefdijgllbkmfaaGreat
namespace Go.SLYtefdijgllbkmfaaGreat
open Go Go.RowKit
def q6(k:Nat)(s:Spc):Prop:=Ok k s [] []∧s.au.length≤400002 * k∧ek s s.au
theorem q6.rec{k:Nat}{s:Spc}(h:q6 k s)(hk:k≤1990):s.au.length≤800000000:=by have:=h.2.1;omega
theorem q6.qP{k:Nat}{s:Spc}(h:q6 k s)(hk:k≤1990):fE s:=h.1.qP (by omega) (h.rec hk)
theorem q6.run{k:Nat}{s:Spc}(h:q6 k s)(hk:k≤1990)(n c:Int):q6 (k+1) (s.run n c).2.2:=by
 obtain⟨a, -, -,b, -, -,r, -⟩:=h.1.run h.2.2 (n:=n) (c:=c) (by omega) (h.rec hk)
 have:=h.2.1
 exact⟨a,by omega,r⟩
theorem q6.done{k:Nat}{s:Spc}(h:q6 k s)(c:Int):q6 (k+1) (s.done c).2.2:=by
 obtain⟨a, -, -,b, -, -,r, -⟩:=h.1.KO h.2.2 (c:=c)
 have:=h.2.1
 exact⟨a.more (Nat.le_succ _),by omega,r⟩
theorem q6.tick{k:Nat}{s:Spc}(h:q6 k s):q6 (k+1) s.tick.2:=by
 obtain⟨a, -,b, -, -,r, -⟩:=h.1.KP h.2.2
 have:=h.2.1
 exact⟨a.more (Nat.le_succ _),by omega,r⟩
theorem q6.new{p:eZ}(h:xP p):q6 1 (Spc.new p):=⟨Ok.new h,by
 have:(Spc.new p).au=[]:=by unfold Spc.new;rw[je]
 rw[this];simp,ek.new⟩
/-! the laws' own fact -/
def Kk(b n:Nat):Value:=.slice (some ⟨b,0,none⟩) n n
deriving instance DecidableEq for bo
end Go.SLYtefdijgllbkmfaaGreat
namespace Go.SLYtefdijgllbkmfaaGreat
open Go Go.RowKit
theorem l5{P:Program}{t:TypeId}{fs:Array Field}(hu:P.underlying t=some (.struct fs))(hs:P.stoodInHeld t=false)(d:Nat)(xs ys:Array Value)(w:World) :
  (Op.equalIn (d+1) t (.agg xs) (.agg ys)).run P w=(Op.eqFields d xs ys fs.toList).run P w:=by
 have e:P.fieldsOf t=fs:=by unfold Program.fieldsOf;rw[hu]
 have:=run_equalIn_struct (P:=P) (w:=w) d t xs ys (by rw[e];exact hu) hs
 rwa [e] at this
structure Mn where
 what:Int
 slot:Int
 choice:Int
def Mo(x:Mn):List Value:=[.int .i64 x.what,.int .i64 x.slot,.int .i64 x.choice]
theorem q6.more{k:Nat}{s:Spc}(h:q6 k s){k':Nat}(hk:k≤k'):q6 k' s:=⟨h.1.more hk,by have:=h.2.1;omega,h.2.2⟩
theorem q6.lt{k:Nat}{s:Spc}(h:q6 k s):s.thr.length=16:=h.1.lt
theorem jS:∀ (l:List (Option bo)) (k:Nat),(readyFrom l k).length≤l.length
 | [],_=>Nat.le_refl _
 | none::l,k=>Nat.le_trans (jS l (k+1)) (Nat.le_succ _)
 | some t::l,k=>by
  have:=jS l (k+1)
  unfold readyFrom;split <;> simp only[List.length_cons] <;> omega
theorem Ct{s:Spc}(h:s.thr.length=16):s.ready.length≤1000000000:=Nat.le_trans (jS _ _) (by rw[h];decide)
structure Mp(s s':Spc)(e:iZ)(n:Int):Prop where
 a:∀ w∈e.aM,w ∉ s.ready∧w∈s'.ready
 g:(e.bE || e.ended)=true→n ∉ s'.ready
 l:s'.ready.length+(if (e.bE || e.ended)=true then 1 else 0)=s.ready.length+e.aM.length
end Go.SLYtefdijgllbkmfaaGreat
namespace Go.SLYtefdijgllbkmfaaGreat
open Go Go.RowKit
structure zK where
 kind:Int
 space:Int
 dv:Int
 choice:Int
deriving DecidableEq
def tE(x:zK):List Value:=[.int .i64 x.kind,.int .i64 x.space,.int .i64 x.dv,.int .i64 x.choice]
def da(b:Nat)(l:List Spc):aa:=rM (fun _ (xs:List (Nat×Spc))=>xs.map (·.2)=l) fun v xs=>[arr b 0 [v],sl df 1 v xs,aT (fun x=>cH x.1 x.2) xs]
def oDo(l:List Spc)(a:zK):Int×List Spc :=
 if a.kind=3 then (0,l.map fun s=>s.tick.2) else
 match cE l a.space with
 | none=>(1,l)
 | some s =>
  if a.kind=1 then ((s.run a.dv a.choice).2.1,l.set a.space.toNat (s.run a.dv a.choice).2.2) else
  if a.kind=2 then ((s.done a.choice).2.1,l.set a.space.toNat (s.done a.choice).2.2) else (1,l)
def iq(k:Nat)(l:List Spc):Prop:=∀ s∈l,q6 k s
theorem iq.act{k:Nat}{l:List Spc}(h:iq k l)(hk:k≤1990)(a:zK):iq (k+1) (oDo l a).2:=by
 have hm:∀ s∈l,q6 (k+1) s:=fun s hs=>(h s hs).more (Nat.le_succ _)
 unfold oDo
 split
 ·intro s hs
  obtain⟨t,ht,rfl⟩:=List.mem_map.1 hs
  exact(h t ht).tick
 ·split
  ·exact hm
  ·rename_i s e
   have hs:=h s (List.mem_of_getElem? (fN e).2.2)
   split
   ·intro t ht
    rcases List.mem_or_eq_of_mem_set ht with ht | rfl
    ·exact hm t ht
    ·exact hs.run hk _ _
   ·split
    ·intro t ht
     rcases List.mem_or_eq_of_mem_set ht with ht | rfl
     ·exact hm t ht
     ·exact hs.done _
    ·exact hm
theorem q7(l:List Spc)(a:zK):(oDo l a).2.length=l.length:=by
 unfold oDo
 split
 ·simp
 ·split
  ·rfl
  ·split
   ·simp
   ·split
    ·simp
    ·rfl
end Go.SLYtefdijgllbkmfaaGreat
namespace Go.SLYtefdijgllbkmfaaGreat
open Go Go.RowKit Go.ChangeAt Go.ChangeShapes Go.Deep
section
variable{H:Type}{enc:TypeId×Value→H}{P:Program}{W:World}{bulk:DataW H→Nat}
structure wu(bulk:DataW H→Nat):Prop where
 one:∀ d,1≤bulk d
 slice:∀ es sp,(es.map bulk).sum+1≤bulk (.slice es sp)
 agg:∀ ds,(ds.map bulk).sum≤bulk (.agg ds)
def gD(enc:TypeId×Value→H)(P:Program)(W:World)(bulk:DataW H→Nat)(t:TypeId){α:Type}(ea:α→List Value)(good:α→Nat→Prop):Prop :=
 ∀ fuel cs x,DataW.trod enc P W 0 (fun _=>true) true fuel t cs=some x→ ∃ a,cs=ea a∧good a (bulk x.1)
theorem gD.int{t:TypeId}{k:IntKind}(ht:P.underlying t=some (.int k)):gD enc P W bulk t (fun n:Int=>[.int k n]) (fun n _=>(Lit.int k n).wf=true):=fun fuel cs x h=>by
 obtain⟨n,rfl,_,hw⟩:=DataW.trod_int ht h
 exact⟨n,rfl,hw⟩
theorem gD.bool{t:TypeId}(ht:P.underlying t=some .bool):gD enc P W bulk t (fun b:Bool=>[.bool b]) (fun _ _=>True):=fun fuel cs x h=>by
 obtain⟨n,rfl,_⟩:=DataW.trod_bool ht h
 exact⟨n,rfl,trivial⟩
theorem Bd{l:List (DataW H)}{d:DataW H}(h:d∈l):bulk d≤(l.map bulk).sum:=by
 induction l with
 | nil=>cases h
 | cons x r ih =>
  simp only[List.map_cons,List.sum_cons]
  cases List.mem_cons.1 h with
  | inl e=>subst e;omega
  | inr e=>have:=ih e;omega
theorem GW(hb:wu bulk)(l:List (DataW H)):l.length≤(l.map bulk).sum:=by
 induction l with
 | nil=>simp
 | cons x r ih=>have:=hb.one x;simp only[List.map_cons,List.sum_cons,List.length_cons];omega
theorem gD.slice(hb:wu bulk){t e:TypeId}{k:Nat}{α:Type}{ea:α→List Value}{good:α→Nat→Prop}(ht:P.underlying t=some (.slice e))(hc:P.cellsOf e=k)(hk0:0<k)(hk:∀ a,(ea a).length=k)(he:gD enc P W bulk e ea good)
  (mono:∀ a m n,m≤n→good a m→good a n) :
  gD enc P W bulk t (fun p:Value×List α=>[p.1]) (fun p n=>iA W ea k p.1 p.2∧p.2.length+1≤n∧ ∀ a∈p.2,good a n):=fun fuel cs x h=>by
 rcases open_slice ht h with ⟨rfl,rfl⟩ | ⟨a,len,cap,m,n,D,Pl,rfl,hb0,hl,hm,hmm,rfl,hx⟩
 ·refine⟨(.slice none 0 0,[]),rfl,⟨⟨none,0,rfl,Nat.le_refl _,fun _ e _=>by(cases e),fun _=>rfl⟩,fun x hx=>(by cases hx),fun i x hx=>by simp at hx⟩,?_,fun a ha=>by cases ha⟩
  exact hb.one _
 ·simp only[if_true] at hmm
  have hmm':=hmm.symm
  subst hmm'
  have each:∀ i,i<len→ ∃ q:Option α, ∃ y,q=some y∧W.cells? 0 (a.add (i * k)) k=some (ea y)∧good y (bulk (D i)):=fun i hi=>by
   obtain⟨cs',h1,h2⟩:=hx i (Nat.lt_of_lt_of_le hi hl)
   obtain⟨y,rfl,hg⟩:=he _ _ _ h2
   rw[hc] at h1
   exact⟨some y,y,rfl,h1,hg⟩
  obtain⟨f,hf⟩:=choose_lt each
  obtain⟨xs,hxs,hxl⟩:∃ xs:List α,(∀ i y,xs[i]?=some y→i<len∧f i=some y)∧xs.length=len:=by
   clear h hx each
   induction len with
   | zero=>exact⟨[],fun i y h=>by simp at h,rfl⟩
   | succ len ih =>
    obtain⟨xs,h1,h2⟩:=ih (by omega) (fun i hi=>hf i (by omega))
    obtain⟨y,hy,_⟩:=hf len (by omega)
    refine⟨xs++[y],fun i z hz=>?_,by simp[h2]⟩
    by_cases hi:i<xs.length
    ·rw[List.getElem?_append_left hi] at hz
     have:=h1 i z hz
     exact⟨by omega,this.2⟩
    ·rw[List.getElem?_append_right (by omega)] at hz
     have hi0:=(List.getElem?_eq_some_iff.1 hz).1
     simp at hi0
     obtain rfl:i=len:=by omega
     simp[h2] at hz
     subst hz
     exact⟨by omega,hy⟩
  have spot:xs≠[]→a.spot=none:=fun hne=>by
   have h0:0<len:=by rw[← hxl];exact List.length_pos_iff.2 hne
   obtain⟨y,_,hcs,_⟩:=hf 0 h0
   obtain⟨_,hlen,hcell⟩:=World.cells?_some hcs
   have h1:=hcell 0 hk0
   rw[List.getElem?_eq_getElem (by rw[hk];exact hk0)] at h1
   have:=World.cell?_spot h1
   simpa [Addr.add] using this
  have hlenb:len+1≤bulk (.slice ((List.range len).map D) ((List.range (cap-len)).map fun j=>D (len+j))):=by
   have h1:=hb.slice ((List.range len).map D) ((List.range (cap-len)).map fun j=>D (len+j))
   have h2:=GW hb ((List.range len).map D)
   simp only[List.length_map,List.length_range] at h2
   omega
  refine⟨(.slice (some a) len cap,xs),rfl,⟨⟨some a,cap,by rw[hxl],(by rw[hxl];exact hl),fun b e hne=>by cases e;exact spot hne,fun e=>by cases e⟩,fun x _=>hk x,fun i x hi c u hu=>?_⟩,by rw[hxl];exact hlenb,fun y hy=>?_⟩
  ·obtain⟨hil,hfi⟩:=hxs i x hi
   obtain⟨y,hy,hcs,_⟩:=hf i hil
   rw[hfi] at hy
   cases hy
   obtain⟨_,hlen,hcell⟩:=World.cells?_some hcs
   have hck:=(List.getElem?_eq_some_iff.1 hu).1
   rw[hk] at hck
   have h1:=hcell c hck
   rw[hu] at h1
   have hs:=spot (by intro e;subst e;simp at hi)
   obtain⟨b,o,s⟩:=a
   simp only at hs
   subst hs
   rw[dV,dV] at h1
   exact h1
  ·obtain⟨i,hi⟩:=List.mem_iff_getElem?.1 hy
   obtain⟨hil,hfi⟩:=hxs i y hi
   obtain⟨z,hz,_,hg⟩:=hf i hil
   rw[hfi] at hz
   cases hz
   refine mono y _ _ ?_ hg
   have h1:=hb.slice ((List.range len).map D) ((List.range (cap-len)).map fun j=>D (len+j))
   have h2:bulk (D i)≤(((List.range len).map D).map bulk).sum:=Bd (List.mem_map.2 ⟨i,List.mem_range.2 hil,rfl⟩)
   exact Nat.le_trans h2 (Nat.le_trans (Nat.le_succ _) h1)
theorem l6(hb:wu bulk){t:TypeId}{fs:Array Field}{fuel:Nat}{cs:List Value}{x:DataW H×List MemPlace}(ht:P.underlying t=some (.struct fs))(hc:P.cellsOf t=fs.size)(ho:∀ (i:Nat) (f:Field),fs[i]?=some f→f.offset=i∧P.cellsOf f.type=1)
  (h:DataW.trod enc P W 0 (fun _=>true) true fuel t cs=some x) :
  cs.length=fs.size∧ ∀ (i:Nat) (f:Field),fs[i]?=some f→ ∃ v fuel y,cs[i]?=some v∧DataW.trod enc P W 0 (fun _=>true) true fuel f.type [v]=some y∧bulk y.1≤bulk x.1:=by
 obtain⟨xs,n,rfl,rfl,hl,hxl,hf⟩:=DataW.trod_struct ht h
 refine⟨hl.trans hc,fun i f hi=>?_⟩
 have hlt:=(Array.getElem?_eq_some_iff.1 hi).1
 have h1:=hf i f hi
 obtain⟨ho1,ho2⟩:=ho i f hi
 have hil:i<cs.length:=by omega
 rw[ho1,ho2,List.drop_eq_getElem_cons hil,List.take_succ_cons,List.take_zero,List.getElem?_eq_getElem (by omega)] at h1
 refine⟨cs[i],n,_,List.getElem?_eq_getElem hil,h1,?_⟩
 have h2:=hb.agg (xs.map (·.1))
 have h3:bulk (xs[i]'(by omega)).1≤((xs.map (·.1)).map bulk).sum:=Bd (List.mem_map.2 ⟨_,List.getElem_mem _,rfl⟩)
 exact Nat.le_trans h3 h2
/-! ### A law's end -/
theorem uo(hl:laidOutB P=true){W W':World}(hb:Below W.heap.size W W'){sp:Nat→Bool} :
  ∀ {ts:List TypeId} {vs:List Value} {ds:List (DataW H)} {p:List MemPlace},ts.all (fun t=>P.readableRec t && decide (t<P.types.size))=true→DataW.TrodAll enc P W 0 (fun _=>true) true ts vs ds p→(∀ x∈p,x.block<W.heap.size)→(∀ x∈p,sp x.block=true)→
   DataW.TrodAll enc P W' 0 sp true ts vs ds p
 | [],[],[],_,_,h,_,_=>h
 | [],[],_::_,_,_,h,_,_=>h.elim
 | [],_::_,_,_,_,h,_,_=>h.elim
 | _::_,[],_,_,_,h,_,_=>h.elim
 | _::_,_::_,[],_,_,h,_,_=>h.elim
 | t::ts,v::vs,d::ds,ps,hr,h,hlt,hsp=>by
  obtain⟨p,q,h1,h2,rfl⟩:=h
  simp only[List.all_cons,Bool.and_eq_true,decide_eq_true_eq] at hr
  refine⟨p,q,WideElems.Trod_stays hl hr.1.1 hr.1.2 h1 (fun x hx=>hb.same (hlt x (by simp[hx]))) (fun x hx=>hsp x (by simp[hx])),?_,rfl⟩
  exact uo hl hb (by simpa using hr.2) h2 (fun x hx=>hlt x (by simp[hx])) (fun x hx=>hsp x (by simp[hx]))
theorem EU{f:Func}{s:ChangeSpec}{apart fresh handsOn again:Bool}{W W':World}{args:Array Value}{ds gs:List (DataW H)}{before:List MemPlace}{tb:TypeId}
  (hl:laidOutB P=true) (hrd:f.params.toList.all (fun t=>P.readableRec t && decide (t<P.types.size))=true) (hv:s.vars=[]) (hr:f.resultTypes = #[tb]) (htb:P.underlying tb=some .bool)
  (hW:DataW.Whole enc P f.params.toList s.vars apart W args.toList ds gs before) (h1:(s.fn H ds).results=[.lit (.bool true)]) (h2:(s.fn H ds).args=ds) (h3:(s.fn H ds).vars=[])
  (hb:Below W.heap.size W W'):s.post enc P f apart fresh handsOn again W args (.bool true) W':=by
 have hlt:=fun p hp=>hW.lt p hp
 have hW':=hW
 obtain⟨p,q,hA,hV,rfl,hz,hn⟩:=hW'
 rw[hv] at hV
 obtain⟨rfl,rfl⟩:=trodVars_none hV
 have hres:∀ (b:Nat) (sp:Nat→Bool) (hd:Bool),DataW.TrodAll enc P W' b sp hd f.resultTypes.toList ((Value.bool true).resultList f.resultTypes.size) (s.fn H (ds++[])).results []:=fun b sp hd=>by
  rw[List.append_nil,h1,hr]
  exact trodAll_cons_mk (shut_bool htb _) trodAll_mk0
 have hargs:∀ sp:Nat→Bool,(∀ x∈p++[],sp x.block=true)→DataW.TrodAll enc P W' 0 sp true f.params.toList args.toList (s.fn H (ds++[])).args p:=fun sp hsp=>by
  rw[List.append_nil,h2]
  exact uo hl hb hrd hA (fun x hx=>hlt x (by simp[hx])) (fun x hx=>hsp x (by simp[hx]))
 have hvars:∀ sp:Nat→Bool,DataW.TrodVars enc P W' sp s.vars (s.fn H (ds++[])).vars []:=fun sp=>by
  rw[List.append_nil,h3,hv];rfl
 have hold:∀ x∈p++[],(fun b=>decide (b<W.heap.size)) x.block=true:=fun x hx=>by simpa using hlt x hx
 refine⟨ds,[],p++[],[],p,[],hW,hres _ _ _,hargs _ hold,hvars _,World.keptBut_mono (fun x hx=>⟨hx,?_⟩) (hb.frame _),fun _=>?_⟩
 ·simp only[List.append_nil] at hx
  exact Or.inr (by simpa using hx)
 ·refine⟨ok_one hr rfl (okWide_bool_mk htb _),_,_,([]++p)++[],⟨[]++p,[],trodAll_append (hargs _ (fun _ _=>rfl)) (hres _ _ _),hvars _,rfl,?_,?_⟩,?_⟩
  ·intro b off hp
   have hp':MemPlace.cell b off∈p:=by simpa using hp
   have:=hz b off (by simp[hp'])
   rw[← this]
   exact hb.frozen (p:=⟨b,off,none⟩) (hlt (.cell b off) (by simp[hp']))
  ·intro ha
   simpa using hn ha
  ·intro x hx _
   simpa using hx
theorem Fn.done{f:FuncId}{args:List Value}{X:Type}{v:Value}(h:Fn P W f args [] X (fun _=>v) (fun _=>True) (fun _=>[])):Calls P f args.toArray W fun e w'=>e = .returned v∧Below W.heap.size W w' :=
 (h SLYtefdijgllbkmfaaGreat.emp W (by simpa only[seps,aP] using Sat.empty)).mono fun e w' ⟨x,he,_,hs⟩=>⟨he,hs.IM⟩
end
end Go.SLYtefdijgllbkmfaaGreat
namespace Go.Proofs.YtefdijgllbkmfaaGreat
open Go Go.RowKit Go.ChangeShapes Go.WideShapes Go.ChangeAt Go.SLYtefdijgllbkmfaaGreat
/-! the bulk of what is read -/
theorem k8{H:Type}:∀ l:List (DataW H),Rows.uptoBulkAll l=(l.map Rows.uptoBulk).sum
 | []=>by simp[Rows.uptoBulkAll]
 | d::r=>by simp[Rows.uptoBulkAll,k8 r]
theorem l7{H:Type}:wu (Rows.uptoBulk (H:=H)) where
 one:=fun d=>by
  cases d with
  | lit l=>cases l <;> simp[Rows.uptoBulk]
  | nil=>simp[Rows.uptoBulk]
  | ptr d=>simp[Rows.uptoBulk]
  | slice elems spare=>simp[Rows.uptoBulk]
  | agg parts=>simp[Rows.uptoBulk]
  | iface t d=>simp[Rows.uptoBulk]
  | map entries=>simp[Rows.uptoBulk]
  | held h=>simp[Rows.uptoBulk]
 slice:=fun es sp=>by rw[← k8];simp only[Rows.uptoBulk];omega
 agg:=fun ds=>by rw[← k8];simp only[Rows.uptoBulk];omega
theorem bound{H:Type}{l:List (DataW H)}(hk:Rows.uptoSmall H l=true):(l.map Rows.uptoBulk).sum≤1048576:=by
 rw[← k8];simpa [Rows.uptoSmall] using hk
structure Be(W:World)(v:bN)(n:Nat):Prop where
 fs:iA W cn 1 v.fv v.fs
 ins:∀ x∈v.fs,iA W dI 5 x.1 x.2
 aU:iA W aL 1 v.sv v.aU
 aG:iA W aL 1 v.pv v.aG
 fl:v.fs.length≤n
 sl:v.aU.length≤n
 pl:v.aG.length≤n
 wo:∀ f∈v.p.funcs, ∀ i∈f,fq i.n
theorem Be.rd{W:World}{v:bN}{n:Nat}(h:Be W v n)(H:List aa):fp W H v:=⟨.old h.fs,fun x hx=>.old (h.ins x hx),.old h.aU,.old h.aG⟩
section
variable{H:Type}{enc:TypeId×Value→H}{W:World}
theorem EV:gD enc Tryz.prog W Rows.uptoBulk 131 dI (fun i _=>fq i.n):=fun fuel cs x h=>by
 obtain⟨hl,hf⟩:=l6 l7 Tryz.underlying131 (by kernel_rfl) (by
  intro i f hi
  match i,hi with
  | 0,hi=>cases hi;exact⟨rfl,by kernel_rfl⟩
  | 1,hi=>cases hi;exact⟨rfl,by kernel_rfl⟩
  | 2,hi=>cases hi;exact⟨rfl,by kernel_rfl⟩
  | 3,hi=>cases hi;exact⟨rfl,by kernel_rfl⟩
  | 4,hi=>cases hi;exact⟨rfl,by kernel_rfl⟩
  | n+5,hi=>simp at hi) h
 obtain⟨v0,n0,y0,e0,t0,_⟩:=hf 0 _ rfl
 obtain⟨v1,n1,y1,e1,t1,_⟩:=hf 1 _ rfl
 obtain⟨v2,n2,y2,e2,t2,_⟩:=hf 2 _ rfl
 obtain⟨v3,n3,y3,e3,t3,_⟩:=hf 3 _ rfl
 obtain⟨v4,n4,y4,e4,t4,_⟩:=hf 4 _ rfl
 obtain⟨a0,r0,_,_⟩:=DataW.trod_int Tryz.underlying3 t0
 obtain⟨a1,r1,_,_⟩:=DataW.trod_int Tryz.underlying3 t1
 obtain⟨a2,r2,_,_⟩:=DataW.trod_int Tryz.underlying3 t2
 obtain⟨a3,r3,_,_⟩:=DataW.trod_int Tryz.underlying3 t3
 obtain⟨a4,r4,_,w4⟩:=DataW.trod_int Tryz.underlying38 t4
 cases r0;cases r1;cases r2;cases r3;cases r4
 refine⟨⟨a0,a1,a2,a3,a4⟩,?_,bounds_u64 w4⟩
 match cs,hl with
 | [w0,w1,w2,w3,w4],_ =>
  simp at e0 e1 e2 e3 e4
  subst e0 e1 e2 e3 e4
  rfl
theorem Cu:gD enc Tryz.prog W Rows.uptoBulk 128 (cn (α:=List Ins)) (fun p n=>iA W dI 5 p.1 p.2∧p.2.length+1≤n∧ ∀ a∈p.2,fq a.n) :=
 gD.slice l7 Tryz.underlying128 (by kernel_rfl) (by decide) (fun _=>rfl) EV (fun _ _ _ _ h=>h)
theorem zL:gD enc Tryz.prog W Rows.uptoBulk 22 (fun p:Value×List (Value×List Ins)=>[p.1]) (fun p n=>iA W cn 1 p.1 p.2∧p.2.length+1≤n∧ ∀ a∈p.2,iA W dI 5 a.1 a.2∧a.2.length+1≤n∧ ∀ b∈a.2,fq b.n) :=
 gD.slice l7 Tryz.underlying22 (by kernel_rfl) (by decide) (fun _=>rfl) Cu (fun _ _ _ hm h=>⟨h.1,Nat.le_trans h.2.1 hm,h.2.2⟩)
theorem uq:gD enc Tryz.prog W Rows.uptoBulk 23 (fun p:Value×List Int=>[p.1]) (fun p n=>iA W aL 1 p.1 p.2∧p.2.length+1≤n∧ ∀ a∈p.2,True) :=
 gD.slice l7 Tryz.underlying23 (by kernel_rfl) (by decide) (fun _=>rfl) (fun fuel cs x h=>by
  obtain⟨n,rfl,_,_⟩:=DataW.trod_int Tryz.underlying3 h
  exact⟨n,rfl,trivial⟩) (fun _ _ _ _ _=>trivial)
theorem EW:gD enc Tryz.prog W Rows.uptoBulk 25 eH (fun v n=>Be W v n):=fun fuel cs x h=>by
 obtain⟨hl,hf⟩:=l6 l7 Tryz.underlying25 (by kernel_rfl) (by
  intro i f hi
  match i,hi with
  | 0,hi=>cases hi;exact⟨rfl,by kernel_rfl⟩
  | 1,hi=>cases hi;exact⟨rfl,by kernel_rfl⟩
  | 2,hi=>cases hi;exact⟨rfl,by kernel_rfl⟩
  | 3,hi=>cases hi;exact⟨rfl,by kernel_rfl⟩
  | 4,hi=>cases hi;exact⟨rfl,by kernel_rfl⟩
  | 5,hi=>cases hi;exact⟨rfl,by kernel_rfl⟩
  | 6,hi=>cases hi;exact⟨rfl,by kernel_rfl⟩
  | 7,hi=>cases hi;exact⟨rfl,by kernel_rfl⟩
  | n+8,hi=>simp at hi) h
 obtain⟨v0,n0,y0,e0,t0,b0⟩:=hf 0 _ rfl
 obtain⟨v1,n1,y1,e1,t1,_⟩:=hf 1 _ rfl
 obtain⟨v2,n2,y2,e2,t2,_⟩:=hf 2 _ rfl
 obtain⟨v3,n3,y3,e3,t3,_⟩:=hf 3 _ rfl
 obtain⟨v4,n4,y4,e4,t4,b4⟩:=hf 4 _ rfl
 obtain⟨v5,n5,y5,e5,t5,b5⟩:=hf 5 _ rfl
 obtain⟨v6,n6,y6,e6,t6,_⟩:=hf 6 _ rfl
 obtain⟨v7,n7,y7,e7,t7,_⟩:=hf 7 _ rfl
 obtain⟨⟨fv,fs⟩,r0,f1,f2,f3⟩:=zL _ _ _ t0
 obtain⟨a1,r1,_,_⟩:=DataW.trod_int Tryz.underlying3 t1
 obtain⟨a2,r2,_,_⟩:=DataW.trod_int Tryz.underlying3 t2
 obtain⟨a3,r3,_,_⟩:=DataW.trod_int Tryz.underlying3 t3
 obtain⟨⟨sv,aU⟩,r4,s1,s2,_⟩:=uq _ _ _ t4
 obtain⟨⟨pv,aG⟩,r5,p1,p2,_⟩:=uq _ _ _ t5
 obtain⟨a6,r6,_,_⟩:=DataW.trod_int Tryz.underlying3 t6
 obtain⟨a7,r7,_,_⟩:=DataW.trod_int Tryz.underlying3 t7
 cases r0;cases r1;cases r2;cases r3;cases r4;cases r5;cases r6;cases r7
 refine⟨⟨fv,fs,a1,a2,a3,sv,aU,pv,aG,a6,a7⟩,?_,⟨f1,fun x hx=>(f3 x hx).1,s1,p1,?_,?_,?_,?_⟩⟩
 ·match cs,hl with
  | [w0,w1,w2,w3,w4,w5,w6,w7],_ =>
   simp at e0 e1 e2 e3 e4 e5 e6 e7
   subst e0 e1 e2 e3 e4 e5 e6 e7
   rfl
 ·exact Nat.le_trans (Nat.le_of_succ_le f2) b0
 ·exact Nat.le_trans (Nat.le_of_succ_le s2) b4
 ·exact Nat.le_trans (Nat.le_of_succ_le p2) b5
 ·intro f hf i hi
  obtain⟨q,hq,rfl⟩:=List.mem_map.1 hf
  exact(f3 q hq).2.2 i hi
theorem Cv:gD enc Tryz.prog W Rows.uptoBulk 67 (fun p:Value×List bN=>[p.1]) (fun p n=>iA W eH 8 p.1 p.2∧p.2.length+1≤n∧ ∀ a∈p.2,Be W a n) :=
 gD.slice l7 Tryz.underlying67 (by kernel_rfl) (by decide) (fun _=>rfl) EW (fun _ _ _ hm h=>⟨h.fs,h.ins,h.aU,h.aG,Nat.le_trans h.fl hm,Nat.le_trans h.sl hm,Nat.le_trans h.pl hm,h.wo⟩)
theorem EX:gD enc Tryz.prog W Rows.uptoBulk 74 tE (fun _ _=>True):=fun fuel cs x h=>by
 obtain⟨hl,hf⟩:=l6 l7 Tryz.underlying74 (by kernel_rfl) (by
  intro i f hi
  match i,hi with
  | 0,hi=>cases hi;exact⟨rfl,by kernel_rfl⟩
  | 1,hi=>cases hi;exact⟨rfl,by kernel_rfl⟩
  | 2,hi=>cases hi;exact⟨rfl,by kernel_rfl⟩
  | 3,hi=>cases hi;exact⟨rfl,by kernel_rfl⟩
  | n+4,hi=>simp at hi) h
 obtain⟨v0,n0,y0,e0,t0,_⟩:=hf 0 _ rfl
 obtain⟨v1,n1,y1,e1,t1,_⟩:=hf 1 _ rfl
 obtain⟨v2,n2,y2,e2,t2,_⟩:=hf 2 _ rfl
 obtain⟨v3,n3,y3,e3,t3,_⟩:=hf 3 _ rfl
 obtain⟨a0,r0,_,_⟩:=DataW.trod_int Tryz.underlying3 t0
 obtain⟨a1,r1,_,_⟩:=DataW.trod_int Tryz.underlying3 t1
 obtain⟨a2,r2,_,_⟩:=DataW.trod_int Tryz.underlying3 t2
 obtain⟨a3,r3,_,_⟩:=DataW.trod_int Tryz.underlying3 t3
 cases r0;cases r1;cases r2;cases r3
 refine⟨⟨a0,a1,a2,a3⟩,?_,trivial⟩
 match cs,hl with
 | [w0,w1,w2,w3],_ =>
  simp at e0 e1 e2 e3
  subst e0 e1 e2 e3
  rfl
theorem Cw:gD enc Tryz.prog W Rows.uptoBulk 68 (fun p:Value×List zK=>[p.1]) (fun p n=>iA W tE 4 p.1 p.2∧p.2.length+1≤n∧ ∀ a∈p.2,True) :=
 gD.slice l7 Tryz.underlying68 (by kernel_rfl) (by decide) (fun _=>rfl) EX (fun _ _ _ _ _=>trivial)
end
theorem own:ownKnob Tryz.prog.godebug=none:=by kernel_rfl
theorem laid:laidOutB Tryz.prog=true:=by kernel_rfl
end Go.Proofs.YtefdijgllbkmfaaGreat
namespace Go.SLYtefdijgllbkmfaaGreat
open Go Go.RowKit
class kK(P:Program)(t:TypeId)(u:outParam TypeDesc):Prop where
 ok:P.underlying t=some u
class ir(P:Program)(t:TypeId)(k:outParam Nat):Prop where
 ok:∀ w,(sizeOf t).run P w = .ok k w
class One(P:Program)(t:TypeId):Prop where
 ok:∀ w,(isAgg t).run P w = .ok false w
class iE(P:Program)(t:TypeId):Prop where
 ok:∀ w,(isAgg t).run P w = .ok true w
class cP(P:Program)(S:TypeId)(f:Nat)(k:outParam Nat):Prop where
 ok:∀ (b o:Nat) (w:World),(Instr.fieldAt S (.pointer (some ⟨b,o,none⟩)) f).run P w = .ok (.pointer (some ⟨b,o+k,none⟩)) w
section
variable{P:Program}{W:World}{N:Nat}{Q:Exit→Act→World→Prop}{L:List (Nat×Option Value)}{H:List aa}{O:Array Oper}{T:TypeId}{K:List aa}{ks:List Nat}
theorem Y.o{S:TypeId}{f k:Nat}[h:cP P S f k]{x:Operand}{b o:Nat}(hx:ev L x=some (.pointer (some ⟨b,o,none⟩))):Y P W N (.fieldAddr S x f) T L H (.pointer (some ⟨b,o+k,none⟩)):=fun dst pos after guard a w ha hs=>by
 simp only[execOp,ha.eval hx]
 exact bJ (h.ok b o w)
theorem Y.f{S:TypeId}{f k:Nat}[h:cP P S f k]{x:Operand}{b:Nat}(hx:ev L x=some (.pointer (some ⟨b,0,none⟩))):Y P W N (.fieldAddr S x f) T L H (.pointer (some ⟨b,k,none⟩)):=by
 have:=Y.o (P:=P) (W:=W) (N:=N) (H:=H) (T:=T) (S:=S) (f:=f) (k:=k) hx
 rwa [Nat.zero_add] at this
theorem Y.z{S:TypeId}{f:Nat}[h:cP P S f 0]{x:Operand}{b o:Nat}(hx:ev L x=some (.pointer (some ⟨b,o,none⟩))):Y P W N (.fieldAddr S x f) T L H (.pointer (some ⟨b,o,none⟩)):=Y.o (k:=0) hx
theorem Y.ld{x:Operand}{b o:Nat}{v:Value}[h:One P T]{T':TypeId}(hx:ev L x=some (.pointer (some ⟨b,o,none⟩)))(hc:Cell W H b o v):Y P W N (.load T x) T' L H v:=Y.load h.ok hx hc
theorem Y.l{x:Operand}{b i:Nat}{v:Value}{cs:List Value}[h:One P T]{T':TypeId}(hx:ev L x=some (.pointer (some ⟨b,i,none⟩)))[hh:aX H b 0 cs](hc:cs[i]?=some v:=by rfl):Y P W N (.load T x) T' L H v:=Y.load h.ok hx (Cell.a hc)
theorem Y.lo{x:Operand}{b o i:Nat}{v:Value}{cs:List Value}[h:One P T]{T':TypeId}(hx:ev L x=some (.pointer (some ⟨b,o+i,none⟩)))[hh:aX H b o cs](hc:cs[i]?=some v:=by rfl):Y P W N (.load T x) T' L H v:=Y.load h.ok hx (Cell.ao hc)
theorem Y.lz{x:Operand}{b o:Nat}{v:Value}{cs:List Value}[h:One P T]{T':TypeId}(hx:ev L x=some (.pointer (some ⟨b,o,none⟩)))[hh:aX H b o cs](hc:cs[0]?=some v:=by rfl):Y P W N (.load T x) T' L H v:=Y.load h.ok hx (Cell.az hc)
theorem Y.lr{α:Type}{enc:α→List Value}{k i:Nat}{v u:Value}{xs:List α}{y:α}{x:Operand}[h:One P T]{T':TypeId}(hx:ev L x=some (.pointer (some ⟨blk v,cC v+i * k,none⟩)))(hy:xs[i]?=some y)[hr:aI W H v enc k xs](hu:(enc y)[0]?=some u:=by rfl):Y P W N (.load T x) T' L H u:=Y.load h.ok hx (Cell.za hr.rd hy hu)
theorem Y.la{x:Operand}{b o k:Nat}{cs:List Value}[h:iE P T][z:ir P T k]{T':TypeId}(hx:ev L x=some (.pointer (some ⟨b,o,none⟩)))(hc:Cells W H b o cs)(hz:cs.length=k:=by rfl):Y P W N (.load T x) T' L H (.agg cs.toArray):=Y.Gl h.ok hx hc (by rw[hz];exact z.ok)
theorem Y.lA{x:Operand}{b o k:Nat}{cs:List Value}[h:iE P T][z:ir P T k]{T':TypeId}(hx:ev L x=some (.pointer (some ⟨b,o,none⟩)))[hh:aX H b o cs](hz:cs.length=k:=by rfl):Y P W N (.load T x) T' L H (.agg cs.toArray):=Y.la hx Cells.a hz
theorem Y.len{α:Type}{enc:α→List Value}{k:Nat}{x:Operand}{t e:TypeId}{v:Value}{xs:List α}[hu:kK P t (.slice e)](hx:ev L x=some v)[h:aI W H v enc k xs]:Y P W N (.call ⟨.builtin .len, #[x], #[t]⟩) T L H (.int .i64 (xs.length:Int)):=Y.DC hu.ok hx h.rd
theorem Y.lens{x:Operand}{t e:TypeId}{p:Option Addr}{n c:Nat}[hu:kK P t (.slice e)](hx:ev L x=some (.slice p n c)):Y P W N (.call ⟨.builtin .len, #[x], #[t]⟩) T L H (.int .i64 n):=Y.xd hu.ok hx
theorem Y.ix{α:Type}{enc:α→List Value}{k:Nat}{x y:Operand}{t e:TypeId}{v:Value}{xs:List α}{kd:IntKind}{j:Int}(i:Nat)[hu:kK P t (.slice e)][hz:ir P e k](hx:ev L x=some v)(hy:ev L y=some (.int kd j))[h:aI W H v enc k xs](hj:j=(i:Int))(hi:i<xs.length):Y P W N (.indexAddr t x y) T L H (.pointer (some ⟨blk v,cC v+i * k,none⟩)):=Y.ig i hu.ok hz.ok hx hy h.rd hj hi
theorem Y.Mq{xT e yT:TypeId}{x y:Operand}{p:Option Addr}[hu:kK P xT (.pointer e)](hx:ev L x=some (.pointer p))(hy:ev L y=some (.pointer none)):Y P W N (.binOp .eql xT x y yT) T L H (.bool p.isNone):=Y.Dw hu.ok hx hy
theorem Y.LL{xT e yT:TypeId}{x y:Operand}{p:Option Addr}[hu:kK P xT (.pointer e)](hx:ev L x=some (.pointer p))(hy:ev L y=some (.pointer none)):Y P W N (.binOp .neq xT x y yT) T L H (.bool (!p.isNone)):=Y.BQ hu.ok hx hy
theorem aQ.p{op:Op}{pos:String}{after:Array Edge}{d:Nat}{rest:List Oper}{v:Value}(hy:Y P W N op T L H v)(k:aQ P W N O Q rest ((d,some v)::L) H)(hN:Nat.blt d N=true:=by rfl):aQ P W N O Q (⟨some d,op,T,pos,after,none⟩::rest) L H:=aQ.y hN hy k
theorem aQ.g{op:Op}{pos:String}{after:Array Edge}{d j t:Nat}{want:Bool}{rest:List Oper}{v:Value}(hy:Y P W N op T L H v)(k:aQ P W N O Q rest ((d,some v)::L) H)(hj:(O[j]?).bind (·.dst)=some t:=by rfl)(ht:look L t=some (.bool want):=by rfl)(hN:Nat.blt d N=true:=by rfl):aQ P W N O Q (⟨some d,op,T,pos,after,some (j,want)⟩::rest) L H:=aQ.yg hj ht hN hy k
theorem aQ.u{op:Op}{pos:String}{after:Array Edge}{d j t:Nat}{want:Bool}{rest:List Oper}{u:Value}(k:aQ P W N O Q rest ((d,some undef)::L) H)(hj:(O[j]?).bind (·.dst)=some t:=by rfl)(ht:look L t=some u:=by rfl)(hb:(boolOf u == some want)=false:=by rfl)(hN:Nat.blt d N=true:=by rfl):aQ P W N O Q (⟨some d,op,T,pos,after,some (j,want)⟩::rest) L H:=aQ.skip hj ht hb hN k
theorem bu.p{op:Op}{pos:String}{after:Array Edge}{d:Nat}{rest:List Oper}{v:Value}(hy:Y P W N op T L H v)(k:bu P W N K O Q ks rest ((d,some v)::L) H)(hN:Nat.blt d N=true:=by rfl):bu P W N K O Q (1::ks) (⟨some d,op,T,pos,after,none⟩::rest) L H:=bu.s hN hy k
theorem bu.q{op:Op}{pos:String}{after:Array Edge}{d:Nat}{rest:List Oper}{v:Value}(hy:Y P W N op T L K v)(k:bu P W N K O Q ks rest ((d,some v)::L) H)(hN:Nat.blt d N=true:=by rfl)(hK:∀ w,Sat W w (seps H)→Sat W w (seps K):=by exact Kept.auto):bu P W N K O Q (0::ks) (⟨some d,op,T,pos,after,none⟩::rest) L H:=bu.k hN hK hy k
theorem bu.g{op:Op}{pos:String}{after:Array Edge}{d j t:Nat}{want:Bool}{rest:List Oper}{v:Value}(hy:Y P W N op T L H v)(k:bu P W N K O Q ks rest ((d,some v)::L) H)(hj:(O[j]?).bind (·.dst)=some t:=by rfl)(ht:look L t=some (.bool want):=by rfl)(hN:Nat.blt d N=true:=by rfl):bu P W N K O Q (1::ks) (⟨some d,op,T,pos,after,some (j,want)⟩::rest) L H:=bu.sg hj ht hN hy k
theorem bu.h{op:Op}{pos:String}{after:Array Edge}{d j t:Nat}{want:Bool}{rest:List Oper}{v:Value}(hy:Y P W N op T L K v)(k:bu P W N K O Q ks rest ((d,some v)::L) H)(hj:(O[j]?).bind (·.dst)=some t:=by rfl)(ht:look L t=some (.bool want):=by rfl)(hN:Nat.blt d N=true:=by rfl)(hK:∀ w,Sat W w (seps H)→Sat W w (seps K):=by exact Kept.auto):bu P W N K O Q (0::ks) (⟨some d,op,T,pos,after,some (j,want)⟩::rest) L H:=bu.kg hj ht hN hK hy k
theorem bu.u{op:Op}{pos:String}{after:Array Edge}{d j t:Nat}{want:Bool}{rest:List Oper}{u:Value}(k:bu P W N K O Q ks rest ((d,some undef)::L) H)(hj:(O[j]?).bind (·.dst)=some t:=by rfl)(ht:look L t=some u:=by rfl)(hb:(boolOf u == some want)=false:=by rfl)(hN:Nat.blt d N=true:=by rfl)(hK:∀ w,Sat W w (seps H)→Sat W w (seps K):=by exact Kept.auto):bu P W N K O Q (0::ks) (⟨some d,op,T,pos,after,some (j,want)⟩::rest) L H:=bu.Km hj ht hb hN hK k
theorem bu.w{op:Op}{pos:String}{after:Array Edge}{d j t:Nat}{want:Bool}{rest:List Oper}{u:Value}(k:bu P W N K O Q ks rest ((d,some undef)::L) H)(hj:(O[j]?).bind (·.dst)=some t:=by rfl)(ht:look L t=some u:=by rfl)(hb:(boolOf u == some want)=false:=by rfl)(hN:Nat.blt d N=true:=by rfl):bu P W N K O Q (1::ks) (⟨some d,op,T,pos,after,some (j,want)⟩::rest) L H:=bu.Kn hj ht hb hN k
end
end Go.SLYtefdijgllbkmfaaGreat
namespace Go.SLYtefdijgllbkmfaaGreat
open Go
def fS:Nat:=9223372036854775808
def fD:Nat:=4503599627370496
def bS:Nat:=9218868437227405312
def gf(r:Nat):Nat:=if r<fD then r else (fD+r % fD) * 2 ^ (r / fD-1)
def cQ(w:Nat):Bool:=w / fS % 2 == 1
def kL(w:Nat):Int:=if cQ w=true then -(gf (w % fS):Int) else (gf (w % fS):Int)
theorem gw:Ieee.double.signWeight=fS∧Ieee.double.binade=fD∧Ieee.double.infRung=bS∧Ieee.double.leastPlace = -1074:=by decide +kernel
theorem jg{w:Nat}(h:w % fS<bS):∃ m p,Ieee.double.read w = .number (cQ w) m p∧ -1074≤p∧m * 2 ^ (p+1074).toNat=gf (w % fS)∧(m=0↔w % fS=0):=by
 obtain⟨c1,c2,c3,c4⟩:=gw
 unfold Ieee.Format.read
 simp only
 rw[c1,c2,c3,c4]
 by_cases h1:w % fS<fD
 ·rw[if_pos h1]
  refine⟨_,_,rfl,by decide,?_,Iff.rfl⟩
  unfold gf
  rw[if_pos h1]
  simp
 ·rw[if_neg h1,if_pos h]
  refine⟨_,_,rfl,by omega,?_,?_⟩
  ·unfold gf
   rw[if_neg h1]
   congr 2
   omega
  ·unfold fD at *;omega
theorem jh{w:Nat}(h:w % fS=bS):Ieee.double.read w = .infinity (cQ w):=by
 obtain⟨c1,c2,c3,c4⟩:=gw
 unfold Ieee.Format.read
 simp only
 rw[c1,c2,c3,c4,if_neg (by rw[h];decide),if_neg (by rw[h];decide),if_pos h];rfl
theorem kq{w:Nat}(h:bS<w % fS):∃ f,Ieee.double.read w = .nan (cQ w) f:=by
 obtain⟨c1,c2,c3,c4⟩:=gw
 unfold Ieee.Format.read
 simp only
 rw[c1,c2,c3,c4,if_neg (by unfold bS fD at *;omega),if_neg (by omega),if_neg (by omega)]
 exact⟨_,rfl⟩
theorem iu{r s:Nat}(h:r<s):gf r<gf s:=by
 have hD:0<fD:=by decide
 unfold gf
 by_cases h1:s<fD
 ·rw[if_pos (by omega),if_pos h1];exact h
 ·rw[if_neg h1]
  have hs1:1≤s / fD:=by
   rw[Nat.le_div_iff_mul_le hD];omega
  by_cases h2:r<fD
  ·rw[if_pos h2]
   have:fD * 1≤(fD+s % fD) * 2 ^ (s / fD-1):=Nat.mul_le_mul (Nat.le_add_right ..) (Nat.one_le_two_pow)
   omega
  ·rw[if_neg h2]
   have hr1:1≤r / fD:=by
    rw[Nat.le_div_iff_mul_le hD];omega
   have hle:r / fD≤s / fD:=Nat.div_le_div_right (Nat.le_of_lt h)
   have er:=Nat.div_add_mod r fD
   have es:=Nat.div_add_mod s fD
   have hrm:=Nat.mod_lt r hD
   by_cases e:r / fD=s / fD
   ·rw[e] at er ⊢
    exact Nat.mul_lt_mul_of_pos_right (by omega) (Nat.two_pow_pos _)
   ·have hlt:r / fD-1+1≤s / fD-1:=by omega
    have p1:2 ^ (r / fD-1+1)≤2 ^ (s / fD-1):=Nat.pow_le_pow_right (by decide) hlt
    rw[Nat.pow_succ] at p1
    calc (fD+r % fD) * 2 ^ (r / fD-1)<(fD+fD) * 2 ^ (r / fD-1):=Nat.mul_lt_mul_of_pos_right (by omega) (Nat.two_pow_pos _)
     _=fD * (2 ^ (r / fD-1) * 2):=by rw[← Nat.two_mul,Nat.mul_comm 2 fD,Nat.mul_assoc,Nat.mul_comm 2]
     _≤fD * 2 ^ (s / fD-1):=Nat.mul_le_mul_left _ p1
     _≤(fD+s % fD) * 2 ^ (s / fD-1):=Nat.mul_le_mul_right _ (Nat.le_add_right ..)
theorem val_inj{r s:Nat}:gf r=gf s↔r=s:=by
 constructor
 ·intro h
  rcases Nat.lt_trichotomy r s with g | g | g
  ·have:=iu g;omega
  ·exact g
  ·have:=iu g;omega
 ·intro h;rw[h]
theorem wv{r s:Nat}:gf r<gf s↔r<s:=by
 constructor
 ·intro h
  rcases Nat.lt_trichotomy r s with g | g | g
  ·exact g
  ·rw[g] at h;omega
  ·have:=iu g;omega
 ·exact iu
theorem val_zero:gf 0=0:=rfl
theorem zM(s:Bool)(m u k:Nat):Ieee.signed s m u * (2 ^ k:Nat)=if s=true then -((m * 2 ^ (u+k):Nat):Int) else ((m * 2 ^ (u+k):Nat):Int):=by
 unfold Ieee.signed
 rw[Nat.shiftLeft_eq,Nat.pow_add, ← Nat.mul_assoc]
 cases s
 ·simp
 ·simp[Int.neg_mul]
theorem Cx{x y:Int}{k:Nat}(hk:0<k):compare x y=compare (x * (k:Int)) (y * (k:Int)):=by
 have hk2:(0:Int)<(k:Int):=by omega
 show compareOfLessAndEq x y=compareOfLessAndEq _ _
 unfold compareOfLessAndEq
 by_cases h1:x<y
 ·rw[if_pos h1,if_pos (Int.mul_lt_mul_of_pos_right h1 hk2)]
 ·rw[if_neg h1,if_neg (fun h=>h1 (Int.lt_of_mul_lt_mul_right h (Int.le_of_lt hk2)))]
  by_cases h2:x=y
  ·rw[if_pos h2,if_pos (by rw[h2])]
  ·rw[if_neg h2,if_neg (fun h=>h2 (Int.eq_of_mul_eq_mul_right (by omega) h))]
theorem EY{w:Nat}{m:Nat}{p:Int}(h2:m * 2 ^ (p+1074).toNat=gf (w % fS)){b:Int}(hb : -1074≤b)(hp:b≤p):Ieee.signed (cQ w) m (p-b).toNat * ((2 ^ (b+1074).toNat:Nat):Int)=kL w:=by
 rw[zM,show(p-b).toNat+(b+1074).toNat=(p+1074).toNat by omega,h2];rfl
theorem oK{a b:Nat}(ha:¬bS<a % fS)(hb:¬bS<b % fS):Ieee.double.order a b=some (compare (kL a) (kL b)):=by
 have hI:∀ {w:Nat},w % fS=bS→kL w=if cQ w=true then -(gf bS:Int) else (gf bS:Int):=fun h=>by unfold kL;rw[h]
 have cl:∀ {x y:Int},x<y→compare x y = .lt:=fun h=>by show compareOfLessAndEq _ _=_;unfold compareOfLessAndEq;rw[if_pos h]
 have cg:∀ {x y:Int},y<x→compare x y = .gt:=fun h=>by show compareOfLessAndEq _ _=_;unfold compareOfLessAndEq;rw[if_neg (by omega),if_neg (by omega)]
 have ce:∀ {x:Int},compare x x = .eq:=fun {x}=>by show compareOfLessAndEq _ _=_;unfold compareOfLessAndEq;rw[if_neg (Int.lt_irrefl _),if_pos rfl]
 have bd:∀ {w:Nat},w % fS<bS→ -(gf bS:Int)<kL w∧kL w<(gf bS:Int):=fun {w} h=>by
  have:=iu h
  unfold kL
  split <;> omega
 have hp:0<gf bS:=by have:=iu (show 0<bS by decide);rw[val_zero] at this;exact this
 unfold Ieee.Format.order
 by_cases h1:a % fS=bS
 ·rw[jh h1,hI h1]
  by_cases h2:b % fS=bS
  ·rw[jh h2,hI h2]
   cases cQ a <;> cases cQ b
   ·rw[if_neg (by decide),ce];rfl
   ·rw[if_neg (by decide),if_pos rfl,cg (by omega)];rfl
   ·rw[if_pos rfl,if_neg (by decide),cl (by omega)];rfl
   ·rw[if_pos rfl,ce];rfl
  ·obtain⟨n,j,e2, -, -, -⟩:=jg (w:=b) (by omega)
   have:=bd (w:=b) (by omega)
   rw[e2]
   cases cQ a
   ·rw[if_neg (by decide),cg this.2];rfl
   ·rw[if_pos rfl,cl this.1];rfl
 ·obtain⟨m,i,e1,i1,i2, -⟩:=jg (w:=a) (by omega)
  rw[e1]
  by_cases h2:b % fS=bS
  ·have:=bd (w:=a) (by omega)
   rw[jh h2,hI h2]
   cases cQ b
   ·rw[if_neg (by decide),cl this.2];rfl
   ·rw[if_pos rfl,cg this.1];rfl
  ·obtain⟨n,j,e2,j1,j2, -⟩:=jg (w:=b) (by omega)
   rw[e2]
   show some (compare (Ieee.signed (cQ a) m (i-min i j).toNat) (Ieee.signed (cQ b) n (j-min i j).toNat))=_
   rw[Cx (k:=2 ^ (min i j+1074).toNat) (Nat.two_pow_pos _),EY i2 (by omega) (by omega),EY j2 (by omega) (by omega)]
theorem sF{a b:Nat}(ha:bS<a % fS):Ieee.double.order a b=none:=by
 obtain⟨f,e⟩:=kq ha
 unfold Ieee.Format.order
 rw[e];rfl
theorem zN{a b:Nat}(hb:bS<b % fS):Ieee.double.order a b=none:=by
 obtain⟨f,e⟩:=kq hb
 unfold Ieee.Format.order
 rw[e]
 cases Ieee.double.read a <;> rfl
/-! the words of the model -/
theorem kr(a:Int):mR a=decide (bS<a.toNat % fS):=by
 unfold mR LD
 by_cases h:bS<a.toNat % fS
 ·rw[sF h,decide_eq_true h];rfl
 ·rw[oK h h,decide_eq_false h]
  have:compare (kL a.toNat) (kL a.toNat) = .eq:=by show compareOfLessAndEq _ _=_;unfold compareOfLessAndEq;rw[if_neg (Int.lt_irrefl _),if_pos rfl]
  rw[this];rfl
theorem GX{a b:Int}(ha:¬bS<a.toNat % fS)(hb:¬bS<b.toNat % fS):D5 a b=decide (kL a.toNat<kL b.toNat):=by
 unfold D5
 rw[oK ha hb]
 show(some (compareOfLessAndEq _ _) == some Ordering.lt)=_
 unfold compareOfLessAndEq
 by_cases h:kL a.toNat<kL b.toNat
 ·rw[if_pos h,decide_eq_true h];rfl
 ·rw[if_neg h,decide_eq_false h]
  split <;> rfl
/-! the reference's words -/
def bH(a:Int):Int:=if a.toNat % fS=0 then 1 else if a.toNat % fS=bS then 2 else if bS<a.toNat % fS then 3 else 0
def gb(a:Int):Int:=if cQ a.toNat=true then -((a.toNat % fS:Nat):Int)-1 else a
theorem ku(a:Int):bH a=3↔bS<a.toNat % fS:=by
 unfold bH
 by_cases h1:a.toNat % fS=0
 ·rw[if_pos h1,h1];exact⟨fun h=>absurd h (by decide),fun h=>absurd h (by decide)⟩
 ·rw[if_neg h1]
  by_cases h2:a.toNat % fS=bS
  ·rw[if_pos h2,h2];exact⟨fun h=>absurd h (by decide),fun h=>absurd h (Nat.lt_irrefl _)⟩
  ·rw[if_neg h2]
   by_cases h3:bS<a.toNat % fS
   ·rw[if_pos h3];exact⟨fun _=>h3,fun _=>rfl⟩
   ·rw[if_neg h3];exact⟨fun h=>absurd h (by decide),fun h=>absurd h h3⟩
theorem Bf(a:Int):bH a=1↔a.toNat % fS=0:=by
 unfold bH
 by_cases h1:a.toNat % fS=0
 ·rw[if_pos h1];exact⟨fun _=>h1,fun _=>rfl⟩
 ·rw[if_neg h1]
  by_cases h2:a.toNat % fS=bS
  ·rw[if_pos h2];exact⟨fun h=>absurd h (by decide),fun h=>absurd h h1⟩
  ·rw[if_neg h2]
   by_cases h3:bS<a.toNat % fS
   ·rw[if_pos h3];exact⟨fun h=>absurd h (by decide),fun h=>absurd h h1⟩
   ·rw[if_neg h3];exact⟨fun h=>absurd h (by decide),fun h=>absurd h h1⟩
theorem iK{a:Int}(ha:0≤a∧a<18446744073709551616):cQ a.toNat=decide (9223372036854775808≤a):=by
 unfold cQ fS
 by_cases h:9223372036854775808≤a
 ·rw[decide_eq_true h]
  have:a.toNat / 9223372036854775808 % 2=1:=by omega
  rw[this];rfl
 ·rw[decide_eq_false h]
  have:a.toNat / 9223372036854775808 % 2=0:=by omega
  rw[this];rfl
theorem wx{a b:Int}(ha:0≤a∧a<18446744073709551616)(hb:0≤b∧b<18446744073709551616)(h:¬(a.toNat % fS=0∧b.toNat % fS=0)):(gb a<gb b)↔kL a.toNat<kL b.toNat:=by
 unfold gb kL
 have na:=iK ha
 have nb:=iK hb
 have v0:gf (a.toNat % fS)=0↔a.toNat % fS=0:=⟨fun e=>val_inj.1 (e.trans val_zero.symm),fun e=>by rw[e];rfl⟩
 have w0:gf (b.toNat % fS)=0↔b.toNat % fS=0:=⟨fun e=>val_inj.1 (e.trans val_zero.symm),fun e=>by rw[e];rfl⟩
 have hl:=wv (r:=a.toNat % fS) (s:=b.toNat % fS)
 have hg:=wv (r:=b.toNat % fS) (s:=a.toNat % fS)
 by_cases ca:9223372036854775808≤a
 ·have ta:cQ a.toNat=true:=na.trans (decide_eq_true ca)
  rw[if_pos ta,if_pos ta]
  by_cases cb:9223372036854775808≤b
  ·have tb:cQ b.toNat=true:=nb.trans (decide_eq_true cb)
   rw[if_pos tb,if_pos tb]
   constructor
   ·intro x;have:=hg.2 (by omega);omega
   ·intro x;have:=hg.1 (by omega);omega
  ·have tb:¬cQ b.toNat=true:=by rw[nb,decide_eq_false cb];decide
   rw[if_neg tb,if_neg tb]
   constructor
   ·intro _
    by_cases e:gf (a.toNat % fS)=0
    ·have:¬gf (b.toNat % fS)=0:=fun e2=>h ⟨v0.1 e,w0.1 e2⟩
     omega
    ·omega
   ·intro _;omega
 ·have ta:¬cQ a.toNat=true:=by rw[na,decide_eq_false ca];decide
  rw[if_neg ta,if_neg ta]
  have ea:a.toNat % fS=a.toNat:=Nat.mod_eq_of_lt (by unfold fS;omega)
  by_cases cb:9223372036854775808≤b
  ·have tb:cQ b.toNat=true:=nb.trans (decide_eq_true cb)
   rw[if_pos tb,if_pos tb]
   constructor
   ·intro x;omega
   ·intro x;omega
  ·have tb:¬cQ b.toNat=true:=by rw[nb,decide_eq_false cb];decide
   rw[if_neg tb,if_neg tb]
   have eb:b.toNat % fS=b.toNat:=Nat.mod_eq_of_lt (by unfold fS;omega)
   rw[ea,eb] at hl
   rw[ea,eb]
   constructor
   ·intro x;have:=hl.2 (by omega);omega
   ·intro x;have:=hl.1 (by omega);omega
def qE(a b:Int):Bool:=if bH a=3∨bH b=3∨(bH a=1∧bH b=1) then false else decide (gb a<gb b)
theorem kv{a b:Int}(ha:0≤a∧a<18446744073709551616)(hb:0≤b∧b<18446744073709551616):qE a b=D5 a b:=by
 have hiff:(bH a=3∨bH b=3∨(bH a=1∧bH b=1))↔(bS<a.toNat % fS∨bS<b.toNat % fS∨(a.toNat % fS=0∧b.toNat % fS=0)):=by rw[ku,ku,Bf,Bf]
 have hl:qE a b=if bS<a.toNat % fS∨bS<b.toNat % fS∨(a.toNat % fS=0∧b.toNat % fS=0) then false else decide (gb a<gb b):=by
  unfold qE
  by_cases h:bH a=3∨bH b=3∨(bH a=1∧bH b=1)
  ·rw[if_pos h,if_pos (hiff.1 h)]
  ·rw[if_neg h,if_neg (fun x=>h (hiff.2 x))]
 rw[hl]
 by_cases h1:bS<a.toNat % fS
 ·rw[if_pos (.inl h1)];unfold D5;rw[sF h1];rfl
 ·by_cases h2:bS<b.toNat % fS
  ·rw[if_pos (.inr (.inl h2))];unfold D5;rw[zN h2];rfl
  ·rw[GX h1 h2]
   by_cases h3:a.toNat % fS=0∧b.toNat % fS=0
   ·rw[if_pos (.inr (.inr h3))]
    refine(decide_eq_false ?_).symm
    unfold kL
    rw[h3.1,h3.2,val_zero]
    split <;> split <;> omega
   ·rw[if_neg (fun x=>x.elim h1 (fun x=>x.elim h2 h3))]
    exact decide_eq_decide.2 (wx ha hb h3)
end Go.SLYtefdijgllbkmfaaGreat
namespace Go.SLYtefdijgllbkmfaaGreat
open Go
theorem gn(w:Nat):Go.FloatKind.f64.decode w=Ieee.double.read w:=rfl
theorem jJ(w:Nat):(Ieee.double.read w).isZero=decide (w % fS=0):=by
 by_cases h1:w % fS<bS
 ·obtain⟨m,p,e, -, -,hz⟩:=jg h1
  rw[e]
  by_cases h0:w % fS=0
  ·rw[decide_eq_true h0,hz.2 h0];rfl
  ·rw[decide_eq_false h0]
   cases m with
   | zero=>exact absurd (hz.1 rfl) h0
   | succ m=>rfl
 ·have h0:¬w % fS=0:=fun e=>by rw[e] at h1;exact h1 (by decide)
  rw[decide_eq_false h0]
  by_cases h2:w % fS=bS
  ·rw[jh h2];rfl
  ·obtain⟨f,e⟩:=kq (w:=w) (by omega)
   rw[e];rfl
theorem EZ(w:Nat):(Ieee.double.read w).neg=cQ w:=by
 by_cases h1:w % fS<bS
 ·obtain⟨m,p,e, -, -, -⟩:=jg h1
  rw[e];rfl
 ·by_cases h2:w % fS=bS
  ·rw[jh h2];rfl
  ·obtain⟨f,e⟩:=kq (w:=w) (by omega)
   rw[e];rfl
theorem mE(w:Nat):(Ieee.double.read w).isNaN=decide (bS<w % fS):=by
 by_cases h1:w % fS<bS
 ·obtain⟨m,p,e, -, -, -⟩:=jg h1
  rw[e,decide_eq_false (by omega)];rfl
 ·by_cases h2:w % fS=bS
  ·rw[jh h2,decide_eq_false (by omega)];rfl
  ·obtain⟨f,e⟩:=kq (w:=w) (by omega)
   rw[e,decide_eq_true (by omega)];rfl
theorem iQ(w:Nat)(n:Bool):(Ieee.double.read w == .infinity n)=decide (w % fS=bS∧cQ w=n):=by
 by_cases h1:w % fS<bS
 ·obtain⟨m,p,e, -, -, -⟩:=jg h1
  rw[e,decide_eq_false (fun h=>by omega)];rfl
 ·by_cases h2:w % fS=bS
  ·rw[jh h2]
   by_cases h3:cQ w=n
   ·rw[decide_eq_true ⟨h2,h3⟩,h3];simp
   ·rw[decide_eq_false (fun h=>h3 h.2)]
    simp[h3]
  ·obtain⟨f,e⟩:=kq (w:=w) (by omega)
   rw[e,decide_eq_false (fun h=>h2 h.1)];rfl
theorem GY(n:Bool):Go.FloatKind.f64.encode (.infinity n)=(if n=true then fS else 0)+bS:=by
 cases n <;> decide +kernel
theorem zO{a b:Nat}:(Ieee.double.read a).order (Ieee.double.read b)=Ieee.double.order a b:=rfl
theorem l9{a:Int}(h:¬bS<a.toNat % fS):fA a=a:=by unfold fA;rw[kr,decide_eq_false h,if_neg (by decide)]
def Cy(a b:Int):Int:=if bH a=3∨bH b=3 then mW else if gb a<gb b then a else b
def Cz(a b:Int):Int:=if bH a=3∨bH b=3 then mW else if gb b<gb a then a else b
theorem wy{a b:Int}:((mR a || mR b)=true)↔(bH a=3∨bH b=3):=by
 rw[Bool.or_eq_true,kr,kr,decide_eq_true_eq,decide_eq_true_eq,ku,ku]
theorem oL{a:Int}(h:0≤a):((a.toNat:Nat):Int)=a:=Int.toNat_of_nonneg h
theorem eT{a:Int}(ha:0≤a∧a<18446744073709551616)(h:¬ 9223372036854775808≤a):gb a=a∧a.toNat % fS=a.toNat∧cQ a.toNat=false:=by
 have na:=iK ha
 rw[decide_eq_false h] at na
 exact⟨by unfold gb;rw[if_neg (by rw[na];decide)],Nat.mod_eq_of_lt (by unfold fS;omega),na⟩
theorem eU{a:Int}(ha:0≤a∧a<18446744073709551616)(h:9223372036854775808≤a):gb a=9223372036854775807-a∧a.toNat % fS=a.toNat-9223372036854775808∧cQ a.toNat=true:=by
 have na:=iK ha
 rw[decide_eq_true h] at na
 have e:a.toNat % fS=a.toNat-9223372036854775808:=by unfold fS;omega
 refine⟨?_,e,na⟩
 unfold gb
 rw[if_pos na,e]
 omega
theorem Bg{x y:Nat}{neg:Bool}{win:Ordering}(hx:¬bS<x % fS)(hy:¬bS<y % fS)(h1:¬(x % fS=bS∧cQ x=neg))(h2:¬(y % fS=bS∧cQ y=neg))(h3:¬(x % fS=0∧y % fS=0)):eD neg win x y=if compare (kL x) (kL y)=win then x else y:=by
 unfold eD
 simp only
 rw[gn,gn,iQ,iQ,decide_eq_false h1,decide_eq_false h2,if_neg (by decide),mE,mE,decide_eq_false hx,decide_eq_false hy,if_neg (by decide),jJ,jJ,zO,oK hx hy]
 rw[if_neg (by rw[Bool.and_eq_true,decide_eq_true_eq,decide_eq_true_eq];exact h3)]
 by_cases c:compare (kL x) (kL y)=win
 ·rw[if_pos c,if_pos (by rw[c];simp)]
 ·rw[if_neg c,if_neg (by simp[c])]
theorem ur{x y:Nat}{neg:Bool}{win:Ordering}(hx:x % fS=0)(hy:y % fS=0):eD neg win x y=if cQ x=neg then x else y:=by
 have z:¬(0=bS):=by decide
 unfold eD
 simp only
 rw[gn,gn,iQ,iQ,decide_eq_false (fun h=>z (hx.symm.trans h.1)),decide_eq_false (fun h=>z (hy.symm.trans h.1)),if_neg (by decide),mE,mE,hx,hy,if_neg (by decide),jJ,jJ,hx,hy,if_pos (by decide),EZ]
 by_cases c:cQ x=neg
 ·rw[if_pos c,if_pos (by rw[c];simp)]
 ·rw[if_neg c,if_neg (by simp[c])]
theorem xX{x y:Nat}{neg:Bool}{win:Ordering}(h:(x % fS=bS∧cQ x=neg)∨(y % fS=bS∧cQ y=neg)):eD neg win x y=(if neg=true then fS else 0)+bS:=by
 unfold eD
 simp only
 rw[gn,gn,iQ,iQ,if_pos,GY]
 rw[Bool.or_eq_true,decide_eq_true_eq,decide_eq_true_eq];exact h
theorem wz{x y:Int}:compare x y = .lt↔x<y:=by
 show compareOfLessAndEq _ _=_↔_
 unfold compareOfLessAndEq
 by_cases h:x<y
 ·rw[if_pos h];exact⟨fun _=>h,fun _=>rfl⟩
 ·rw[if_neg h]
  refine⟨fun e=>?_,fun e=>absurd e h⟩
  split at e <;> cases e
theorem Bh{x y:Int}:compare x y = .gt↔y<x:=by
 show compareOfLessAndEq _ _=_↔_
 unfold compareOfLessAndEq
 by_cases h:x<y
 ·rw[if_pos h];exact⟨fun e=>absurd e (by decide),fun e=>by omega⟩
 ·rw[if_neg h]
  by_cases h2:x=y
  ·rw[if_pos h2];exact⟨fun e=>absurd e (by decide),fun e=>by omega⟩
  ·rw[if_neg h2];exact⟨fun _=>by omega,fun _=>rfl⟩
theorem oM{a b:Int}(ha:0≤a∧a<18446744073709551616)(hb:0≤b∧b<18446744073709551616):Cy a b=n8 a b:=by
 unfold Cy n8
 by_cases hn:bH a=3∨bH b=3
 ·rw[if_pos hn,if_pos (wy.2 hn)]
 ·rw[if_neg hn,if_neg (fun h=>hn (wy.1 h))]
  have h1:¬bS<a.toNat % fS:=fun h=>hn (.inl ((ku a).2 h))
  have h2:¬bS<b.toNat % fS:=fun h=>hn (.inr ((ku b).2 h))
  have hr:((eD true .lt a.toNat b.toNat:Nat):Int)=if gb a<gb b then a else b:=by
   by_cases hz:a.toNat % fS=0∧b.toNat % fS=0
   ·rw[ur hz.1 hz.2]
    by_cases ca:9223372036854775808≤a
    ·obtain⟨r1,r2,r3⟩:=eU ha ca
     rw[if_pos r3,r1]
     by_cases cb:9223372036854775808≤b
     ·obtain⟨s1,s2,s3⟩:=eU hb cb
      rw[s1]
      have:=hz.1;have:=hz.2
      split <;> omega
     ·obtain⟨s1,s2,s3⟩:=eT hb cb
      rw[s1,if_pos (by omega)];omega
    ·obtain⟨r1,r2,r3⟩:=eT ha ca
     rw[if_neg (by rw[r3];decide),r1]
     by_cases cb:9223372036854775808≤b
     ·obtain⟨s1,s2,s3⟩:=eU hb cb
      rw[s1,if_neg (by omega)];omega
     ·obtain⟨s1,s2,s3⟩:=eT hb cb
      rw[s1]
      have:=hz.1;have:=hz.2
      split <;> omega
   ·by_cases hi:(a.toNat % fS=bS∧cQ a.toNat=true)∨(b.toNat % fS=bS∧cQ b.toNat=true)
    ·rw[xX hi,if_pos rfl]
     unfold bS fS at *
     rcases hi with ⟨i1,i2⟩ | ⟨i1,i2⟩
     ·rw[iK ha,decide_eq_true_eq] at i2
      obtain⟨r1,r2,r3⟩:=eU ha i2
      unfold fS at r2
      rw[r1]
      by_cases cb:9223372036854775808≤b
      ·obtain⟨s1,s2,s3⟩:=eU hb cb
       unfold fS at s2
       rw[s1]
       split <;> omega
      ·obtain⟨s1,s2,s3⟩:=eT hb cb
       unfold fS at s2
       rw[s1,if_pos (by omega)];omega
     ·rw[iK hb,decide_eq_true_eq] at i2
      obtain⟨s1,s2,s3⟩:=eU hb i2
      unfold fS at s2
      rw[s1]
      by_cases ca:9223372036854775808≤a
      ·obtain⟨r1,r2,r3⟩:=eU ha ca
       unfold fS at r2
       rw[r1]
       split <;> omega
      ·obtain⟨r1,r2,r3⟩:=eT ha ca
       unfold fS at r2
       rw[r1,if_neg (by omega)];omega
    ·rw[Bg h1 h2 (fun h=>hi (.inl h)) (fun h=>hi (.inr h)) hz]
     have hk:=wx ha hb hz
     by_cases c:kL a.toNat<kL b.toNat
     ·rw[if_pos (wz.2 c),if_pos (hk.2 c)];exact oL ha.1
     ·rw[if_neg (fun e=>c (wz.1 e)),if_neg (fun e=>c (hk.1 e))];exact oL hb.1
  rw[hr,l9]
  split
  ·exact h1
  ·exact h2
theorem oN{a b:Int}(ha:0≤a∧a<18446744073709551616)(hb:0≤b∧b<18446744073709551616):Cz a b=n9 a b:=by
 unfold Cz n9
 by_cases hn:bH a=3∨bH b=3
 ·rw[if_pos hn,if_pos (wy.2 hn)]
 ·rw[if_neg hn,if_neg (fun h=>hn (wy.1 h))]
  have h1:¬bS<a.toNat % fS:=fun h=>hn (.inl ((ku a).2 h))
  have h2:¬bS<b.toNat % fS:=fun h=>hn (.inr ((ku b).2 h))
  have hr:((eD false .gt a.toNat b.toNat:Nat):Int)=if gb b<gb a then a else b:=by
   by_cases hz:a.toNat % fS=0∧b.toNat % fS=0
   ·rw[ur hz.1 hz.2]
    by_cases ca:9223372036854775808≤a
    ·obtain⟨r1,r2,r3⟩:=eU ha ca
     rw[if_neg (by rw[r3];decide),r1]
     by_cases cb:9223372036854775808≤b
     ·obtain⟨s1,s2,s3⟩:=eU hb cb
      rw[s1]
      have:=hz.1;have:=hz.2
      split <;> omega
     ·obtain⟨s1,s2,s3⟩:=eT hb cb
      rw[s1,if_neg (by omega)];omega
    ·obtain⟨r1,r2,r3⟩:=eT ha ca
     rw[if_pos r3,r1]
     by_cases cb:9223372036854775808≤b
     ·obtain⟨s1,s2,s3⟩:=eU hb cb
      rw[s1,if_pos (by omega)];omega
     ·obtain⟨s1,s2,s3⟩:=eT hb cb
      rw[s1]
      have:=hz.1;have:=hz.2
      split <;> omega
   ·by_cases hi:(a.toNat % fS=bS∧cQ a.toNat=false)∨(b.toNat % fS=bS∧cQ b.toNat=false)
    ·rw[xX hi,if_neg (by decide)]
     unfold bS fS at *
     rcases hi with ⟨i1,i2⟩ | ⟨i1,i2⟩
     ·rw[iK ha,decide_eq_false_iff_not] at i2
      obtain⟨r1,r2,r3⟩:=eT ha i2
      unfold fS at r2
      rw[r1]
      by_cases cb:9223372036854775808≤b
      ·obtain⟨s1,s2,s3⟩:=eU hb cb
       unfold fS at s2
       rw[s1,if_pos (by omega)];omega
      ·obtain⟨s1,s2,s3⟩:=eT hb cb
       unfold fS at s2
       rw[s1]
       split <;> omega
     ·rw[iK hb,decide_eq_false_iff_not] at i2
      obtain⟨s1,s2,s3⟩:=eT hb i2
      unfold fS at s2
      rw[s1]
      by_cases ca:9223372036854775808≤a
      ·obtain⟨r1,r2,r3⟩:=eU ha ca
       unfold fS at r2
       rw[r1,if_neg (by omega)];omega
      ·obtain⟨r1,r2,r3⟩:=eT ha ca
       unfold fS at r2
       rw[r1]
       split <;> omega
    ·rw[Bg h1 h2 (fun h=>hi (.inl h)) (fun h=>hi (.inr h)) hz]
     have hk:=wx hb ha (fun h=>hz ⟨h.2,h.1⟩)
     by_cases c:kL b.toNat<kL a.toNat
     ·rw[if_pos (Bh.2 c),if_pos (hk.2 c)];exact oL ha.1
     ·rw[if_neg (fun e=>c (Bh.1 e)),if_neg (fun e=>c (hk.1 e))];exact oL hb.1
  rw[hr,l9]
  split
  ·exact h1
  ·exact h2
end Go.SLYtefdijgllbkmfaaGreat
namespace Go.SLYtefdijgllbkmfaaGreat
open Go
def fQ(a:Int):Int:=((a.toNat % fS / fD:Nat):Int)-1023
def gZ(a:Int):Nat:=fD+a.toNat % fD
def gx(a:Int):Nat:=if 52<fQ a then gZ a * 2 ^ (fQ a-52).toNat else gZ a / 2 ^ (52-fQ a).toNat
def nu(a:Int):Int :=
 if bH a=3∨bH a=1 then 0 else if fQ a<0 then 0 else
 if 63≤fQ a then (if cQ a.toNat=true then 9223372036854775808 else 9223372036854775807) else
 if cQ a.toNat=true then gU (-(gx a:Int)) else (gx a:Int)
theorem CA(s:Bool)(n drop:Nat):Ieee.Toward.zero.cut s n drop=n / 2 ^ drop:=by
 unfold Ieee.Toward.cut
 simp only[Bool.toNat_false,Nat.add_zero]
 rw[Nat.one_shiftLeft]
 by_cases h:drop≤n.log2+2
 ·rw[Nat.min_eq_left h]
 ·rw[Nat.min_eq_right (by omega)]
  have h1:n<2 ^ (n.log2+2):=Nat.lt_of_lt_of_le Nat.lt_log2_self (Nat.pow_le_pow_right (by decide) (by omega))
  have h2:n<2 ^ drop:=Nat.lt_of_lt_of_le h1 (Nat.pow_le_pow_right (by decide) (by omega))
  rw[Nat.div_eq_of_lt h1,Nat.div_eq_of_lt h2]
theorem kx(s:Bool)(m:Nat)(p:Int):(Ieee.Datum.number s m p).toInt .zero=some (if s=true then -((m * 2 ^ p.toNat / 2 ^ (-p).toNat:Nat):Int) else ((m * 2 ^ p.toNat / 2 ^ (-p).toNat:Nat):Int)):=by
 unfold Ieee.Datum.toInt Ieee.Datum.integral
 simp only
 rw[CA,Nat.shiftLeft_eq]
 unfold Ieee.signed
 rw[Nat.shiftLeft_eq,Nat.pow_zero,Nat.mul_one]
theorem pX{w:Nat}(h1:¬w % fS<fD)(h2:w % fS<bS):Ieee.double.read w = .number (cQ w) (fD+w % fS % fD) (((w % fS / fD:Nat):Int)-1075):=by
 obtain⟨c1,c2,c3,c4⟩:=gw
 unfold Ieee.Format.read
 simp only
 rw[c1,c2,c3,c4,if_neg h1,if_pos h2]
 have:1≤w % fS / fD:=by rw[Nat.le_div_iff_mul_le (by decide)];omega
 rw[show(-1074:Int)+((w % fS / fD-1:Nat):Int)=((w % fS / fD:Nat):Int)-1075 by omega];rfl
theorem xY{w:Nat}(h1:w % fS<fD):Ieee.double.read w = .number (cQ w) (w % fS) (-1074):=by
 obtain⟨c1,c2,c3,c4⟩:=gw
 unfold Ieee.Format.read
 simp only
 rw[c1,c2,c3,c4,if_pos h1];rfl
theorem wA:kL oa=(gf (1086 * fD):Int)∧kL ob = -(gf (1086 * fD):Int)∧oa % fS=1086 * fD∧ob % fS=1086 * fD:=by
 have e1:oa % fS=1086 * fD:=by decide
 have e2:ob % fS=1086 * fD:=by decide
 refine⟨?_,?_,e1,e2⟩
 ·unfold kL;rw[e1,if_neg (by decide)]
 ·unfold kL;rw[e2,if_pos (by decide)]
theorem uu{a:Int}{f:Nat}(h:¬bS<a.toNat % fS)(hf:f % fS=1086 * fD):Ieee.double.order a.toNat f=some (compare (kL a.toNat) (kL f)):=oK h (by rw[hf];decide)
theorem sG{a:Int}(h:¬bS<a.toNat % fS):((Ieee.double.order a.toNat oa == some .gt || Ieee.double.order a.toNat oa == some .eq)=true)↔(cQ a.toNat=false∧1086 * fD≤a.toNat % fS):=by
 rw[uu h wA.2.2.1,wA.1]
 have hp:0<gf (1086 * fD):=by have:=iu (show 0<1086 * fD by decide);rw[val_zero] at this;exact this
 have hc:(((some (compare (kL a.toNat) (gf (1086 * fD):Int)) == some Ordering.gt) || (some (compare (kL a.toNat) (gf (1086 * fD):Int)) == some Ordering.eq))=true)↔(gf (1086 * fD):Int)≤kL a.toNat:=by
  show((some (compareOfLessAndEq _ _) == some Ordering.gt || some (compareOfLessAndEq _ _) == some Ordering.eq)=true)↔_
  unfold compareOfLessAndEq
  by_cases c:kL a.toNat<(gf (1086 * fD):Int)
  ·rw[if_pos c];exact⟨fun e=>absurd e (by decide),fun e=>by omega⟩
  ·rw[if_neg c]
   refine⟨fun _=>by omega,fun _=>?_⟩
   split <;> rfl
 rw[hc]
 unfold kL
 cases cQ a.toNat
 ·rw[if_neg (by decide)]
  have:=wv (r:=a.toNat % fS) (s:=1086 * fD)
  constructor
  ·intro x;exact⟨rfl,by refine Decidable.of_not_not fun e=>?_;have:=this.2 (by omega);omega⟩
  ·rintro⟨-,x⟩;refine Decidable.of_not_not fun e=>?_;have:=this.1 (by omega);omega
 ·rw[if_pos rfl]
  constructor
  ·intro x;omega
  ·rintro⟨x, -⟩;cases x
theorem oO{a:Int}(h:¬bS<a.toNat % fS):((Ieee.double.order a.toNat ob == some .lt)=true)↔(cQ a.toNat=true∧1086 * fD<a.toNat % fS):=by
 rw[uu h wA.2.2.2,wA.2.1]
 have hp:0<gf (1086 * fD):=by have:=iu (show 0<1086 * fD by decide);rw[val_zero] at this;exact this
 have hc:((some (compare (kL a.toNat) (-(gf (1086 * fD):Int))) == some Ordering.lt)=true)↔kL a.toNat < -(gf (1086 * fD):Int):=by
  rw[beq_iff_eq,Option.some.injEq,wz]
 rw[hc]
 unfold kL
 cases cQ a.toNat
 ·rw[if_neg (by decide)]
  constructor
  ·intro x;omega
  ·rintro⟨x, -⟩;cases x
 ·rw[if_pos rfl]
  have:=wv (r:=1086 * fD) (s:=a.toNat % fS)
  constructor
  ·intro x;exact⟨rfl,this.1 (by omega)⟩
  ·rintro⟨-,x⟩;have:=this.2 x;omega
theorem wB{a:Int}(k:Nat):(((k:Nat):Int)-1023≤fQ a)↔k * fD≤a.toNat % fS:=by
 unfold fQ
 rw[← Nat.le_div_iff_mul_le (by decide)]
 omega
theorem hG{a:Int}(_ha:0≤a∧a<18446744073709551616):nu a=fe a:=by
 have hD:fD=4503599627370496:=rfl
 unfold nu fe
 by_cases h3:bH a=3
 ·rw[if_pos (.inl h3),if_pos (by rw[kr];exact decide_eq_true ((ku a).1 h3))]
 ·have hn:¬bS<a.toNat % fS:=fun h=>h3 ((ku a).2 h)
  rw[if_neg (c:=mR a=true) (by rw[kr,decide_eq_false hn];decide)]
  by_cases h1:bH a=1
  ·have h0:=(Bf a).1 h1
   rw[if_pos (.inr h1),if_neg (fun e=>by have:=((sG hn).1 e).2;rw[h0,hD] at this;omega),if_neg (fun e=>by have:=((oO hn).1 e).2;rw[h0] at this;omega)]
   rw[gn,xY (by rw[h0];decide),kx,h0]
   have hz0:∀ k j:Nat,0 * 2 ^ k / 2 ^ j=0:=fun k j=>by rw[Nat.zero_mul,Nat.zero_div]
   rw[hz0]
   split <;> rfl
  ·rw[if_neg (by rintro(x | x);exact h3 x;exact h1 x)]
   by_cases hp:fQ a<0
   ·have hr:¬ 1023 * fD≤a.toNat % fS:=fun e=>by have:=(wB (a:=a) 1023).2 e;omega
    rw[if_pos hp,if_neg (fun e=>by have:=((sG hn).1 e).2;rw[hD] at *;omega),if_neg (fun e=>by have:=((oO hn).1 e).2;rw[hD] at *;omega),gn]
    have hz:∀ (m:Nat) (p:Int),m<2 ^ 53→p≤ -53→m * 2 ^ p.toNat / 2 ^ (-p).toNat=0:=fun m p hm hp=>by
     rw[show p.toNat=0 by omega,Nat.pow_zero,Nat.mul_one]
     exact Nat.div_eq_of_lt (Nat.lt_of_lt_of_le hm (Nat.pow_le_pow_right (by decide) (by omega)))
    by_cases h4:a.toNat % fS<fD
    ·rw[xY h4,kx,hz _ _ (by rw[hD] at h4;omega) (by decide)]
     simp[gU]
    ·have hm:=Nat.mod_lt (a.toNat % fS) (show 0<fD by decide)
     unfold fQ at hp
     rw[pX h4 (by unfold bS;rw[hD] at *;omega),kx,hz _ _ (by rw[hD] at *;omega) (by omega)]
     simp[gU]
   ·have hr:1023 * fD≤a.toNat % fS:=(wB (a:=a) 1023).1 (by omega)
    rw[if_neg hp]
    by_cases h6:63≤fQ a
    ·have hr6:1086 * fD≤a.toNat % fS:=(wB (a:=a) 1086).1 (by omega)
     rw[if_pos h6]
     cases hg:cQ a.toNat
     ·rw[if_neg (by decide),if_pos ((sG hn).2 ⟨hg,hr6⟩)]
     ·rw[if_pos rfl,if_neg (fun e=>by have:=((sG hn).1 e).1;rw[hg] at this;cases this)]
      by_cases hl:1086 * fD<a.toNat % fS
      ·rw[if_pos ((oO hn).2 ⟨hg,hl⟩)]
      ·have he:a.toNat % fS=1086 * fD:=by omega
       rw[if_neg (fun e=>hl ((oO hn).1 e).2),gn,pX (by rw[he];decide) (by rw[he];decide),he,kx,hg,if_pos rfl]
       decide +kernel
    ·have hr6:¬ 1086 * fD≤a.toNat % fS:=fun e=>by have:=(wB (a:=a) 1086).2 e;omega
     rw[if_neg h6,if_neg (fun e=>hr6 ((sG hn).1 e).2),if_neg (fun e=>hr6 (Nat.le_of_lt ((oO hn).1 e).2)),gn,pX (by rw[hD] at *;omega) (by unfold bS;rw[hD] at *;omega),kx]
     have hmd:a.toNat % fS % fD=a.toNat % fD:=Nat.mod_mod_of_dvd _ ⟨2048,by decide⟩
     have hsh:(fD+a.toNat % fS % fD) * 2 ^ (((a.toNat % fS / fD:Nat):Int)-1075).toNat / 2 ^ (-(((a.toNat % fS / fD:Nat):Int)-1075)).toNat=gx a:=by
      unfold gx gZ fQ
      rw[hmd]
      by_cases c:52<((a.toNat % fS / fD:Nat):Int)-1023
      ·rw[if_pos c,show(-(((a.toNat % fS / fD:Nat):Int)-1075)).toNat=0 by omega,Nat.pow_zero,Nat.div_one]
       congr 2;omega
      ·rw[if_neg c,show(((a.toNat % fS / fD:Nat):Int)-1075).toNat=0 by omega,Nat.pow_zero,Nat.mul_one]
       congr 2;omega
     rw[hsh]
     cases hg:cQ a.toNat
     ·rw[if_neg (by decide),if_neg (by decide)]
      have hb:gx a<2 ^ 63:=by
       unfold gx
       have hw:gZ a<2 ^ 53:=by
        unfold gZ
        have:=Nat.mod_lt a.toNat (show 0<fD by decide)
        rw[hD] at *;omega
       split
       ·have:2 ^ (fQ a-52).toNat≤2 ^ 10:=Nat.pow_le_pow_right (by decide) (by omega)
        calc _<2 ^ 53 * 2 ^ (fQ a-52).toNat:=Nat.mul_lt_mul_of_pos_right hw (Nat.two_pow_pos _)
         _≤2 ^ 53 * 2 ^ 10:=Nat.mul_le_mul_left _ this
       ·exact Nat.lt_of_le_of_lt (Nat.div_le_self _ _) (Nat.lt_trans hw (by decide))
      show(gx a:Int)=gU (gx a:Int)
      unfold gU
      omega
     ·rw[if_pos rfl,if_pos rfl];rfl
end Go.SLYtefdijgllbkmfaaGreat
namespace Go.SLYtefdijgllbkmfaaGreat
open Go
def dQ(a:Int):Nat:=if 9223372036854775808≤a then (18446744073709551616-a).toNat else a.toNat
def lF(a:Int):Nat:=if 9223372036854775808≤a then fS else 0
def ji(m:Nat):Nat:=m / 2 ^ (m.log2-52)+(if 2 ^ (m.log2-53)<m % 2 ^ (m.log2-52)∨(m % 2 ^ (m.log2-52)=2 ^ (m.log2-53)∧m / 2 ^ (m.log2-52) % 2=1) then 1 else 0)
def oP(a:Int):Int :=
 if dQ a=0 then 0 else
 if (dQ a).log2≤52 then ((lF a+((dQ a).log2+1023) * fD+dQ a * 2 ^ (52-(dQ a).log2) % fD:Nat):Int)
 else ((lF a+(((dQ a).log2+1022) * fD+ji (dQ a)):Nat):Int)
theorem wC{a:Int}(ha:0≤a∧a<18446744073709551616):dQ a≤9223372036854775808:=by unfold dQ;split <;> omega
theorem CB(s:Bool)(n:Nat):Ieee.Toward.even.cut s n 0=n:=by
 unfold Ieee.Toward.cut
 simp[Nat.mod_one]
theorem E0(s:Bool){n d:Nat}(hd:1≤d)(h:d≤n.log2+2):Ieee.Toward.even.cut s n d=n / 2 ^ d+(if 2 ^ (d-1)<n % 2 ^ d∨(n % 2 ^ d=2 ^ (d-1)∧n / 2 ^ d % 2=1) then 1 else 0):=by
 unfold Ieee.Toward.cut
 simp only
 rw[Nat.one_shiftLeft,Nat.min_eq_left h]
 have hp:2 ^ d=2 * 2 ^ (d-1):=by
  obtain⟨e,rfl⟩:∃ e,d=e+1:=⟨d - 1,by omega⟩
  rw[Nat.pow_succ,Nat.add_sub_cancel,Nat.mul_comm]
 congr 1
 by_cases c:2 ^ (d-1)<n % 2 ^ d∨(n % 2 ^ d=2 ^ (d-1)∧n / 2 ^ d % 2=1)
 ·rw[if_pos c]
  rcases c with c | ⟨c1,c2⟩
  ·rw[decide_eq_true (show 2 ^ d<2 * (n % 2 ^ d) by omega)];rfl
  ·rw[c2,c1,show(2 ^ d == 2 * 2 ^ (d-1))=true from beq_iff_eq.2 hp];simp
 ·rw[if_neg c,decide_eq_false (fun e=>c (.inl (by omega)))]
  have:(2 ^ d == 2 * (n % 2 ^ d) && n / 2 ^ d % 2 == 1)=false:=by
   refine Bool.eq_false_iff.2 fun e=>c (.inr ?_)
   rw[Bool.and_eq_true,beq_iff_eq,beq_iff_eq] at e
   exact⟨by omega,e.2⟩
  rw[this];rfl
theorem Ju{m:Nat}(h:m≤9223372036854775808):m.log2≤63:=by
 by_cases h0:m=0
 ·subst h0;decide
 ·refine Decidable.of_not_not fun e=>?_
  have h1:=Nat.log2_self_le h0
  have h2:2 ^ 64≤2 ^ m.log2:=Nat.pow_le_pow_right (by decide) (by omega)
  have:(2:Nat) ^ 64=18446744073709551616:=by decide
  omega
theorem CC{t X:Nat}(h1:X<2 * fD)(h2:t * fD≤52 * fD):t * fD+1022 * fD+X≤bS :=
 Nat.le_trans (Nat.add_le_add (Nat.add_le_add h2 (Nat.le_refl _)) (Nat.le_of_lt h1)) (by decide)
theorem xZ{s:Bool}{m:Nat}(h0:m≠0)(h:m.log2≤52):Ieee.double.nearest s m 0=(if s=true then fS else 0)+(m.log2+1023) * fD+m * 2 ^ (52-m.log2) % fD:=by
 obtain⟨c1,c2,c3,c4⟩:=gw
 have hf:Ieee.double.fractionBits=52:=rfl
 have hl1:=Nat.log2_self_le h0
 have hl2:=Nat.lt_log2_self (n:=m)
 unfold Ieee.Format.nearest
 simp only
 rw[if_neg h0,c2,c3,c4,hf,show max ((0:Int)+(m.log2:Int)-((52:Nat):Int)) (-1074)=(m.log2:Int)-52 by omega,show((m.log2:Int)-52-0).toNat=0 by omega,CB,show((0:Int)-((m.log2:Int)-52)).toNat=52-m.log2 by omega,show((m.log2:Int)-52 - -1074).toNat=m.log2+1022 by omega,Nat.shiftLeft_eq]
 have hk1:fD≤m * 2 ^ (52-m.log2):=by
  have:=Nat.mul_le_mul_right (2 ^ (52-m.log2)) hl1
  rw[← Nat.pow_add,show m.log2+(52-m.log2)=52 by omega] at this
  exact this
 have hk2:m * 2 ^ (52-m.log2)<2 * fD:=by
  have:=Nat.mul_lt_mul_of_pos_right hl2 (Nat.two_pow_pos (52-m.log2))
  rw[← Nat.pow_add,show m.log2+1+(52-m.log2)=53 by omega] at this
  exact this
 have hm:m * 2 ^ (52-m.log2) % fD=m * 2 ^ (52-m.log2)-fD:=by
  rw[Nat.mod_eq_sub_mod hk1,Nat.mod_eq_of_lt (by omega)]
 have hD:fD=4503599627370496:=rfl
 have hI:bS=9218868437227405312:=rfl
 have ht:=Nat.mul_le_mul_right fD h
 rw[hm]
 clear hm hl1 hl2
 generalize m * 2 ^ (52-m.log2)=X at hk1 hk2 ⊢
 generalize m.log2=t at ht ⊢
 rw[Nat.add_mul,Nat.add_mul]
 clear hD hI c2 c3 c4 hf h0 h
 rw[Nat.min_eq_left (CC hk2 ht)]
 unfold Ieee.Format.word
 rw[c1]
 cases s
 ·rw[if_neg (by decide),if_neg (by decide)];omega
 ·rw[if_pos rfl,if_pos rfl];omega
theorem oQ{s:Bool}{m:Nat}(hm:m≤9223372036854775808)(h:52<m.log2):Ieee.double.nearest s m 0=(if s=true then fS else 0)+((m.log2+1022) * fD+ji m)∧(m.log2+1022) * fD+ji m<bS:=by
 obtain⟨c1,c2,c3,c4⟩:=gw
 have hf:Ieee.double.fractionBits=52:=rfl
 have h0:m≠0:=fun e=>by rw[e] at h;exact absurd h (by decide)
 have hl2:=Nat.lt_log2_self (n:=m)
 have hl63:=Ju hm
 have hD:fD=4503599627370496:=rfl
 have hI:bS=9218868437227405312:=rfl
 have hq:m / 2 ^ (m.log2-52)<2 ^ 53:=by
  refine Nat.div_lt_of_lt_mul ?_
  rw[← Nat.pow_add,show m.log2-52+53=m.log2+1 by omega];exact hl2
 have hk:ji m≤2 ^ 53:=by
  unfold ji
  split <;> omega
 have ht:=Nat.mul_le_mul_right fD hl63
 have hb:(m.log2+1022) * fD+ji m<bS:=by
  rw[Nat.add_mul,hI];rw[hD] at *;omega
 refine⟨?_,hb⟩
 unfold Ieee.Format.nearest
 simp only
 rw[if_neg h0,c2,c3,c4,hf,show max ((0:Int)+(m.log2:Int)-((52:Nat):Int)) (-1074)=(m.log2:Int)-52 by omega,show((0:Int)-((m.log2:Int)-52)).toNat=0 by omega,show((m.log2:Int)-52-0).toNat=m.log2-52 by omega,show((m.log2:Int)-52 - -1074).toNat=m.log2+1022 by omega,Nat.shiftLeft_zero,E0 s (by omega) (by omega),show m.log2-52-1=m.log2-53 by omega]
 show Ieee.double.word s (min ((m.log2+1022) * fD+ji m) bS)=_
 rw[Nat.min_eq_left (Nat.le_of_lt hb)]
 unfold Ieee.Format.word
 rw[c1]
 cases s
 ·rw[if_neg (by decide),if_neg (by decide)];omega
 ·rw[if_pos rfl,if_pos rfl]
theorem ya(b:Bool){r:Nat}(h:r<bS):((if b=true then fS else 0)+r) % fS=r:=by
 have:bS<fS:=by decide
 cases b
 ·rw[if_neg (by decide),Nat.zero_add,Nat.mod_eq_of_lt (by omega)]
 ·rw[if_pos rfl,Nat.add_mod_left,Nat.mod_eq_of_lt (by omega)]
theorem k9{a:Int}(ha:0≤a∧a<18446744073709551616):oP a=fj a:=by
 have hw:Go.IntKind.i64.wrap a=if 9223372036854775808≤a then a-18446744073709551616 else a:=by
  unfold Go.IntKind.wrap
  split <;> simp[Go.IntKind.bits,Go.IntKind.signed] <;> omega
 have hn:Go.FloatKind.f64.nearest (Go.IntKind.i64.wrap a)=Ieee.double.nearest (decide (9223372036854775808≤a)) (dQ a) 0:=by
  unfold Go.FloatKind.nearest
  show Ieee.double.nearest (decide (Go.IntKind.i64.wrap a<0)) (Go.IntKind.i64.wrap a).natAbs 0=_
  rw[hw]
  unfold dQ
  by_cases c:9223372036854775808≤a
  ·rw[if_pos c,if_pos c,decide_eq_true c,decide_eq_true (show a-18446744073709551616<0 by omega),show(a-18446744073709551616).natAbs=(18446744073709551616-a).toNat by omega]
  ·rw[if_neg c,if_neg c,decide_eq_false c,decide_eq_false (show ¬a<0 by omega),show a.natAbs=a.toNat by omega]
 have hs:lF a=if decide (9223372036854775808≤a)=true then fS else 0:=by
  unfold lF
  by_cases c:9223372036854775808≤a
  ·rw[if_pos c,decide_eq_true c,if_pos rfl]
  ·rw[if_neg c,decide_eq_false c,if_neg (by decide)]
 unfold fj oP
 rw[hn]
 have hD:fD=4503599627370496:=rfl
 have hI:bS=9218868437227405312:=rfl
 by_cases h0:dQ a=0
 ·have hc:¬ 9223372036854775808≤a:=fun c=>by unfold dQ at h0;rw[if_pos c] at h0;omega
  rw[if_pos h0,h0,decide_eq_false hc]
  decide +kernel
 ·rw[if_neg h0]
  by_cases h1:(dQ a).log2≤52
  ·rw[if_pos h1,xZ h0 h1, ← hs,l9]
   rw[Int.toNat_natCast,Nat.add_assoc,hs,ya]
   ·have:=Nat.mod_lt (dQ a * 2 ^ (52-(dQ a).log2)) (show 0<fD by decide)
    have ht:=Nat.mul_le_mul_right fD h1
    rw[Nat.add_mul,hI];rw[hD] at *;omega
   ·have:=Nat.mod_lt (dQ a * 2 ^ (52-(dQ a).log2)) (show 0<fD by decide)
    have ht:=Nat.mul_le_mul_right fD h1
    rw[Nat.add_mul,hI];rw[hD] at *;omega
  ·obtain⟨e1,e2⟩:=oQ (s:=decide (9223372036854775808≤a)) (wC ha) (show 52<(dQ a).log2 by omega)
   rw[if_neg h1,e1, ← hs,l9]
   rw[Int.toNat_natCast,hs,ya _ e2]
   omega
end Go.SLYtefdijgllbkmfaaGreat
namespace Go.SLYtefdijgllbkmfaaGreat
open Go
theorem q8{x:Nat}(hx:x<18446744073709551616):(BitVec.ofInt Go.IntKind.u64.bits (x:Int)).toNat=x:=by
 show(BitVec.ofInt 64 (x:Int)).toNat=x
 rw[BitVec.toNat_ofInt]
 omega
theorem sH{x:Nat}(hx:x<18446744073709551616):Go.IntKind.u64.wrap (x:Int)=(x:Int):=by
 unfold Go.IntKind.wrap
 simp[Go.IntKind.bits,Go.IntKind.signed]
 omega
theorem E1{x y:Nat}(hx:x<18446744073709551616)(hy:y<18446744073709551616):pG .u64 (x:Int) (y:Int)=((x &&& y:Nat):Int):=by
 unfold pG
 rw[BitVec.toNat_and,q8 hx,q8 hy,sH (Nat.lt_of_le_of_lt Nat.and_le_left hx)]
theorem Bi{x y:Nat}(hx:x<18446744073709551616)(hy:y<18446744073709551616):Gm .u64 (x:Int) (y:Int)=((x ||| y:Nat):Int):=by
 unfold Gm
 rw[BitVec.toNat_or,q8 hx,q8 hy,sH (show x ||| y<2 ^ 64 from Nat.or_lt_two_pow (n:=64) hx hy)]
theorem ky{x k:Nat}(hx:x<18446744073709551616)(hk:k≤64):pG .u64 (x:Int) ((2 ^ k-1:Nat):Int)=((x % 2 ^ k:Nat):Int):=by
 have h1:2 ^ k≤2 ^ 64:=Nat.pow_le_pow_right (by decide) hk
 have h2:0<2 ^ k:=Nat.two_pow_pos k
 have h3:(2:Nat) ^ 64=18446744073709551616:=by decide
 rw[E1 hx (by omega),Nat.and_two_pow_sub_one_eq_mod]
theorem wD{x y k:Nat}(hx:x % 2 ^ k=0)(hy:y<2 ^ k)(h:x+y<18446744073709551616):Gm .u64 (x:Int) (y:Int)=((x+y:Nat):Int):=by
 rw[Bi (by omega) (by omega)]
 obtain⟨q,hq⟩:∃ q,x=2 ^ k * q:=⟨x / 2 ^ k,by have:=Nat.div_add_mod x (2 ^ k);omega⟩
 rw[hq, ← Nat.two_pow_add_eq_or_of_lt hy]
theorem oR{x n:Nat}(hn:n≤64):zl .u64 (x:Int) (n:Int)=((x / 2 ^ n:Nat):Int):=by
 unfold zl
 rw[Int.toNat_natCast,show min n Go.IntKind.u64.bits=n from Nat.min_eq_left hn]
 show Int.fdiv (x:Int) ((2:Int) ^ n)=_
 rw[show((2:Int) ^ n)=((2 ^ n:Nat):Int) by rw[Int.natCast_pow];rfl]
 exact Int.ofNat_fdiv x (2 ^ n) |>.symm
theorem kz{x n:Nat}(hn:n≤64)(h:x * 2 ^ n<18446744073709551616):mQ .u64 (x:Int) (n:Int)=((x * 2 ^ n:Nat):Int):=by
 unfold mQ
 rw[Int.toNat_natCast,show min n Go.IntKind.u64.bits=n from Nat.min_eq_left hn,show(x:Int) * (2:Int) ^ n=((x * 2 ^ n:Nat):Int) by rw[Int.natCast_mul,Int.natCast_pow];rfl,sH h]
end Go.SLYtefdijgllbkmfaaGreat
namespace Go.SLYtefdijgllbkmfaaGreat
open Go Go.RowKit
theorem zP{a:Int}(ha:0≤a∧a<18446744073709551616):∃ n:Nat,a=(n:Int)∧n<18446744073709551616:=⟨a.toNat,by omega,by omega⟩
theorem yb{a:Int}(ha:0≤a∧a<18446744073709551616):pG .u64 a 9223372036854775807=((a.toNat % fS:Nat):Int):=by
 obtain⟨n,rfl,hn⟩:=zP ha
 rw[Int.toNat_natCast]
 exact ky (k:=63) hn (by decide)
theorem oS{a:Int}(ha:0≤a∧a<18446744073709551616)(k:Nat)(hk:k≤64):zl .u64 a (k:Int)=((a.toNat / 2 ^ k:Nat):Int):=by
 obtain⟨n,rfl,hn⟩:=zP ha
 rw[Int.toNat_natCast]
 exact oR hk
theorem Jv{a:Int}(h:((a.toNat % fS:Nat):Int)=0):bH a=1:=(Bf a).2 (by omega)
theorem Jw{a:Int}(_h1:¬((a.toNat % fS:Nat):Int)=0)(h:((a.toNat % fS:Nat):Int)=9218868437227405312):bH a=2:=by
 have h1':¬a.toNat % fS=0:=by omega
 have h':a.toNat % fS=bS:=by unfold bS;omega
 unfold bH;rw[if_neg h1',if_pos h']
theorem Jx{a:Int}(_:¬((a.toNat % fS:Nat):Int)=0)(_:¬((a.toNat % fS:Nat):Int)=9218868437227405312)(h:9218868437227405312<((a.toNat % fS:Nat):Int)):bH a=3:=(ku a).2 (by unfold bS;omega)
theorem Jy{a:Int}(h1:¬((a.toNat % fS:Nat):Int)=0)(h2:¬((a.toNat % fS:Nat):Int)=9218868437227405312)(h:¬ 9218868437227405312<((a.toNat % fS:Nat):Int)):bH a=0:=by
 have h1':¬a.toNat % fS=0:=by omega
 have h2':¬a.toNat % fS=bS:=by unfold bS;omega
 have h3':¬bS<a.toNat % fS:=by unfold bS;omega
 unfold bH;rw[if_neg h1',if_neg h2',if_neg h3']
theorem GZ{a:Int}(h:bH a=3):fA a=9221120237041090560:=by
 unfold fA
 rw[kr,decide_eq_true ((ku a).1 h),if_pos rfl];rfl
theorem G0{a:Int}(h:¬bH a=3):fA a=a:=l9 (fun e=>h ((ku a).2 e))
theorem oT{a:Int}(ha:0≤a∧a<18446744073709551616):((a.toNat / 2 ^ 63:Nat):Int)=1↔ 9223372036854775808≤a:=by
 have:(2:Nat) ^ 63=9223372036854775808:=by decide
 rw[this];omega
theorem G3{a:Int}(ha:0≤a∧a<18446744073709551616)(h:((a.toNat / 2 ^ 63:Nat):Int)=1):gb a=0-((a.toNat % fS:Nat):Int)-1:=by
 obtain⟨r1,r2,r3⟩:=eU ha ((oT ha).1 h)
 rw[r1,r2];omega
theorem Bj{a:Int}(ha:0≤a∧a<18446744073709551616)(h:¬((a.toNat / 2 ^ 63:Nat):Int)=1):a<9223372036854775808∧gb a=a:=by
 have h':¬ 9223372036854775808≤a:=fun e=>h ((oT ha).2 e)
 exact⟨by omega,(eT ha h').1⟩
end Go.SLYtefdijgllbkmfaaGreat
namespace Go.SLYtefdijgllbkmfaaGreat
open Go Go.RowKit
theorem oU{a:Int}(ha:0≤a∧a<18446744073709551616):cQ a.toNat=true↔((a.toNat / 2 ^ 63:Nat):Int)=1:=by
 rw[oT ha,iK ha,decide_eq_true_eq]
theorem E2{a:Int}(ha:0≤a∧a<18446744073709551616):pG .u64 ((a.toNat / 2 ^ 52:Nat):Int) 2047=((a.toNat % fS / fD:Nat):Int):=by
 have h:=ky (x:=a.toNat / 2 ^ 52) (k:=11) (by have:(2:Nat) ^ 52=4503599627370496:=(by decide);rw[this];omega) (by decide)
 refine h.trans ?_
 have h1:(2:Nat) ^ 52=4503599627370496:=by decide
 have h2:(2:Nat) ^ 11=2048:=by decide
 rw[h1,h2]
 unfold fS fD
 omega
theorem CD{a:Int}(ha:0≤a∧a<18446744073709551616):pG .u64 a 4503599627370495=((a.toNat % fD:Nat):Int):=by
 obtain⟨n,rfl,hn⟩:=zP ha
 rw[Int.toNat_natCast]
 exact ky (k:=52) hn (by decide)
theorem zQ(a:Int):Gm .u64 ((a.toNat % fD:Nat):Int) 4503599627370496=(gZ a:Int):=by
 have hm:=Nat.mod_lt a.toNat (show 0<fD by decide)
 have hD:fD=4503599627370496:=rfl
 have h:=Bi (x:=a.toNat % fD) (y:=4503599627370496) (by omega) (by decide)
 refine h.trans ?_
 have h2:=Nat.two_pow_add_eq_or_of_lt (i:=52) (b:=a.toNat % fD) hm 1
 rw[Nat.or_comm]
 unfold gZ
 rw[Nat.mul_one] at h2
 exact congrArg _ h2.symm
theorem E3(a:Int):gZ a<2 ^ 53:=by
 have hm:=Nat.mod_lt a.toNat (show 0<fD by decide)
 have h1:(2:Nat) ^ 53=2 * fD:=by decide
 unfold gZ
 omega
theorem G4{a:Int}(h:52<fQ a)(h2:¬ 63≤fQ a):mQ .u64 (gZ a:Int) (fQ a-52)=(gx a:Int):=by
 obtain⟨n,hn⟩:∃ n:Nat,fQ a - 52=(n:Int):=⟨(fQ a - 52).toNat,by omega⟩
 have hb:gZ a * 2 ^ n<18446744073709551616:=by
  have h1:=E3 a
  have h3:2 ^ n≤2 ^ 10:=Nat.pow_le_pow_right (by decide) (by omega)
  calc gZ a * 2 ^ n<2 ^ 53 * 2 ^ n:=Nat.mul_lt_mul_of_pos_right h1 (Nat.two_pow_pos _)
   _≤2 ^ 53 * 2 ^ 10:=Nat.mul_le_mul_left _ h3
   _≤18446744073709551616:=by decide
 rw[hn,kz (by omega) hb]
 unfold gx
 rw[if_pos h,hn,Int.toNat_natCast]
theorem G5{a:Int}(h:¬ 52<fQ a)(h0:¬fQ a<0):zl .u64 (gZ a:Int) (52-fQ a)=(gx a:Int):=by
 obtain⟨n,hn⟩:∃ n:Nat,52 - fQ a=(n:Int):=⟨(52 - fQ a).toNat,by omega⟩
 rw[hn,oR (by omega)]
 unfold gx
 rw[if_neg h,hn,Int.toNat_natCast]
theorem KR{a:Int}(ha:0≤a∧a<18446744073709551616)(h:bH a=3∨bH a=1):fe a=0:=by rw[← hG ha];exact if_pos h
theorem LM{a:Int}(ha:0≤a∧a<18446744073709551616)(h:¬(bH a=3∨bH a=1))(h1:fQ a<0):fe a=0:=by rw[← hG ha];unfold nu;rw[if_neg h,if_pos h1]
theorem LN{a:Int}(ha:0≤a∧a<18446744073709551616)(h:¬(bH a=3∨bH a=1))(h1:¬fQ a<0)(h2:63≤fQ a)(h3:((a.toNat / 2 ^ 63:Nat):Int)=1):fe a=9223372036854775808:=by rw[← hG ha];unfold nu;rw[if_neg h,if_neg h1,if_pos h2,if_pos ((oU ha).2 h3)]
theorem LO{a:Int}(ha:0≤a∧a<18446744073709551616)(h:¬(bH a=3∨bH a=1))(h1:¬fQ a<0)(h2:63≤fQ a)(h3:¬((a.toNat / 2 ^ 63:Nat):Int)=1):fe a=9223372036854775807:=by rw[← hG ha];unfold nu;rw[if_neg h,if_neg h1,if_pos h2,if_neg (fun e=>h3 ((oU ha).1 e))]
theorem LP{a:Int}(ha:0≤a∧a<18446744073709551616)(h:¬(bH a=3∨bH a=1))(h1:¬fQ a<0)(h2:¬ 63≤fQ a)(h3:((a.toNat / 2 ^ 63:Nat):Int)=1):fe a=gU (-(gx a:Int)):=by rw[← hG ha];unfold nu;rw[if_neg h,if_neg h1,if_neg h2,if_pos ((oU ha).2 h3)]
theorem LQ{a:Int}(ha:0≤a∧a<18446744073709551616)(h:¬(bH a=3∨bH a=1))(h1:¬fQ a<0)(h2:¬ 63≤fQ a)(h3:¬((a.toNat / 2 ^ 63:Nat):Int)=1):fe a=(gx a:Int):=by rw[← hG ha];unfold nu;rw[if_neg h,if_neg h1,if_neg h2,if_neg (fun e=>h3 ((oU ha).1 e))]
theorem Bk(n:Int):Go.IntKind.u64.wrap (0-n)=gU (-n):=by
 unfold gU Go.IntKind.wrap
 simp[Go.IntKind.bits,Go.IntKind.signed]
/-! numbers of whole ones -/
theorem Bl{a:Int}(ha:0≤a∧a<18446744073709551616)(h:((a.toNat / 2 ^ 63:Nat):Int)=1):Go.IntKind.u64.wrap (0-a)=(dQ a:Int)∧(9223372036854775808:Int)=(lF a:Int):=by
 have h':=(oT ha).1 h
 unfold dQ lF
 rw[if_pos h',if_pos h',Bk]
 exact⟨by unfold gU;omega,rfl⟩
theorem Bm{a:Int}(ha:0≤a∧a<18446744073709551616)(h:¬((a.toNat / 2 ^ 63:Nat):Int)=1):a=(dQ a:Int)∧(0:Int)=(lF a:Int):=by
 have h':¬ 9223372036854775808≤a:=fun e=>h ((oT ha).2 e)
 unfold dQ lF
 rw[if_neg h',if_neg h']
 exact⟨by omega,rfl⟩
theorem G6{m t:Nat}(h0:m≠0)(h1:m<2 ^ (t+1))(h2:¬m / 2 ^ t=0):t=m.log2:=by
 have h3:2 ^ t≤m:=by
  refine Decidable.of_not_not fun e=>h2 (Nat.div_eq_of_lt (by omega))
 have h4:=Nat.log2_self_le h0
 have h5:=Nat.lt_log2_self (n:=m)
 rcases Nat.lt_trichotomy t m.log2 with g | g | g
 ·have:=Nat.pow_le_pow_right (n:=2) (by decide) (show t+1≤m.log2 from g);omega
 ·exact g
 ·have:=Nat.pow_le_pow_right (n:=2) (by decide) (show m.log2+1≤t from g);omega
theorem E4{m t:Nat}(h2:m / 2 ^ t=0)(h0:m≠0):1≤t∧m<2 ^ (t-1+1):=by
 have h3:m<2 ^ t:=by
  rcases Nat.lt_or_ge m (2 ^ t) with g | g
  ·exact g
  ·have:=Nat.div_pos g (Nat.two_pow_pos t);omega
 have h1:1≤t:=by
  refine Decidable.of_not_not fun e=>?_
  have:t=0:=by omega
  subst this
  rw[Nat.pow_zero] at h3;omega
 exact⟨h1,by rw[Nat.sub_add_cancel h1];exact h3⟩
theorem LR{a:Int}(ha:0≤a∧a<18446744073709551616)(h:dQ a=0):fj a=0:=by rw[← k9 ha];exact if_pos h
theorem iR(a:Int):lF a=0∨lF a=9223372036854775808:=by unfold lF;split <;> simp[fS]
theorem G7(a:Int){X:Nat}(h:X<2 ^ 63):lF a+X<18446744073709551616:=by
 have h63:(2:Nat) ^ 63=9223372036854775808:=by decide
 rw[h63] at h
 rcases iR a with e | e <;> rw[e] <;> omega
theorem G8(a:Int):lF a % 2 ^ 63=0:=by rcases iR a with e | e <;> rw[e] <;> decide
theorem G9{a:Int}{t:Nat}(ht:t≤63):Gm .u64 (lF a:Int) (mQ .u64 ((t:Int)+1023) 52)=((lF a+(t+1023) * fD:Nat):Int):=by
 have hD:fD=2 ^ 52:=by decide
 have hb:(t+1023) * 2 ^ 52≤1086 * 2 ^ 52:=Nat.mul_le_mul_right _ (by omega)
 have hlt:(t+1023) * 2 ^ 52<2 ^ 63:=Nat.lt_of_le_of_lt hb (by decide)
 have hs:mQ .u64 ((t:Int)+1023) 52=(((t+1023) * 2 ^ 52:Nat):Int):=(show mQ .u64 ((t:Int)+1023) 52=mQ .u64 ((t+1023:Nat):Int) ((52:Nat):Int) from rfl).trans (kz (by decide) (Nat.lt_trans hlt (by decide)))
 rw[hs,hD,wD (k:=63) (G8 a) hlt (G7 a hlt)]
theorem Jz{a:Int}(ha:0≤a∧a<18446744073709551616){t:Nat}(h:¬dQ a=0)(ht:t=(dQ a).log2)(h1:t≤52):Gm .u64 (Gm .u64 (lF a:Int) (mQ .u64 ((t:Int)+1023) 52)) (pG .u64 (mQ .u64 (dQ a:Int) (52-(t:Int))) 4503599627370495)=fj a:=by
 have hD:fD=2 ^ 52:=by decide
 have hm:=wC ha
 have hl:=Nat.lt_log2_self (n:=dQ a)
 obtain⟨n,hn⟩:∃ n:Nat,(52:Int) - (t:Int)=(n:Int):=⟨52 - t,by omega⟩
 have hb:dQ a * 2 ^ n<2 ^ 53:=by
  have:=Nat.mul_lt_mul_of_pos_right hl (Nat.two_pow_pos n)
  rw[← ht, ← Nat.pow_add,show t+1+n=53 by omega] at this
  exact this
 have h53:(2:Nat) ^ 53<18446744073709551616:=by decide
 rw[G9 (by omega),hn,kz (by omega) (by omega)]
 rw[show pG .u64 ((dQ a * 2 ^ n:Nat):Int) 4503599627370495=((dQ a * 2 ^ n % 2 ^ 52:Nat):Int) from ky (k:=52) (by omega) (by decide)]
 have hlt:dQ a * 2 ^ n % 2 ^ 52<2 ^ 52:=Nat.mod_lt _ (Nat.two_pow_pos 52)
 have hq:(t+1023) * fD≤1075 * fD:=Nat.mul_le_mul_right _ (by omega)
 have hc:1075 * fD+2 ^ 52<2 ^ 63:=by decide
 have h63:(2:Nat) ^ 63=9223372036854775808:=by decide
 rw[wD (k:=52) ?_ hlt ?_, ← k9 ha]
 ·unfold oP
  rw[if_neg h, ← ht,if_pos h1,show n=52-t by omega,hD]
 ·rw[Nat.add_mod,hD,Nat.mul_mod_left]
  rcases iR a with e | e <;> rw[e] <;> decide
 ·rcases iR a with e | e <;> rw[e] <;> omega
theorem Ha{a:Int}(ha:0≤a∧a<18446744073709551616){t:Nat}(h:¬dQ a=0)(ht:t=(dQ a).log2)(h1:¬t≤52):Gm .u64 (lF a:Int) ((((t+1022) * fD+ji (dQ a):Nat)):Int)=fj a:=by
 have hm:=wC ha
 have hk:=(oQ (s:=true) hm (show 52<(dQ a).log2 by omega)).2
 have hi:bS<2 ^ 63:=by decide
 have h63:(2:Nat) ^ 63=9223372036854775808:=by decide
 rw[← ht] at hk
 rw[wD (k:=63) ?_ (by omega) ?_, ← k9 ha]
 ·unfold oP
  rw[if_neg h, ← ht,if_neg h1]
 ·rcases iR a with e | e <;> rw[e] <;> decide
 ·rcases iR a with e | e <;> rw[e] <;> omega
end Go.SLYtefdijgllbkmfaaGreat
namespace Go.SLYtefdijgllbkmfaaGreat
open Go Go.RowKit
def Iu(o:Option Nat)(r:Nat):Prop:=I4 o r∧(o=none→r<18446744073709551616)
theorem JA(t:Nat):(t % 2) * 2 ^ 63+0x7ff0000000000000+1+(t / 2) % (2 ^ 52-1)<18446744073709551616:=by
 have h1:t % 2<2:=Nat.mod_lt _ (by decide)
 have h2:(t / 2) % (2 ^ 52-1)<2 ^ 52-1:=Nat.mod_lt _ (by decide)
 omega
section
variable{P:Program}{W:World}{N:Nat}{L:List (Nat×Option Value)}{H:List aa}{T:TypeId}
theorem af.Bn{op:BinOp}{xT yT:TypeId}{x y:Operand}{pos:String}{after:Array Edge}{guard:Option (Nat×Bool)}{d m n:Nat}(o:Option Nat)(hN:Nat.blt d N=true)(hx:ev L x=some (.float .f64 m))(hy:ev L y=some (.float .f64 n))
  (h:∀ w,(do eqGuard op xT x y (.float .f64 m) (.float .f64 n);binOp op xT (.float .f64 m) (.float .f64 n):Sem Value).run P w=(match o with | some r=>pure (.float .f64 r) | none=>do pure (.float .f64 (← choose (.nanBits .f64 m n))):Sem Value).run P w) :
  af P W N ⟨some d,.binOp op xT x y yT,T,pos,after,guard⟩ L H (fun L1 H1=>∃ r,Iu o r∧L1=(d,some (.float .f64 r))::L∧H1=H):=fun a w ha hs Kp hK=>by
 have hrun:∀ v w',(match o with | some r=>pure (.float .f64 r) | none=>do pure (.float .f64 (← choose (.nanBits .f64 m n))):Sem Value).run P w = .ok v w'→(execOp a.eval ⟨some d,.binOp op xT x y yT,T,pos,after,guard⟩).run P w = .ok (.value v) w':=fun v w' hv=>by
  simp only[execOp,ha.eval hx,ha.eval hy]
  have h2:=(h w).trans hv
  show((do eqGuard op xT x y (.float .f64 m) (.float .f64 n);binOp op xT (.float .f64 m) (.float .f64 n):Sem Value) >>= fun v=>pure (Next.value v)).run P w=_
  rw[Sem.run_bind,h2]
  rfl
 unfold Oper.wp
 cases o with
 | some r =>
  rw[hrun (.float .f64 r) w rfl]
  simp only[Oper.upon]
  exact hK _ _ ⟨r,⟨rfl,fun e=>by cases e⟩,rfl,rfl⟩ _ _ (ha.put (Nat.blt_eq.mp hN) _) hs
 | none =>
  have hq:(choose (.nanBits .f64 m n)).run P w = .ok ((Question.nanBits .f64 m n).cut (w.tape w.drawn (.nanBits .f64 m n))) w.drew:=by
   rw[run_choose_drew];simp[Question.forced]
  rw[hrun (.float .f64 ((Question.nanBits .f64 m n).cut (w.tape w.drawn (.nanBits .f64 m n)))) w.drew (by simp only[Sem.run_bind,hq,Result.andThen_ok,Sem.run_pure])]
  simp only[Oper.upon]
  refine hK _ _ ⟨_,⟨?_,fun _=>?_⟩,rfl,rfl⟩ _ _ (ha.put (Nat.blt_eq.mp hN) _) hs.drew
  ·show(jO _ _ == some .eq)=false
   simp only[Question.cut]
   exact AR _
  ·simp only[Question.cut]
   exact JA _
end
theorem wE{o:Option Nat}{r:Nat}(h:Iu o r)(ho:∀ q,o=some q→q<18446744073709551616):0≤(r:Int)∧(r:Int)<18446744073709551616:=by
 cases o with
 | none=>have:=h.2 rfl;omega
 | some q =>
  have h1:r=q:=h.1
  have:=ho q rfl
  omega
theorem q9:2 ^ Ieee.double.width=18446744073709551616:=by decide +kernel
theorem KS{a b q:Nat}(h:Ieee.double.add a b=some q):q<18446744073709551616:=q9 ▸ Ieee.Format.add_lt _ h
theorem KT{a b q:Nat}(h:Ieee.double.sub a b=some q):q<18446744073709551616:=q9 ▸ Ieee.Format.sub_lt _ h
theorem KU{a b q:Nat}(h:Ieee.double.mul a b=some q):q<18446744073709551616:=q9 ▸ Ieee.Format.mul_lt _ h
theorem KV{a b q:Nat}(h:Ieee.double.div a b=some q):q<18446744073709551616:=q9 ▸ Ieee.Format.div_lt _ h
def wF(op a b:Int):Int:=if op=1 then B9 a b else if op=2 then Ca a b else if op=3 then Cb a b else Cc a b
theorem E5{t K:Nat}:(((t+1023) * fD:Nat):Int)+(K:Int)-4503599627370496=(((t+1022) * fD+K:Nat):Int):=by
 have h:(t+1023) * fD=(t+1022) * fD+fD:=by rw[show t+1023=t+1022+1 from rfl,Nat.succ_mul]
 have hD:fD=4503599627370496:=rfl
 rw[h];rw[hD];omega
end Go.SLYtefdijgllbkmfaaGreat
namespace Go.SLYtefdijgllbkmfaaGreat
open Go Go.RowKit
theorem Hb{m t ct:Nat}(ht:t=m.log2)(h:¬t≤52)(hc:t=ct+53∧(((2 ^ ct:Nat):Int)<((m % 2 ^ (ct+1):Nat):Int)∨((m % 2 ^ (ct+1):Nat):Int)=((2 ^ ct:Nat):Int)∧((m / 2 ^ (ct+1) % 2:Nat):Int)=1)):((m / 2 ^ (ct+1):Nat):Int)+1=(ji m:Int):=by
 unfold ji
 rw[← ht,hc.1,show ct+53-52=ct+1 by omega,show ct+53-53=ct by omega,if_pos]
 ·omega
 ·rcases hc.2 with e | ⟨e1,e2⟩
  ·exact .inl (by omega)
  ·exact .inr ⟨by omega,by omega⟩
theorem Hc{m t ct:Nat}(ht:t=m.log2)(h:¬t≤52)(hc:t=ct+53∧¬(((2 ^ ct:Nat):Int)<((m % 2 ^ (ct+1):Nat):Int)∨((m % 2 ^ (ct+1):Nat):Int)=((2 ^ ct:Nat):Int)∧((m / 2 ^ (ct+1) % 2:Nat):Int)=1)):((m / 2 ^ (ct+1):Nat):Int)=(ji m:Int):=by
 unfold ji
 rw[← ht,hc.1,show ct+53-52=ct+1 by omega,show ct+53-53=ct by omega,if_neg]
 ·rfl
 ·rintro(e | ⟨e1,e2⟩)
  ·exact hc.2 (.inl (by omega))
  ·exact hc.2 (.inr ⟨by omega,by omega⟩)
theorem Hd{t:Nat}(ht:t≤63):mQ .u64 ((t:Int)+1023) 52=(((t+1023) * fD:Nat):Int):=by
 have hD:fD=2 ^ 52:=by decide
 have hb:(t+1023) * 2 ^ 52≤1086 * 2 ^ 52:=Nat.mul_le_mul_right _ (by omega)
 rw[hD]
 exact(show mQ .u64 ((t:Int)+1023) 52=mQ .u64 ((t+1023:Nat):Int) ((52:Nat):Int) from rfl).trans (kz (by decide) (Nat.lt_of_le_of_lt hb (by decide)))
theorem He{m t:Nat}(ht:t=m.log2)(h:¬t≤52)(h63:t≤63):(ji m:Int)≤9007199254740992:=by
 have hl2:=Nat.lt_log2_self (n:=m)
 have hq:m / 2 ^ (m.log2-52)<2 ^ 53:=by
  refine Nat.div_lt_of_lt_mul ?_
  rw[← Nat.pow_add,show m.log2-52+53=m.log2+1 by omega];exact hl2
 have h53:(2:Nat) ^ 53=9007199254740992:=by decide
 rw[h53] at hq
 unfold ji
 split <;> omega
theorem JB{t:Nat}(ht:t≤63):(((t+1023) * fD:Nat):Int)≤4890909195324358656∧(4607182418800017408:Int)≤(((t+1023) * fD:Nat):Int):=by
 have h1:(t+1023) * fD≤1086 * fD:=Nat.mul_le_mul_right _ (by omega)
 have h2:1023 * fD≤(t+1023) * fD:=Nat.mul_le_mul_right _ (by omega)
 have e1:1086 * fD=4890909195324358656:=by decide
 have e2:1023 * fD=4607182418800017408:=by decide
 omega
def E6(a:Int):Nat:=a.toNat % fS / fD
theorem Hf(a:Int):E6 a≤2047:=by unfold E6 fS fD;omega
theorem CE{a:Int}(ha:0≤a∧a<18446744073709551616):pG .u64 ((a.toNat / 2 ^ 52:Nat):Int) 2047=(E6 a:Int):=E2 ha
theorem Hg{n:Int}(h:0≤n∧n≤9223372036854775807):Go.IntKind.i64.wrap (0-n)=0-n:=by
 unfold Go.IntKind.wrap
 simp[Go.IntKind.bits,Go.IntKind.signed]
 omega
theorem E7(a:Int):0≤((a.toNat % fS:Nat):Int)∧((a.toNat % fS:Nat):Int)≤9223372036854775807:=by
 have:=Nat.mod_lt a.toNat (show 0<fS by decide)
 have h2:fS=9223372036854775808:=rfl
 omega
end Go.SLYtefdijgllbkmfaaGreat
namespace Go.SLYtefdijgllbkmfaaGreat
open Go Go.RowKit
inductive Dn:Nat→Prop where
 | mk (n:Nat):Dn n
theorem Dn.s{n:Nat}(_:Dn (n+1)):Dn n:=.mk n
structure Hid(G:Prop):Prop where
 go:G
inductive Kl{X:Type}:X→Prop where
 | mk (x:X):Kl x
section
variable{P:Program}{W:World}{N:Nat}{Q:Exit→Act→World→Prop}{L:List (Nat×Option Value)}{H:List aa}{O:Array Oper}{T:TypeId}{K:List aa}{ks:List Nat}{rest:List Oper}
theorem Y.y{op:Op}{v:Value}(h:Y P W N op T L H v:=by first | exact .m rfl | exact .a rfl | exact .n rfl | exact .l rfl | exact .z rfl | exact .f rfl | exact .o rfl | exact .eql rfl rfl | exact .t rfl rfl | exact .u rfl rfl | exact .lr rfl ‹_› | exact .lA rfl | exact .len rfl | exact .lss rfl rfl | exact .extract rfl rfl | exact .Mq rfl rfl | exact .neq rfl rfl | exact .Lq rfl | exact .not rfl | exact .geq rfl rfl | exact .gtr rfl rfl | exact .leq rfl rfl | exact .LL rfl rfl | exact .lo rfl | exact .lz rfl | exact .lens rfl | exact .la rfl (Cells.rd Rd.s ‹_›) | exact .ix _ rfl rfl rfl (by first | omega | decide) | exact .inc rfl rfl (by omega) | exact .sub rfl rfl (by omega)):Y P W N op T L H v:=h
theorem aQ.c{f:FuncId}{xs:Array Operand}{ts:Array TypeId}{pos:String}{after:Array Edge}{d:Nat}{args:List Value}{pre R:List aa}{X:Type}{val:X→Value}{fact:X→Prop}{post:X→List aa}
  (hc:∀ args w,(callFunc f args).run P w = .ok (.enter f args) w) (hx:evs L xs.toList=some args) (hfn:Fn P W f args pre X val fact post) (h:∀ x,fact x→aQ P W N O Q rest ((d,some (val x))::L) (post x++R)) (ht:aK H pre R:=by exact aK.auto) (hN:Nat.blt d N=true:=by rfl):aQ P W N O Q (⟨some d,.call ⟨.value (.func f),xs,ts⟩,T,pos,after,none⟩::rest) L H :=
 .aw rfl (af.eO hN hc hx hfn ht) fun _ _ e=>by obtain⟨y,hy,rfl,rfl⟩:=e;exact h y hy
theorem aQ.cg{f:FuncId}{xs:Array Operand}{ts:Array TypeId}{pos:String}{after:Array Edge}{d j t:Nat}{want:Bool}{args:List Value}{pre R:List aa}{X:Type}{val:X→Value}{fact:X→Prop}{post:X→List aa}
  (hc:∀ args w,(callFunc f args).run P w = .ok (.enter f args) w) (hx:evs L xs.toList=some args) (hfn:Fn P W f args pre X val fact post) (h:∀ x,fact x→aQ P W N O Q rest ((d,some (val x))::L) (post x++R)) (ht:aK H pre R:=by exact aK.auto) (hj:(O[j]?).bind (·.dst)=some t:=by rfl) (hb:look L t=some (.bool want):=by rfl) (hN:Nat.blt d N=true:=by rfl):aQ P W N O Q (⟨some d,.call ⟨.value (.func f),xs,ts⟩,T,pos,after,some (j,want)⟩::rest) L H :=
 .dg rfl hj hb (af.eO hN hc hx hfn ht) fun _ _ e=>by obtain⟨y,hy,rfl,rfl⟩:=e;exact h y hy
theorem bu.c{f:FuncId}{xs:Array Operand}{ts:Array TypeId}{pos:String}{after:Array Edge}{d:Nat}{args:List Value}{pre R:List aa}{X:Type}{val:X→Value}{fact:X→Prop}{post:X→List aa}
  (hc:∀ args w,(callFunc f args).run P w = .ok (.enter f args) w) (hx:evs L xs.toList=some args) (hfn:Fn P W f args pre X val fact post) (h:∀ x,fact x→bu P W N K O Q ks rest ((d,some (val x))::L) (post x++R)) (ht:aK H pre R:=by exact aK.auto) (hN:Nat.blt d N=true:=by rfl):bu P W N K O Q (3::ks) (⟨some d,.call ⟨.value (.func f),xs,ts⟩,T,pos,after,none⟩::rest) L H :=
 .d3 rfl (af.eO hN hc hx hfn ht) fun _ _ e=>by obtain⟨y,hy,rfl,rfl⟩:=e;exact h y hy
theorem bu.c2{f:FuncId}{xs:Array Operand}{ts:Array TypeId}{pos:String}{after:Array Edge}{d:Nat}{args:List Value}{pre R:List aa}{X:Type}{val:X→Value}{fact:X→Prop}{post:X→List aa}
  (hc:∀ args w,(callFunc f args).run P w = .ok (.enter f args) w) (hx:evs L xs.toList=some args) (hfn:Fn P W f args pre X val fact post) (h:∀ x,fact x→bu P W N K O Q ks rest ((d,some (val x))::L) (post x++R)) (ht:aK H pre R:=by exact aK.auto) (hN:Nat.blt d N=true:=by rfl) (hK:∀ w,Sat W w (seps H)→Sat W w (seps K):=by exact Kept.auto) (hK2:∀ x,fact x→ ∀ w,Sat W w (seps (post x++R))→Sat W w (seps K):=by intro _ _;exact Kept.auto):bu P W N K O Q (2::ks) (⟨some d,.call ⟨.value (.func f),xs,ts⟩,T,pos,after,none⟩::rest) L H :=
 .d2 rfl hK (af.eO hN hc hx hfn ht) (fun _ _ e=>by obtain⟨y,hy,rfl,rfl⟩:=e;exact hK2 y hy) fun _ _ e=>by obtain⟨y,hy,rfl,rfl⟩:=e;exact h y hy
section
variable{fn:Func}{X:Type}{val:X→Value}{fact:X→Prop}{post:X→List aa}{F:aa}{R:List aa}{x:X}
theorem cj.w1{t:Nat}{v:Value}(_:Kl x)(hf:fact x:=by exact trivial)(hr:fn.results = #[.tmp t]:=by rfl)(ht:look L t=some v:=by rfl)(hv:v=val x:=by rfl)(he:aK H (post x++[F]) R:=by exact aK.auto):cj W N (bodyPost P fn (fun e w'=>∃ x,e = .returned (val x)∧fact x∧Sat W w' (sep (seps (post x)) F))) .ret L H :=
 .aC hr ht fun _ s=>⟨x,by rw[hv],hf,ar he s⟩
theorem cj.w2{t1 t2:Nat}{v1 v2:Value}(_:Kl x)(hf:fact x:=by exact trivial)(hr:fn.results = #[.tmp t1,.tmp t2]:=by rfl)(h1:look L t1=some v1:=by rfl)(h2:look L t2=some v2:=by rfl)(hv:Value.tuple #[v1,v2]=val x:=by rfl)(he:aK H (post x++[F]) R:=by exact aK.auto):cj W N (bodyPost P fn (fun e w'=>∃ x,e = .returned (val x)∧fact x∧Sat W w' (sep (seps (post x)) F))) .ret L H :=
 .eo hr h1 h2 fun _ s=>⟨x,by rw[hv],hf,ar he s⟩
theorem cj.w0(_:Kl x)(hf:fact x:=by exact trivial)(hr:fn.results = #[]:=by rfl)(hv:Value.tuple #[]=val x:=by rfl)(he:aK H (post x++[F]) R:=by exact aK.auto):cj W N (bodyPost P fn (fun e w'=>∃ x,e = .returned (val x)∧fact x∧Sat W w' (sep (seps (post x)) F))) .normal L H :=
 .Dy hr fun _ s=>⟨x,by rw[hv],hf,ar he s⟩
theorem cj.wr(_:Kl x)(hf:fact x:=by exact trivial)(hr:fn.results = #[]:=by rfl)(hv:Value.tuple #[]=val x:=by rfl)(he:aK H (post x++[F]) R:=by exact aK.auto):cj W N (bodyPost P fn (fun e w'=>∃ x,e = .returned (val x)∧fact x∧Sat W w' (sep (seps (post x)) F))) .ret L H :=
 .Lr hr fun _ s=>⟨x,by rw[hv],hf,ar he s⟩
end
end
theorem J{G G':Prop}(n:Nat)(k:G')(f:Dn n→Hid G'→G:=by intro c h;(repeat (replace c:=Dn.s c;first | refine .p .y ?_ | refine .n ?_ | refine .s ?_ | refine .r ?_ | refine .b ?_ | refine .t ?_ | refine .e ?_ | refine .u ?_ | refine .g .y ?_ | refine .v ?_ | refine .br ?_ | refine .tr ?_ | refine .q .y ?_ | refine .w ?_ | refine .h .y ?_ | refine .x ?_ | refine .bh ?_ | refine .bp rfl ?_ | refine .tx ?_ | (refine .aw rfl (af.st ir.ok rfl rfl rfl rfl) ?_;rintro _ _ ⟨rfl,rfl⟩) | (refine .d3 rfl (af.st ir.ok rfl rfl rfl rfl) ?_;rintro _ _ ⟨rfl,rfl⟩) | (refine .d2 rfl Kept.auto (af.st ir.ok rfl rfl rfl rfl) (by rintro _ _ ⟨rfl,rfl⟩;exact Kept.auto) ?_;rintro _ _ ⟨rfl,rfl⟩) | (refine .aw rfl (af.tP (by exact ir.ok) rfl rfl rfl (by rfl)) ?_;rintro _ _ ⟨rfl,rfl⟩)));exact h.go):G:=f (.mk n) ⟨k⟩
theorem JD{G p q G1 G2:Prop}(n:Nat)(k1:p→G1)(k2:q→G2)(f:Dn n→Hid (p→G1)→Hid (q→G2)→G:=by intro c h1 h2;(repeat (replace c:=Dn.s c;first | refine .p .y ?_ | refine .n ?_ | refine .s ?_ | refine .r ?_ | refine .b ?_ | refine .t ?_ | refine .e ?_ | refine .u ?_ | refine .g .y ?_ | refine .v ?_ | refine .br ?_ | refine .tr ?_ | refine .q .y ?_ | refine .w ?_ | refine .h .y ?_ | refine .x ?_ | refine .bh ?_ | refine .bp rfl ?_ | refine .tx ?_ | (refine .aw rfl (af.st ir.ok rfl rfl rfl rfl) ?_;rintro _ _ ⟨rfl,rfl⟩) | (refine .d3 rfl (af.st ir.ok rfl rfl rfl rfl) ?_;rintro _ _ ⟨rfl,rfl⟩) | (refine .d2 rfl Kept.auto (af.st ir.ok rfl rfl rfl rfl) (by rintro _ _ ⟨rfl,rfl⟩;exact Kept.auto) ?_;rintro _ _ ⟨rfl,rfl⟩) | (refine .aw rfl (af.tP (by exact ir.ok) rfl rfl rfl (by rfl)) ?_;rintro _ _ ⟨rfl,rfl⟩)));first | exact .dN rfl h1.go h2.go | exact .cond rfl h1.go h2.go):G:=f (.mk n) ⟨k1⟩ ⟨k2⟩
theorem JR{G:Prop}{X:Type}(n:Nat)(x:X)(f:Dn n→Kl x→G:=by intro c h;(repeat (replace c:=Dn.s c;first | refine .p .y ?_ | refine .n ?_ | refine .s ?_ | refine .r ?_ | refine .b ?_ | refine .t ?_ | refine .e ?_ | refine .u ?_ | refine .g .y ?_ | refine .v ?_ | refine .br ?_ | refine .tr ?_ | refine .q .y ?_ | refine .w ?_ | refine .h .y ?_ | refine .x ?_ | refine .bh ?_ | refine .bp rfl ?_ | refine .tx ?_ | (refine .aw rfl (af.st ir.ok rfl rfl rfl rfl) ?_;rintro _ _ ⟨rfl,rfl⟩) | (refine .d3 rfl (af.st ir.ok rfl rfl rfl rfl) ?_;rintro _ _ ⟨rfl,rfl⟩) | (refine .d2 rfl Kept.auto (af.st ir.ok rfl rfl rfl rfl) (by rintro _ _ ⟨rfl,rfl⟩;exact Kept.auto) ?_;rintro _ _ ⟨rfl,rfl⟩) | (refine .aw rfl (af.tP (by exact ir.ok) rfl rfl rfl (by rfl)) ?_;rintro _ _ ⟨rfl,rfl⟩)));first | exact .w1 h | exact .w2 h | exact .w0 h | exact .wr h):G:=f (.mk n) (.mk x)
theorem JS{G:Prop}(n:Nat)(f:Dn n→G:=by intro c;(repeat (replace c:=Dn.s c;first | refine .p .y ?_ | refine .n ?_ | refine .s ?_ | refine .r ?_ | refine .b ?_ | refine .t ?_ | refine .e ?_ | refine .u ?_ | refine .g .y ?_ | refine .v ?_ | refine .br ?_ | refine .tr ?_ | refine .q .y ?_ | refine .w ?_ | refine .h .y ?_ | refine .x ?_ | refine .bh ?_ | refine .bp rfl ?_ | refine .tx ?_ | (refine .aw rfl (af.st ir.ok rfl rfl rfl rfl) ?_;rintro _ _ ⟨rfl,rfl⟩) | (refine .d3 rfl (af.st ir.ok rfl rfl rfl rfl) ?_;rintro _ _ ⟨rfl,rfl⟩) | (refine .d2 rfl Kept.auto (af.st ir.ok rfl rfl rfl rfl) (by rintro _ _ ⟨rfl,rfl⟩;exact Kept.auto) ?_;rintro _ _ ⟨rfl,rfl⟩) | (refine .aw rfl (af.tP (by exact ir.ok) rfl rfl rfl (by rfl)) ?_;rintro _ _ ⟨rfl,rfl⟩)));first | exact .tt .auto rfl (fun _ h=>h) | exact .tt .auto rfl (aK.kept .auto)):G:=f (.mk n)
end Go.SLYtefdijgllbkmfaaGreat
