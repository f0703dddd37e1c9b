/- Walks of functions, and what they compute. Conditions: none, this text proves no statement. -/
import Derived.Test.YtefdijgllbkmfaaGreatI04
import Derived.Laws.StructEq
import Derived.Test.YtefdijgllbkmfaaGreatI01
import Derived.WalkKit
import Derived.ProofKit
import Derived.OpenShut
import Derived.JoinedCond
import Derived.Deep.Slices
import Derived.Carry
import Derived.Test.YtefdijgllbkmfaaGreatRows
import Derived.Test.YtefdijgllbkmfaaGreatI02
import Derived.Test.YtefdijgllbkmfaaGreatI03
import Derived.Laws.FloatBits
namespace Go.SLYtefdijgllbkmfaaGreat
open Go Go.RowKit
section
variable{k:Nat}{s:Spc}
theorem dL.start(h:Ok k s [] [])(hR:ej s s.au){n:Nat}{i:Ins}{c:Int}:dL k s (s.dI n i c) [] []:=⟨h,fun w=>by simp[Spc.dI,iY.z],fun w hw=>(by cases hw),by show ej s (s.au++[]);rw[List.append_nil];exact hR,List.prefix_refl _⟩
theorem IW{d:Dng}(h:dL k s d [] []){n:Int}(hn:n=(d.n:Int)):Ok k d.finish.2 [] []∧(∀ w,eQ d.finish.2 w+(if (d.finish.1.bA=true∨d.finish.1.ended=true)∧w=n then 1 else 0)=eQ s w+d.finish.1.aL.count w)∧(∀ w∈d.finish.1.aL,eQ s w=0)∧ej d.finish.2 d.finish.2.au∧s.au <+: d.finish.2.au:=by
 subst hn
 exact⟨h.ok.au _,h.rd,h.wk,h.rc.of rfl rfl,h.px.trans (List.prefix_append _ _)⟩
theorem B3(d:Dng)(a:List Int):(d.dy a).n=d.n:=by
 induction a generalizing d with
 | nil=>rfl
 | cons x l ih=>exact(ih _).trans rfl
theorem AO{d:Dng}{v:Int}:(d.fin v).n=d.n:=by
 unfold Dng.fin
 split
 ·rfl
 ·split <;> rfl
theorem Gq{d:Dng}:d.plain.n=d.n:=by
 unfold Dng.plain
 split
 ·simp only
  split
  ·rfl
  ·split <;> rfl
 ·split
  ·exact AO
  ·exact AO
theorem AP{d:Dng}{n:Int}{ok:Bool}:(d.given n ok).n=d.n:=by unfold Dng.given;split <;> rfl
theorem HX{d:Dng}{b y i:Int}:(d.ask b y i).n=d.n:=by
 unfold Dng.ask
 simp only
 repeat' split
 all_goals rfl
theorem IX{d:Dng}:d.call.n=d.n:=by
 unfold Dng.call
 simp only
 split
 ·rfl
 split
 ·rfl
 split
 ·rfl
 split
 ·unfold Dng.join;simp only;repeat' split
  all_goals rfl
 split
 ·unfold Dng.cO;simp only;repeat' split
  all_goals rfl
 split
 ·exact AO
 split
 ·unfold Dng.mutex;simp only;repeat' split
  all_goals first | rfl | exact AP
 split
 ·exact B3 _ _
 split
 ·unfold Dng.bX;simp only;repeat' split
  all_goals first | rfl | exact AP
 ·unfold Dng.kernel
  split
  ·exact HX
  split
  ·exact HX
  split
  ·unfold Dng.put;simp only;repeat' split
   all_goals rfl
  split
  ·unfold Dng.get;simp only;repeat' split
   all_goals rfl
  split
  ·unfold Dng.sleep;simp only;repeat' split
   all_goals rfl
  ·rfl
theorem AQ{s:Spc}(hO:ig s){f:iD}{i:Ins}(e:eG s.dG f=some i):f.pc≤256:=by
 unfold eG at e
 split at e
 ·cases e
 ·have hlt:=(List.getElem?_eq_some_iff.1 e).1
  cases hf:s.dG.funcs[f.fn.toNat]? with
  | none=>rw[List.getD_eq_getElem?_getD,hf] at hlt;exact absurd hlt (Nat.not_lt_zero _)
  | some g =>
   rw[List.getD_eq_getElem?_getD,hf] at hlt
   have h1:f.pc.toNat<g.length:=hlt
   have h2:=hO.D7.2 g (List.mem_of_getElem? hf)
   omega
theorem Ok.run(h:Ok k s [] [])(hR:ej s s.au)(hk:k≤1000000)(hr:s.au.length≤800000000){n c:Int} :
  Ok (k+1) (s.run n c).2.2 [] []∧(∀ w,eQ (s.run n c).2.2 w+(if ((s.run n c).1.bA=true∨(s.run n c).1.ended=true)∧w=n then 1 else 0)=eQ s w+(s.run n c).1.aL.count w)∧
  ((s.run n c).2.1≠0→(s.run n c).2.2=s∧(s.run n c).1=iY.z)∧(s.run n c).2.2.au.length≤s.au.length+400002∧((s.run n c).2.1=0↔eQ s n=1)∧(∀ w∈(s.run n c).1.aL,eQ s w=0)∧ej (s.run n c).2.2 (s.run n c).2.2.au∧s.au <+: (s.run n c).2.2.au:=by
 have hO:=h.Ao hk hr
 have hup:Ok (k+1) s [] []:=h.more (Nat.le_succ _)
 cases hat:s.at n with
 | none =>
  rw[si hat]
  refine⟨hup,fun w=>by simp[iY.z],fun _=>⟨rfl,rfl⟩,by simp only;omega,?_,fun w hw=>(by cases hw),hR,List.prefix_refl _⟩
  simp only
  unfold eQ;rw[hat];simp[rO]
 | some t =>
  by_cases hw:t.why≠0
  ·rw[sj hat hw]
   refine⟨hup,fun w=>by simp[iY.z],fun _=>⟨rfl,rfl⟩,by simp only;omega,?_,fun w hw=>(by cases hw),hR,List.prefix_refl _⟩
   simp only
   unfold eQ;rw[hat,ec,if_neg hw];simp
  ·have hw0:t.why=0:=Decidable.not_not.mp hw
   obtain⟨h0,ht⟩:=fi hat
   obtain⟨m,rfl⟩:∃ m:Nat,n=(m:Int):=⟨n.toNat,by omega⟩
   rw[Int.toNat_natCast] at ht
   have hrd:eQ s (m:Int)=1:=by unfold eQ;rw[hat,ec,if_pos hw0]
   have fin:∀ {z:Dng} {a b:Nat},dL (k+1) s z [] []→z.n=m→eL (s.dI m ⟨0,0,0,0,0⟩ c) z a b→a≤1→b≤400001→s.run (m:Int) c=(z.finish.1,0,z.finish.2)→
     Ok (k+1) (s.run (m:Int) c).2.2 [] []∧(∀ w,eQ (s.run (m:Int) c).2.2 w+(if ((s.run (m:Int) c).1.bA=true∨(s.run (m:Int) c).1.ended=true)∧w=(m:Int) then 1 else 0)=eQ s w+(s.run (m:Int) c).1.aL.count w)∧
     ((s.run (m:Int) c).2.1≠0→(s.run (m:Int) c).2.2=s∧(s.run (m:Int) c).1=iY.z)∧(s.run (m:Int) c).2.2.au.length≤s.au.length+400002∧((s.run (m:Int) c).2.1=0↔eQ s (m:Int)=1)∧(∀ w∈(s.run (m:Int) c).1.aL,eQ s w=0)∧ej (s.run (m:Int) c).2.2 (s.run (m:Int) c).2.2.au∧s.au <+: (s.run (m:Int) c).2.2.au:=fun {z a b} hz hzn hg ha hb e=>by
    rw[e]
    obtain⟨g1,g2,g3,g4,g5⟩:=IW hz (n:=(m:Int)) (by rw[hzn])
    refine⟨g1,g2,fun hne=>absurd rfl hne,?_,⟨fun _=>hrd,fun _=>rfl⟩,g3,g4,g5⟩
    show(z.s.au++z.ends).length≤_
    rw[List.length_append]
    have h1:z.s.au.length≤s.au.length+a:=hg.1
    have h2:z.ends.length≤0+b:=hg.2
    omega
   cases hn:eG s.dG t.gY with
   | none =>
    have h1:dL k s (((s.dI m ⟨23,0,0,0,0⟩ c).tell 0 0 0 true).fin 0) [] []:=dL.fin (dL.tell (dL.start h hR) ht hw0 rfl) ht hw0 rfl rfl FR
    exact fin (h1.more (Nat.le_succ _)) AO (cX (gv.trans kc) rfl rfl) (by decide) (by decide) (vR hat hw hn rfl)
   | some i =>
    obtain⟨hI,hIn,hIt⟩:=kb hO hn
    have hpc:=AQ hO hn
    have hpc:t.pc≤256:=hpc
    by_cases hc:cls i.op=1
    ·have S:St k s (s.dI m i c) t:=⟨dL.start h hR,ht,hw0,rfl,rfl,hI,rfl⟩
     exact fin ((S.plain hpc).more (Nat.le_succ _)) Gq (cX nj rfl rfl) (by decide) (by decide) (pM hat hw hn hc rfl)
    ·have ho:=h.th m t ht
     have h1:dL k s ((s.dI m i c).aj {t with pc:=t.pc+1 }) [] []:=dL.own (dL.start h hR) ht (t':={t with pc:=t.pc+1 }) ⟨ho.R.l,ho.R.r,ho.R.i,ho.R.v,ho.R.h⟩ (by have:=ho.pc;show 0≤t.pc+1∧t.pc+1≤257;omega) rfl rfl rfl rfl rfl
     have S:St k s ((s.dI m i c).aj {t with pc:=t.pc+1 }) {t with pc:=t.pc+1 }:=⟨h1,bS ht,hw0,rfl,rfl,hI,rfl⟩
     exact fin (S.call hk hIt) IX (cX (pN hO.zm.2) rfl rfl) (by decide) (by decide) (sk hat hw hn hc rfl)
/-! a request is done -/
theorem IY{d:jB}(h:zr d){c:Int}(hd:(d.done c).2.2.1=true):zr (d.done c).2.2.2∧ff (d.done c).2.1∧ ∀ w,cD (d.done c).2.2.2 w+b2 ((d.done c).1.who=w)=cD d w:=by
 by_cases h0:d.wait.length=0
 ·rw[mu h0] at hd;cases hd
 ·have hp:=eX (t:=c) (n:=d.wait.length) (by omega)
  have hx:d.wait[pick c d.wait.length]?=some (d.wait.getD (pick c d.wait.length) rX):=getD_some hp
  have hm:=List.mem_of_getElem? hx
  generalize hr:d.wait.getD (pick c d.wait.length) rX=r at hx hm
  have hrw:=h.w r hm
  have hcn:∀ w,(d.wait.eraseIdx (pick c d.wait.length)).countP (fun r=>decide (r.who=w))+b2 (r.who=w)=d.wait.countP (fun r=>decide (r.who=w)):=fun w=>by
   have:=kW (P:=fun r:pz=>decide (r.who=w)) hx
   unfold b2;simpa using this
  cases hw:r.write with
  | true =>
   rw[kQ h0 hr hw]
   refine⟨⟨by simp only[List.length_set];exact h.l,fun x hx=>?_,fun y hy=>?_⟩,FR,fun w=>hcn w⟩
   ·rcases List.mem_or_eq_of_mem_set hx with hx | rfl
    ·exact h.b x hx
    ·exact hrw.2.2
   ·simp only[List.length_set];exact h.w y (List.mem_of_mem_eraseIdx hy)
  | false =>
   rw[mv h0 hr hw]
   exact⟨⟨h.l,h.b,fun y hy=>h.w y (List.mem_of_mem_eraseIdx hy)⟩,wa h.b (by omega),fun w=>hcn w⟩
theorem Ok.Km(h:Ok k s [] [])(hR:ej s s.au){c:Int} :
  Ok k (s.done c).2.2 [] []∧(∀ w,eQ (s.done c).2.2 w+(if ((s.done c).1.bA=true∨(s.done c).1.ended=true) then 1 else 0)=eQ s w+(s.done c).1.aL.count w)∧
  ((s.done c).2.1≠0→(s.done c).2.2=s∧(s.done c).1=iY.z)∧(s.done c).2.2.au.length≤s.au.length+1∧(s.done c).1.bA=false∧(s.done c).1.ended=false∧ej (s.done c).2.2 (s.done c).2.2.au∧s.au <+: (s.done c).2.2.au:=by
 cases hd:(s.aN.done c).2.2.1 with
 | false =>
  rw[lU hd]
  exact⟨h,fun w=>by simp[iY.z],fun _=>⟨rfl,rfl⟩,by simp,rfl,rfl,hR,List.prefix_refl _⟩
 | true =>
  obtain⟨g1,g2,g3⟩:=IY h.dk hd
  have h1:Ok k {s with aN:=(s.aN.done c).2.2.2 } [(s.aN.done c).1.who] []:=h.aN g1 (fun w=>by rw[oE];have:=g3 w;simp;omega)
  have hb:=h1.oB (s.aN.done c).1.who
  obtain⟨u,hu,hu0,hu9⟩:=gI (s:={s with aN:=(s.aN.done c).2.2.2 }) (w:=(s.aN.done c).1.who) (by simp at hb;omega)
  obtain⟨h0,hat⟩:=fi hu
  rw[lV hd hat]
  have h2:=h1.di hu hu0 hu9 g2
  refine⟨(h2.IJ (p':=[]) (q':=[]) (fun w=>by simp)).au _,fun w=>?_,fun hne=>absurd rfl hne,by simp[Spc.tell,Spc.di,Spc.aj],rfl,rfl,?_,List.prefix_append _ _⟩
  rotate_left
  ·have hR1:ej {s with aN:=(s.aN.done c).2.2.2 } s.au:=hR.of rfl rfl
   exact(hR1.di h1 hu hu0 hu9 (y:=(s.aN.done c).2.1)).of rfl rfl
  show eQ (({s with aN:=(s.aN.done c).2.2.2 }:Spc).di (s.aN.done c).1.who.toNat (s.aN.done c).2.1) w+(if (false=true∨false=true) then 1 else 0)=eQ s w+[(s.aN.done c).1.who].count w
  simp only[Bool.false_eq_true,or_self,if_false,Nat.add_zero]
  rw[oD hu,oE]
  have hs:∀ w,eQ {s with aN:=(s.aN.done c).2.2.2 } w=eQ s w:=fun w=>rfl
  by_cases e:w=(s.aN.done c).1.who
  ·have:eQ s w=0:=by rw[← hs,e];unfold eQ;rw[hu,ec];exact if_neg hu0
   rw[if_pos e,je e.symm];omega
  ·rw[if_neg e,eR (fun h=>e h.symm),hs];rfl
/-! a moment -/
theorem xM(l:List Int)(w:Int):(gq l).count w=l.count w:=by
 have hi:∀ (a:Int) (m:List Int),(dB a m).count w=m.count w+b2 (a=w):=by
  intro a m
  induction m with
  | nil=>rw[show dB a []=[a] from rfl,oE];simp
  | cons b m ih =>
   unfold dB
   split
   ·rw[eJ]
   ·rw[eJ,ih,eJ];omega
 induction l with
 | nil=>rfl
 | cons a l ih=>show(dB a (gq l)).count w=_;rw[hi,ih,eJ]
theorem B4(l:List (Int×Int))(n w:Int):(dQ l n).countP (fun x=>decide (x.1=w))=if w=n then 0 else l.countP (fun x=>decide (x.1=w)):=by
 unfold dQ
 rw[List.countP_filter]
 by_cases e:w=n
 ·rw[if_pos e,List.countP_eq_zero]
  intro x hx
  simp[e]
 ·rw[if_neg e]
  apply List.countP_congr
  intro x hx
  simp only[Bool.and_eq_true,decide_eq_true_eq,Bool.not_eq_true',decide_eq_false_iff_not]
  exact⟨fun h=>h.1,fun h=>⟨h,fun h2=>e (h.symm.trans h2)⟩⟩
theorem ss:∀ (a:List Int) (l:List (Int×Int)) (w:Int),(a.foldl dQ l).countP (fun x=>decide (x.1=w))=if w∈a then 0 else l.countP (fun x=>decide (x.1=w))
 | [],_,_=>by simp
 | n::a,l,w=>by
  rw[List.foldl_cons,ss a,B4]
  by_cases h:w∈a
  ·rw[if_pos h,if_pos (List.mem_cons_of_mem _ h)]
  ·rw[if_neg h]
   by_cases e:w=n
   ·rw[if_pos e,if_pos (by rw[e];exact List.mem_cons_self)]
   ·rw[if_neg e,if_neg (by simp[e,h])]
theorem IZ{u:jW}(h:0≤u.now∧u.now≤1099511627776)(hb:∀ w,cL u w≤1):(0≤u.tick.2.now∧u.tick.2.now≤1099511627776)∧ ∀ w,cL u.tick.2 w+u.due.count w=cL u w:=by
 refine⟨by show 0≤min (u.now+1) 1099511627776∧min (u.now+1) 1099511627776≤_;omega,fun w=>?_⟩
 have h1:cL u.tick.2 w=if w∈u.due then 0 else cL u w:=ss u.due u.dV w
 have h2:u.due.count w=(u.dV.filter fun p=>decide (p.2≤min (u.now+1) 1099511627776)).countP (fun x=>decide (x.1=w)):=by
  unfold jW.due;rw[xM];unfold List.count;rw[List.countP_map];congr 1
 have h3:(u.dV.filter fun p=>decide (p.2≤min (u.now+1) 1099511627776)).countP (fun x=>decide (x.1=w))≤cL u w:=List.Sublist.countP_le List.filter_sublist
 rw[h1]
 by_cases hm:w∈u.due
 ·have:=List.count_pos_iff.2 hm
  have:=hb w
  rw[if_pos hm];omega
 ·have:=List.count_eq_zero.2 hm
  rw[if_neg hm];omega
theorem Ok.df:∀ (l:List Int) (s:Spc),Ok k s l []→ej s s.au→Ok k (df s l) [] []∧(∀ w,eQ (df s l) w=eQ s w+l.count w)∧ej (df s l) (df s l).au∧s.au <+: (df s l).au
 | [],_,h,hR=>⟨h,fun w=>rfl,hR,List.prefix_refl _⟩
 | n::l,s,h,hR=>by
  have hb:=h.oB n
  rw[eJ,je rfl] at hb
  obtain⟨u,hu,hu0,hu9⟩:=gI (s:=s) (w:=n) (by simp at hb;omega)
  have h1:=h.di hu hu0 hu9 (y:=0) FR
  have h2:Ok k ((s.di n.toNat 0).tell ((s.t n.toNat).dH 0)) l []:=(h1.IJ (fun w=>by rw[eJ,eJ];simp)).au _
  have hR2:ej ((s.di n.toNat 0).tell ((s.t n.toNat).dH 0)) ((s.di n.toNat 0).tell ((s.t n.toNat).dH 0)).au:=by
   show ej ((s.di n.toNat 0).tell ((s.t n.toNat).dH 0)) (s.au++[(s.t n.toNat).dH 0])
   rw[cV (fi hu).2]
   exact(hR.di h hu hu0 hu9 (y:=0)).of rfl rfl
  obtain⟨h3,h4,h6,h7⟩:=Ok.df l _ h2 hR2
  refine⟨h3,fun w=>(h4 w).trans ?_,h6,List.IsPrefix.trans (List.prefix_append _ _) h7⟩
  have h5:eQ ((s.di n.toNat 0).tell ((s.t n.toNat).dH 0)) w=eQ (s.di n.toNat 0) w:=rfl
  rw[h5,oD hu,eJ]
  by_cases e:w=n
  ·have:eQ s w=0:=by rw[e];unfold eQ;rw[hu,ec];exact if_neg hu0
   rw[if_pos e,je e.symm];omega
  ·rw[if_neg e,eR (fun h=>e h.symm)];omega
theorem Ok.Kn(h:Ok k s [] [])(hR:ej s s.au) :
  Ok k s.tick.2 [] []∧(∀ w,eQ s.tick.2 w=eQ s w+s.tick.1.aL.count w)∧s.tick.2.au.length≤s.au.length+16∧s.tick.1.bA=false∧s.tick.1.ended=false∧ej s.tick.2 s.tick.2.au∧s.au <+: s.tick.2.au:=by
 have hbal:∀ w,gH s w=dZ s w:=fun w=>by have:=h.oB w;simpa using this
 have bL:∀ w,cL s.aA w≤dZ s w:=fun w=>by have:=hbal w;unfold gH at this;omega
 obtain⟨g1,g2⟩:=IZ h.wl (fun w=>Nat.le_trans (bL w) pP)
 have h1:Ok k {s with aA:=s.aA.tick.2 } s.aA.due []:=h.aA g1 (fun w=>by have:=g2 w;simp;omega)
 obtain⟨h2,h3,h4,h5⟩:=Ok.df s.aA.due _ h1 (hR.of rfl rfl)
 refine⟨h2,fun w=>(h3 w).trans rfl,?_,rfl,rfl,h4,h5⟩
 show(Go.SLYtefdijgllbkmfaaGreat.df _ s.aA.due).au.length≤_
 rw[oz]
 have:=xF s.aA
 have:s.aA.dV.length≤16:=oG (f:=fun r:Int×Int=>r.1) h.lt bL
 show s.au.length+_≤_
 omega
end
end Go.SLYtefdijgllbkmfaaGreat
namespace Go.SLYtefdijgllbkmfaaGreat
open Go Go.RowKit
theorem su{α:Type}{f:α→Nat}{n:Nat}{x:α}(h:f x=0):kV f (List.replicate n x)=0:=pO (fun y hy=>by rw[(List.mem_replicate.1 hy).2];exact h)
theorem Ok.Ko{p:eB}(h:xG p):Ok 0 ⟨p,List.replicate 16 (false,0),List.replicate 16 none,List.replicate p.words.toNat 0,Gates.new p.ay p.conds p.aT,p.aC.map Tub.new,jB.new p.blocks,jW.new,[]⟩ [] []:=by
 have hcap:ei p=true:=by
  have:=h.1;unfold cK at this
  split at this
  ·assumption
  ·cases this
 have hc:=hcap
 unfold ei at hc
 simp only[Bool.and_eq_true,decide_eq_true_eq,within,List.all_eq_true] at hc
 obtain⟨⟨⟨⟨⟨⟨⟨⟨⟨⟨⟨c1,c2⟩,c3⟩,c4⟩,c5⟩,c6⟩,c7⟩,c8⟩,c9⟩,c10⟩,c11⟩,c12⟩:=hc
 have cl:∀ {n:Int},0≤n→n≤4→aZ n 4=n:=fun a b=>by unfold aZ;omega
 refine⟨h,by simp,by simp,fun o ho=>?_,fun n hn=>?_,fun n t ht=>?_,⟨by simp,fun x hx=>?_⟩,⟨?_,?_,?_,fun x hx=>?_,fun r hr w hw=>?_⟩,⟨by simp,fun u hu=>?_⟩,⟨?_,fun x hx=>?_,fun r hr=>?_⟩,(by show(0:Int)≤0∧(0:Int)≤1099511627776;decide),fun w=>?_⟩
 ·rw[(List.mem_replicate.1 ho).2];decide
 ·rw[List.getD_eq_getElem?_getD,List.getElem?_replicate,List.getElem?_replicate,if_pos hn,if_pos hn]
  exact⟨fun h=>(by cases h),fun⟨t,h⟩=>(by cases h)⟩
 ·have ht:(List.replicate 16 (none:Option bF))[n]?=some (some t):=ht
  rw[List.getElem?_replicate] at ht
  split at ht <;> cases ht
 ·rw[(List.mem_replicate.1 hx).2];exact FR
 ·show(List.replicate (aZ p.ay 4).toNat _).length=_;rw[List.length_replicate,cl (by omega) (by omega)]
 ·show(List.replicate (aZ p.conds 4).toNat _).length=_;rw[List.length_replicate,cl (by omega) (by omega)]
 ·show((p.aT.take 4).map _).length=p.aT.length;rw[List.length_map,List.length_take];omega
 ·obtain⟨n,hn,rfl⟩:=List.mem_map.1 (show x∈(p.aT.take 4).map fun n=>(⟨[],aZ n 1048576⟩:jr) from hx)
  show 0≤aZ n 1048576∧aZ n 1048576≤1048576;unfold aZ;omega
 ·have hr:r∈List.replicate (aZ p.conds 4).toNat ([]:List dc):=hr
  rw[(List.mem_replicate.1 hr).2] at hw;cases hw
 ·obtain⟨n,hn,rfl⟩:=List.mem_map.1 (show u∈p.aC.map Tub.new from hu)
  exact⟨by show min (max n 1) 8≤8;omega,by show 0≤8;decide,fun x hx=>(by cases hx),fun x hx=>(by cases hx)⟩
 ·show(List.replicate (aZ p.blocks 64).toNat _).length≤64;rw[List.length_replicate];unfold aZ;omega
 ·have hx:x∈List.replicate (aZ p.blocks 64).toNat (0:Int):=hx
  rw[(List.mem_replicate.1 hx).2];exact FR
 ·cases hr
 ·have e1:cG (Gates.new p.ay p.conds p.aT) w=0:=by
   unfold cG Gates.new
   simp only
   rw[su (f:=fun m:dt=>dj w m.wait) rfl,su (f:=dj w) rfl,pO (fun x hx=>by
    obtain⟨n,hn,rfl⟩:=List.mem_map.1 hx;rfl)]
  have e2:cT (p.aC.map Tub.new) w=0:=pO (fun x hx=>by obtain⟨n,hn,rfl⟩:=List.mem_map.1 hx;rfl)
  have e3:cJ (List.replicate 16 none) w=0:=su rfl
  unfold gH dZ
  simp only[e1,e2,e3]
  have e4:∀ (s:Spc),s.thr=List.replicate 16 none→s.at w=none:=fun s hs=>by
   unfold Spc.at cH
   split
   ·rfl
   ·rw[hs,List.getElem?_replicate];split <;> rfl
  rw[e4 _ rfl]
  rfl
theorem Ok.new{p:eB}(h:xG p):Ok 1 (Spc.new p) [] []:=Ok.begin (Ok.Ko h) (by decide) FR
theorem ej.new{p:eB}:ej (Spc.new p) (Spc.new p).au:=by
 have e:(Spc.new p).au=[]:=by unfold Spc.new;rw[jd]
 rw[e]
 refine⟨so.nil,fun n t ht=>?_,fun r hr=>by cases hr⟩
 have hb:∀ (n:Nat) (t:bF),(Spc.new p).thr[n]?=some (some t)→bT t=0:=fun n t ht=>by
  unfold Spc.new at ht
  rw[dU (n:=0) rfl] at ht
  have ht:((List.replicate 16 (none:Option bF)).set 0 _)[n]?=some (some t):=ht
  by_cases e:0=n
  ·subst e;rw[List.getElem?_set_self (by simp)] at ht;cases ht;rfl
  ·rw[List.getElem?_set_ne e,List.getElem?_replicate] at ht
   split at ht <;> cases ht
 rw[hb n t ht];rfl
end Go.SLYtefdijgllbkmfaaGreat
namespace Go.SLYtefdijgllbkmfaaGreat
open Go Go.RowKit
def tm(k:Nat)(s:Spc):Prop:=Ok k s [] []∧s.au.length≤400002 * k∧ej s s.au
theorem tm.rec{k:Nat}{s:Spc}(h:tm k s)(hk:k≤1990):s.au.length≤800000000:=by have:=h.2.1;omega
theorem tm.Ao{k:Nat}{s:Spc}(h:tm k s)(hk:k≤1990):ig s:=h.1.Ao (by omega) (h.rec hk)
theorem tm.run{k:Nat}{s:Spc}(h:tm k s)(hk:k≤1990)(n c:Int):tm (k+1) (s.run n c).2.2:=by
 obtain⟨a, -, -,b, -, -,r, -⟩:=h.1.run h.2.2 (n:=n) (c:=c) (by omega) (h.rec hk)
 have:=h.2.1
 exact⟨a,by omega,r⟩
theorem tm.done{k:Nat}{s:Spc}(h:tm k s)(c:Int):tm (k+1) (s.done c).2.2:=by
 obtain⟨a, -, -,b, -, -,r, -⟩:=h.1.Km h.2.2 (c:=c)
 have:=h.2.1
 exact⟨a.more (Nat.le_succ _),by omega,r⟩
theorem tm.tick{k:Nat}{s:Spc}(h:tm k s):tm (k+1) s.tick.2:=by
 obtain⟨a, -,b, -, -,r, -⟩:=h.1.Kn h.2.2
 have:=h.2.1
 exact⟨a.more (Nat.le_succ _),by omega,r⟩
theorem tm.new{p:eB}(h:xG p):tm 1 (Spc.new p):=⟨Ok.new h,by
 have:(Spc.new p).au=[]:=by unfold Spc.new;rw[jd]
 rw[this];simp,ej.new⟩
/-! the laws' own fact -/
def Gr(b n:Nat):Value:=.slice (some ⟨b,0,none⟩) n n
deriving instance DecidableEq for bF
end Go.SLYtefdijgllbkmfaaGreat
namespace Go.SLYtefdijgllbkmfaaGreat
open Go Go.RowKit
theorem lZ{P:Program}{t:TypeId}{fs:Array Field}(hu:P.underlying t=some (.struct fs))(hs:P.stoodInHeld t=false)(d:Nat)(xs ys:Array Value)(w:World) :
  (Op.equalIn (d+1) t (.agg xs) (.agg ys)).run P w=(Op.eqFields d xs ys fs.toList).run P w:=by
 have e:P.fieldsOf t=fs:=by unfold Program.fieldsOf;rw[hu]
 have:=run_equalIn_struct (P:=P) (w:=w) d t xs ys (by rw[e];exact hu) hs
 rwa [e] at this
structure LP where
 what:Int
 slot:Int
 choice:Int
def LQ(x:LP):List Value:=[.int .i64 x.what,.int .i64 x.slot,.int .i64 x.choice]
theorem tm.more{k:Nat}{s:Spc}(h:tm k s){k':Nat}(hk:k≤k'):tm k' s:=⟨h.1.more hk,by have:=h.2.1;omega,h.2.2⟩
structure LR(s s':Spc)(e:iY)(n:Int):Prop where
 a:∀ w∈e.aL,w ∉ s.ready∧w∈s'.ready
 g:(e.bA || e.ended)=true→n ∉ s'.ready
 l:s'.ready.length+(if (e.bA || e.ended)=true then 1 else 0)=s.ready.length+e.aL.length
end Go.SLYtefdijgllbkmfaaGreat
namespace Go.SLYtefdijgllbkmfaaGreat
open Go Go.RowKit
structure iF where
 kind:Int
 space:Int
 cy:Int
 choice:Int
deriving DecidableEq
def ek(x:iF):List Value:=[.int .i64 x.kind,.int .i64 x.space,.int .i64 x.cy,.int .i64 x.choice]
def gd(b:Nat)(l:List Spc):aa:=rG (fun _ (xs:List (Nat×Spc))=>xs.map (·.2)=l) fun v xs=>[arr b 0 [v],sl dD 1 v xs,bb (fun x=>dx x.1 x.2) xs]
def oDo(l:List Spc)(a:iF):Int×List Spc :=
 if a.kind=3 then (0,l.map fun s=>s.tick.2) else
 match cH l a.space with
 | none=>(1,l)
 | some s =>
  if a.kind=1 then ((s.run a.cy a.choice).2.1,l.set a.space.toNat (s.run a.cy a.choice).2.2) else
  if a.kind=2 then ((s.done a.choice).2.1,l.set a.space.toNat (s.done a.choice).2.2) else (1,l)
def gJ(k:Nat)(l:List Spc):Prop:=∀ s∈l,tm k s
theorem gJ.act{k:Nat}{l:List Spc}(h:gJ k l)(hk:k≤1990)(a:iF):gJ (k+1) (oDo l a).2:=by
 have hm:∀ s∈l,tm (k+1) s:=fun s hs=>(h s hs).more (Nat.le_succ _)
 unfold oDo
 split
 ·intro s hs
  obtain⟨t,ht,rfl⟩:=List.mem_map.1 hs
  exact(h t ht).tick
 ·split
  ·exact hm
  ·rename_i s e
   have hs:=h s (List.mem_of_getElem? (gG e).2.2)
   split
   ·intro t ht
    rcases List.mem_or_eq_of_mem_set ht with ht | rfl
    ·exact hm t ht
    ·exact hs.run hk _ _
   ·split
    ·intro t ht
     rcases List.mem_or_eq_of_mem_set ht with ht | rfl
     ·exact hm t ht
     ·exact hs.done _
    ·exact hm
theorem AR(l:List Spc)(a:iF):(oDo l a).2.length=l.length:=by
 unfold oDo
 split
 ·simp
 ·split
  ·rfl
  ·split
   ·simp
   ·split
    ·simp
    ·rfl
end Go.SLYtefdijgllbkmfaaGreat
namespace Go.SLYtefdijgllbkmfaaGreat
open Go Go.RowKit Go.ChangeAt Go.ChangeShapes Go.Deep
section
variable{H:Type}{enc:TypeId×Value→H}{P:Program}{W:World}{bulk:DataW H→Nat}
structure wb(bulk:DataW H→Nat):Prop where
 one:∀ d,1≤bulk d
 slice:∀ es sp,(es.map bulk).sum+1≤bulk (.slice es sp)
 agg:∀ ds,(ds.map bulk).sum≤bulk (.agg ds)
def gx(enc:TypeId×Value→H)(P:Program)(W:World)(bulk:DataW H→Nat)(t:TypeId){α:Type}(ea:α→List Value)(good:α→Nat→Prop):Prop :=
 ∀ fuel cs x,DataW.trod enc P W 0 (fun _=>true) true fuel t cs=some x→ ∃ a,cs=ea a∧good a (bulk x.1)
theorem gx.int{t:TypeId}{k:IntKind}(ht:P.underlying t=some (.int k)):gx enc P W bulk t (fun n:Int=>[.int k n]) (fun n _=>(Lit.int k n).wf=true):=fun fuel cs x h=>by
 obtain⟨n,rfl,_,hw⟩:=DataW.trod_int ht h
 exact⟨n,rfl,hw⟩
theorem gx.bool{t:TypeId}(ht:P.underlying t=some .bool):gx enc P W bulk t (fun b:Bool=>[.bool b]) (fun _ _=>True):=fun fuel cs x h=>by
 obtain⟨n,rfl,_⟩:=DataW.trod_bool ht h
 exact⟨n,rfl,trivial⟩
theorem AS{l:List (DataW H)}{d:DataW H}(h:d∈l):bulk d≤(l.map bulk).sum:=by
 induction l with
 | nil=>cases h
 | cons x r ih =>
  simp only[List.map_cons,List.sum_cons]
  cases List.mem_cons.1 h with
  | inl e=>subst e;omega
  | inr e=>have:=ih e;omega
theorem Gs(hb:wb bulk)(l:List (DataW H)):l.length≤(l.map bulk).sum:=by
 induction l with
 | nil=>simp
 | cons x r ih=>have:=hb.one x;simp only[List.map_cons,List.sum_cons,List.length_cons];omega
theorem gx.slice(hb:wb bulk){t e:TypeId}{k:Nat}{α:Type}{ea:α→List Value}{good:α→Nat→Prop}(ht:P.underlying t=some (.slice e))(hc:P.cellsOf e=k)(hk0:0<k)(hk:∀ a,(ea a).length=k)(he:gx enc P W bulk e ea good)
  (mono:∀ a m n,m≤n→good a m→good a n) :
  gx enc P W bulk t (fun p:Value×List α=>[p.1]) (fun p n=>iu W ea k p.1 p.2∧p.2.length+1≤n∧ ∀ a∈p.2,good a n):=fun fuel cs x h=>by
 rcases open_slice ht h with ⟨rfl,rfl⟩ | ⟨a,len,cap,m,n,D,Pl,rfl,hb0,hl,hm,hmm,rfl,hx⟩
 ·refine⟨(.slice none 0 0,[]),rfl,⟨⟨none,0,rfl,Nat.le_refl _,fun _ e _=>by(cases e),fun _=>rfl⟩,fun x hx=>(by cases hx),fun i x hx=>by simp at hx⟩,?_,fun a ha=>by cases ha⟩
  exact hb.one _
 ·simp only[if_true] at hmm
  have hmm':=hmm.symm
  subst hmm'
  have each:∀ i,i<len→ ∃ q:Option α, ∃ y,q=some y∧W.cells? 0 (a.add (i * k)) k=some (ea y)∧good y (bulk (D i)):=fun i hi=>by
   obtain⟨cs',h1,h2⟩:=hx i (Nat.lt_of_lt_of_le hi hl)
   obtain⟨y,rfl,hg⟩:=he _ _ _ h2
   rw[hc] at h1
   exact⟨some y,y,rfl,h1,hg⟩
  obtain⟨f,hf⟩:=choose_lt each
  obtain⟨xs,hxs,hxl⟩:∃ xs:List α,(∀ i y,xs[i]?=some y→i<len∧f i=some y)∧xs.length=len:=by
   clear h hx each
   induction len with
   | zero=>exact⟨[],fun i y h=>by simp at h,rfl⟩
   | succ len ih =>
    obtain⟨xs,h1,h2⟩:=ih (by omega) (fun i hi=>hf i (by omega))
    obtain⟨y,hy,_⟩:=hf len (by omega)
    refine⟨xs++[y],fun i z hz=>?_,by simp[h2]⟩
    by_cases hi:i<xs.length
    ·rw[List.getElem?_append_left hi] at hz
     have:=h1 i z hz
     exact⟨by omega,this.2⟩
    ·rw[List.getElem?_append_right (by omega)] at hz
     have hi0:=(List.getElem?_eq_some_iff.1 hz).1
     simp at hi0
     obtain rfl:i=len:=by omega
     simp[h2] at hz
     subst hz
     exact⟨by omega,hy⟩
  have spot:xs≠[]→a.spot=none:=fun hne=>by
   have h0:0<len:=by rw[← hxl];exact List.length_pos_iff.2 hne
   obtain⟨y,_,hcs,_⟩:=hf 0 h0
   obtain⟨_,hlen,hcell⟩:=World.cells?_some hcs
   have h1:=hcell 0 hk0
   rw[List.getElem?_eq_getElem (by rw[hk];exact hk0)] at h1
   have:=World.cell?_spot h1
   simpa [Addr.add] using this
  have hlenb:len+1≤bulk (.slice ((List.range len).map D) ((List.range (cap-len)).map fun j=>D (len+j))):=by
   have h1:=hb.slice ((List.range len).map D) ((List.range (cap-len)).map fun j=>D (len+j))
   have h2:=Gs hb ((List.range len).map D)
   simp only[List.length_map,List.length_range] at h2
   omega
  refine⟨(.slice (some a) len cap,xs),rfl,⟨⟨some a,cap,by rw[hxl],(by rw[hxl];exact hl),fun b e hne=>by cases e;exact spot hne,fun e=>by cases e⟩,fun x _=>hk x,fun i x hi c u hu=>?_⟩,by rw[hxl];exact hlenb,fun y hy=>?_⟩
  ·obtain⟨hil,hfi⟩:=hxs i x hi
   obtain⟨y,hy,hcs,_⟩:=hf i hil
   rw[hfi] at hy
   cases hy
   obtain⟨_,hlen,hcell⟩:=World.cells?_some hcs
   have hck:=(List.getElem?_eq_some_iff.1 hu).1
   rw[hk] at hck
   have h1:=hcell c hck
   rw[hu] at h1
   have hs:=spot (by intro e;subst e;simp at hi)
   obtain⟨b,o,s⟩:=a
   simp only at hs
   subst hs
   rw[dS,dS] at h1
   exact h1
  ·obtain⟨i,hi⟩:=List.mem_iff_getElem?.1 hy
   obtain⟨hil,hfi⟩:=hxs i y hi
   obtain⟨z,hz,_,hg⟩:=hf i hil
   rw[hfi] at hz
   cases hz
   refine mono y _ _ ?_ hg
   have h1:=hb.slice ((List.range len).map D) ((List.range (cap-len)).map fun j=>D (len+j))
   have h2:bulk (D i)≤(((List.range len).map D).map bulk).sum:=AS (List.mem_map.2 ⟨i,List.mem_range.2 hil,rfl⟩)
   exact Nat.le_trans h2 (Nat.le_trans (Nat.le_succ _) h1)
theorem l1(hb:wb bulk){t:TypeId}{fs:Array Field}{fuel:Nat}{cs:List Value}{x:DataW H×List MemPlace}(ht:P.underlying t=some (.struct fs))(hc:P.cellsOf t=fs.size)(ho:∀ (i:Nat) (f:Field),fs[i]?=some f→f.offset=i∧P.cellsOf f.type=1)
  (h:DataW.trod enc P W 0 (fun _=>true) true fuel t cs=some x) :
  cs.length=fs.size∧ ∀ (i:Nat) (f:Field),fs[i]?=some f→ ∃ v fuel y,cs[i]?=some v∧DataW.trod enc P W 0 (fun _=>true) true fuel f.type [v]=some y∧bulk y.1≤bulk x.1:=by
 obtain⟨xs,n,rfl,rfl,hl,hxl,hf⟩:=DataW.trod_struct ht h
 refine⟨hl.trans hc,fun i f hi=>?_⟩
 have hlt:=(Array.getElem?_eq_some_iff.1 hi).1
 have h1:=hf i f hi
 obtain⟨ho1,ho2⟩:=ho i f hi
 have hil:i<cs.length:=by omega
 rw[ho1,ho2,List.drop_eq_getElem_cons hil,List.take_succ_cons,List.take_zero,List.getElem?_eq_getElem (by omega)] at h1
 refine⟨cs[i],n,_,List.getElem?_eq_getElem hil,h1,?_⟩
 have h2:=hb.agg (xs.map (·.1))
 have h3:bulk (xs[i]'(by omega)).1≤((xs.map (·.1)).map bulk).sum:=AS (List.mem_map.2 ⟨_,List.getElem_mem _,rfl⟩)
 exact Nat.le_trans h3 h2
/-! ### A law's end -/
theorem uf(hl:laidOutB P=true){W W':World}(hb:Below W.heap.size W W'){sp:Nat→Bool} :
  ∀ {ts:List TypeId} {vs:List Value} {ds:List (DataW H)} {p:List MemPlace},ts.all (fun t=>P.readableRec t && decide (t<P.types.size))=true→DataW.TrodAll enc P W 0 (fun _=>true) true ts vs ds p→(∀ x∈p,x.block<W.heap.size)→(∀ x∈p,sp x.block=true)→
   DataW.TrodAll enc P W' 0 sp true ts vs ds p
 | [],[],[],_,_,h,_,_=>h
 | [],[],_::_,_,_,h,_,_=>h.elim
 | [],_::_,_,_,_,h,_,_=>h.elim
 | _::_,[],_,_,_,h,_,_=>h.elim
 | _::_,_::_,[],_,_,h,_,_=>h.elim
 | t::ts,v::vs,d::ds,ps,hr,h,hlt,hsp=>by
  obtain⟨p,q,h1,h2,rfl⟩:=h
  simp only[List.all_cons,Bool.and_eq_true,decide_eq_true_eq] at hr
  refine⟨p,q,WideElems.Trod_stays hl hr.1.1 hr.1.2 h1 (fun x hx=>hb.same (hlt x (by simp[hx]))) (fun x hx=>hsp x (by simp[hx])),?_,rfl⟩
  exact uf hl hb (by simpa using hr.2) h2 (fun x hx=>hlt x (by simp[hx])) (fun x hx=>hsp x (by simp[hx]))
theorem En{f:Func}{s:ChangeSpec}{apart fresh handsOn again:Bool}{W W':World}{args:Array Value}{ds gs:List (DataW H)}{before:List MemPlace}{tb:TypeId}
  (hl:laidOutB P=true) (hrd:f.params.toList.all (fun t=>P.readableRec t && decide (t<P.types.size))=true) (hv:s.vars=[]) (hr:f.resultTypes = #[tb]) (htb:P.underlying tb=some .bool)
  (hW:DataW.Whole enc P f.params.toList s.vars apart W args.toList ds gs before) (h1:(s.fn H ds).results=[.lit (.bool true)]) (h2:(s.fn H ds).args=ds) (h3:(s.fn H ds).vars=[])
  (hb:Below W.heap.size W W'):s.post enc P f apart fresh handsOn again W args (.bool true) W':=by
 have hlt:=fun p hp=>hW.lt p hp
 have hW':=hW
 obtain⟨p,q,hA,hV,rfl,hz,hn⟩:=hW'
 rw[hv] at hV
 obtain⟨rfl,rfl⟩:=trodVars_none hV
 have hres:∀ (b:Nat) (sp:Nat→Bool) (hd:Bool),DataW.TrodAll enc P W' b sp hd f.resultTypes.toList ((Value.bool true).resultList f.resultTypes.size) (s.fn H (ds++[])).results []:=fun b sp hd=>by
  rw[List.append_nil,h1,hr]
  exact trodAll_cons_mk (shut_bool htb _) trodAll_mk0
 have hargs:∀ sp:Nat→Bool,(∀ x∈p++[],sp x.block=true)→DataW.TrodAll enc P W' 0 sp true f.params.toList args.toList (s.fn H (ds++[])).args p:=fun sp hsp=>by
  rw[List.append_nil,h2]
  exact uf hl hb hrd hA (fun x hx=>hlt x (by simp[hx])) (fun x hx=>hsp x (by simp[hx]))
 have hvars:∀ sp:Nat→Bool,DataW.TrodVars enc P W' sp s.vars (s.fn H (ds++[])).vars []:=fun sp=>by
  rw[List.append_nil,h3,hv];rfl
 have hold:∀ x∈p++[],(fun b=>decide (b<W.heap.size)) x.block=true:=fun x hx=>by simpa using hlt x hx
 refine⟨ds,[],p++[],[],p,[],hW,hres _ _ _,hargs _ hold,hvars _,World.keptBut_mono (fun x hx=>⟨hx,?_⟩) (hb.frame _),fun _=>?_⟩
 ·simp only[List.append_nil] at hx
  exact Or.inr (by simpa using hx)
 ·refine⟨ok_one hr rfl (okWide_bool_mk htb _),_,_,([]++p)++[],⟨[]++p,[],trodAll_append (hargs _ (fun _ _=>rfl)) (hres _ _ _),hvars _,rfl,?_,?_⟩,?_⟩
  ·intro b off hp
   have hp':MemPlace.cell b off∈p:=by simpa using hp
   have:=hz b off (by simp[hp'])
   rw[← this]
   exact hb.frozen (p:=⟨b,off,none⟩) (hlt (.cell b off) (by simp[hp']))
  ·intro ha
   simpa using hn ha
  ·intro x hx _
   simpa using hx
theorem Fn.done{f:FuncId}{args:List Value}{X:Type}{v:Value}(h:Fn P W f args [] X (fun _=>v) (fun _=>True) (fun _=>[])):Calls P f args.toArray W fun e w'=>e = .returned v∧Below W.heap.size W w' :=
 (h SLYtefdijgllbkmfaaGreat.emp W (by simpa only[seps,aO] using Sat.empty)).mono fun e w' ⟨x,he,_,hs⟩=>⟨he,hs.Ig⟩
end
end Go.SLYtefdijgllbkmfaaGreat
namespace Go.Proofs.YtefdijgllbkmfaaGreat
open Go Go.RowKit Go.ChangeShapes Go.WideShapes Go.ChangeAt Go.SLYtefdijgllbkmfaaGreat
/-! the bulk of what is read -/
theorem kY{H:Type}:∀ l:List (DataW H),Rows.uptoBulkAll l=(l.map Rows.uptoBulk).sum
 | []=>by simp[Rows.uptoBulkAll]
 | d::r=>by simp[Rows.uptoBulkAll,kY r]
theorem l2{H:Type}:wb (Rows.uptoBulk (H:=H)) where
 one:=fun d=>by
  cases d with
  | lit l=>cases l <;> simp[Rows.uptoBulk]
  | nil=>simp[Rows.uptoBulk]
  | ptr d=>simp[Rows.uptoBulk]
  | slice elems spare=>simp[Rows.uptoBulk]
  | agg parts=>simp[Rows.uptoBulk]
  | iface t d=>simp[Rows.uptoBulk]
  | map entries=>simp[Rows.uptoBulk]
  | held h=>simp[Rows.uptoBulk]
 slice:=fun es sp=>by rw[← kY];simp only[Rows.uptoBulk];omega
 agg:=fun ds=>by rw[← kY];simp only[Rows.uptoBulk];omega
theorem bound{H:Type}{l:List (DataW H)}(hk:Rows.uptoSmall H l=true):(l.map Rows.uptoBulk).sum≤1048576:=by
 rw[← kY];simpa [Rows.uptoSmall] using hk
structure AU(W:World)(v:bI)(n:Nat):Prop where
 fs:iu W cj 1 v.fv v.fs
 ins:∀ x∈v.fs,iu W dC 5 x.1 x.2
 aT:iu W aP 1 v.sv v.aT
 aC:iu W aP 1 v.pv v.aC
 fl:v.fs.length≤n
 sl:v.aT.length≤n
 pl:v.aC.length≤n
 wo:∀ f∈v.p.funcs, ∀ i∈f,ff i.n
theorem AU.rd{W:World}{v:bI}{n:Nat}(h:AU W v n)(H:List aa):eD W H v:=⟨.old h.fs,fun x hx=>.old (h.ins x hx),.old h.aT,.old h.aC⟩
section
variable{H:Type}{enc:TypeId×Value→H}{W:World}
theorem Eo:gx enc Tryz.prog W Rows.uptoBulk 131 dC (fun i _=>ff i.n):=fun fuel cs x h=>by
 obtain⟨hl,hf⟩:=l1 l2 Tryz.underlying131 (by kernel_rfl) (by
  intro i f hi
  match i,hi with
  | 0,hi=>cases hi;exact⟨rfl,by kernel_rfl⟩
  | 1,hi=>cases hi;exact⟨rfl,by kernel_rfl⟩
  | 2,hi=>cases hi;exact⟨rfl,by kernel_rfl⟩
  | 3,hi=>cases hi;exact⟨rfl,by kernel_rfl⟩
  | 4,hi=>cases hi;exact⟨rfl,by kernel_rfl⟩
  | n+5,hi=>simp at hi) h
 obtain⟨v0,n0,y0,e0,t0,_⟩:=hf 0 _ rfl
 obtain⟨v1,n1,y1,e1,t1,_⟩:=hf 1 _ rfl
 obtain⟨v2,n2,y2,e2,t2,_⟩:=hf 2 _ rfl
 obtain⟨v3,n3,y3,e3,t3,_⟩:=hf 3 _ rfl
 obtain⟨v4,n4,y4,e4,t4,_⟩:=hf 4 _ rfl
 obtain⟨a0,r0,_,_⟩:=DataW.trod_int Tryz.underlying3 t0
 obtain⟨a1,r1,_,_⟩:=DataW.trod_int Tryz.underlying3 t1
 obtain⟨a2,r2,_,_⟩:=DataW.trod_int Tryz.underlying3 t2
 obtain⟨a3,r3,_,_⟩:=DataW.trod_int Tryz.underlying3 t3
 obtain⟨a4,r4,_,w4⟩:=DataW.trod_int Tryz.underlying38 t4
 cases r0;cases r1;cases r2;cases r3;cases r4
 refine⟨⟨a0,a1,a2,a3,a4⟩,?_,bounds_u64 w4⟩
 match cs,hl with
 | [w0,w1,w2,w3,w4],_ =>
  simp at e0 e1 e2 e3 e4
  subst e0 e1 e2 e3 e4
  rfl
theorem B5:gx enc Tryz.prog W Rows.uptoBulk 128 (cj (α:=List Ins)) (fun p n=>iu W dC 5 p.1 p.2∧p.2.length+1≤n∧ ∀ a∈p.2,ff a.n) :=
 gx.slice l2 Tryz.underlying128 (by kernel_rfl) (by decide) (fun _=>rfl) Eo (fun _ _ _ _ h=>h)
theorem zw:gx enc Tryz.prog W Rows.uptoBulk 22 (fun p:Value×List (Value×List Ins)=>[p.1]) (fun p n=>iu W cj 1 p.1 p.2∧p.2.length+1≤n∧ ∀ a∈p.2,iu W dC 5 a.1 a.2∧a.2.length+1≤n∧ ∀ b∈a.2,ff b.n) :=
 gx.slice l2 Tryz.underlying22 (by kernel_rfl) (by decide) (fun _=>rfl) B5 (fun _ _ _ hm h=>⟨h.1,Nat.le_trans h.2.1 hm,h.2.2⟩)
theorem ug:gx enc Tryz.prog W Rows.uptoBulk 23 (fun p:Value×List Int=>[p.1]) (fun p n=>iu W aP 1 p.1 p.2∧p.2.length+1≤n∧ ∀ a∈p.2,True) :=
 gx.slice l2 Tryz.underlying23 (by kernel_rfl) (by decide) (fun _=>rfl) (fun fuel cs x h=>by
  obtain⟨n,rfl,_,_⟩:=DataW.trod_int Tryz.underlying3 h
  exact⟨n,rfl,trivial⟩) (fun _ _ _ _ _=>trivial)
theorem Ep:gx enc Tryz.prog W Rows.uptoBulk 25 eg (fun v n=>AU W v n):=fun fuel cs x h=>by
 obtain⟨hl,hf⟩:=l1 l2 Tryz.underlying25 (by kernel_rfl) (by
  intro i f hi
  match i,hi with
  | 0,hi=>cases hi;exact⟨rfl,by kernel_rfl⟩
  | 1,hi=>cases hi;exact⟨rfl,by kernel_rfl⟩
  | 2,hi=>cases hi;exact⟨rfl,by kernel_rfl⟩
  | 3,hi=>cases hi;exact⟨rfl,by kernel_rfl⟩
  | 4,hi=>cases hi;exact⟨rfl,by kernel_rfl⟩
  | 5,hi=>cases hi;exact⟨rfl,by kernel_rfl⟩
  | 6,hi=>cases hi;exact⟨rfl,by kernel_rfl⟩
  | 7,hi=>cases hi;exact⟨rfl,by kernel_rfl⟩
  | n+8,hi=>simp at hi) h
 obtain⟨v0,n0,y0,e0,t0,b0⟩:=hf 0 _ rfl
 obtain⟨v1,n1,y1,e1,t1,_⟩:=hf 1 _ rfl
 obtain⟨v2,n2,y2,e2,t2,_⟩:=hf 2 _ rfl
 obtain⟨v3,n3,y3,e3,t3,_⟩:=hf 3 _ rfl
 obtain⟨v4,n4,y4,e4,t4,b4⟩:=hf 4 _ rfl
 obtain⟨v5,n5,y5,e5,t5,b5⟩:=hf 5 _ rfl
 obtain⟨v6,n6,y6,e6,t6,_⟩:=hf 6 _ rfl
 obtain⟨v7,n7,y7,e7,t7,_⟩:=hf 7 _ rfl
 obtain⟨⟨fv,fs⟩,r0,f1,f2,f3⟩:=zw _ _ _ t0
 obtain⟨a1,r1,_,_⟩:=DataW.trod_int Tryz.underlying3 t1
 obtain⟨a2,r2,_,_⟩:=DataW.trod_int Tryz.underlying3 t2
 obtain⟨a3,r3,_,_⟩:=DataW.trod_int Tryz.underlying3 t3
 obtain⟨⟨sv,aT⟩,r4,s1,s2,_⟩:=ug _ _ _ t4
 obtain⟨⟨pv,aC⟩,r5,p1,p2,_⟩:=ug _ _ _ t5
 obtain⟨a6,r6,_,_⟩:=DataW.trod_int Tryz.underlying3 t6
 obtain⟨a7,r7,_,_⟩:=DataW.trod_int Tryz.underlying3 t7
 cases r0;cases r1;cases r2;cases r3;cases r4;cases r5;cases r6;cases r7
 refine⟨⟨fv,fs,a1,a2,a3,sv,aT,pv,aC,a6,a7⟩,?_,⟨f1,fun x hx=>(f3 x hx).1,s1,p1,?_,?_,?_,?_⟩⟩
 ·match cs,hl with
  | [w0,w1,w2,w3,w4,w5,w6,w7],_ =>
   simp at e0 e1 e2 e3 e4 e5 e6 e7
   subst e0 e1 e2 e3 e4 e5 e6 e7
   rfl
 ·exact Nat.le_trans (Nat.le_of_succ_le f2) b0
 ·exact Nat.le_trans (Nat.le_of_succ_le s2) b4
 ·exact Nat.le_trans (Nat.le_of_succ_le p2) b5
 ·intro f hf i hi
  obtain⟨q,hq,rfl⟩:=List.mem_map.1 hf
  exact(f3 q hq).2.2 i hi
theorem B6:gx enc Tryz.prog W Rows.uptoBulk 67 (fun p:Value×List bI=>[p.1]) (fun p n=>iu W eg 8 p.1 p.2∧p.2.length+1≤n∧ ∀ a∈p.2,AU W a n) :=
 gx.slice l2 Tryz.underlying67 (by kernel_rfl) (by decide) (fun _=>rfl) Ep (fun _ _ _ hm h=>⟨h.fs,h.ins,h.aT,h.aC,Nat.le_trans h.fl hm,Nat.le_trans h.sl hm,Nat.le_trans h.pl hm,h.wo⟩)
theorem Er:gx enc Tryz.prog W Rows.uptoBulk 74 ek (fun _ _=>True):=fun fuel cs x h=>by
 obtain⟨hl,hf⟩:=l1 l2 Tryz.underlying74 (by kernel_rfl) (by
  intro i f hi
  match i,hi with
  | 0,hi=>cases hi;exact⟨rfl,by kernel_rfl⟩
  | 1,hi=>cases hi;exact⟨rfl,by kernel_rfl⟩
  | 2,hi=>cases hi;exact⟨rfl,by kernel_rfl⟩
  | 3,hi=>cases hi;exact⟨rfl,by kernel_rfl⟩
  | n+4,hi=>simp at hi) h
 obtain⟨v0,n0,y0,e0,t0,_⟩:=hf 0 _ rfl
 obtain⟨v1,n1,y1,e1,t1,_⟩:=hf 1 _ rfl
 obtain⟨v2,n2,y2,e2,t2,_⟩:=hf 2 _ rfl
 obtain⟨v3,n3,y3,e3,t3,_⟩:=hf 3 _ rfl
 obtain⟨a0,r0,_,_⟩:=DataW.trod_int Tryz.underlying3 t0
 obtain⟨a1,r1,_,_⟩:=DataW.trod_int Tryz.underlying3 t1
 obtain⟨a2,r2,_,_⟩:=DataW.trod_int Tryz.underlying3 t2
 obtain⟨a3,r3,_,_⟩:=DataW.trod_int Tryz.underlying3 t3
 cases r0;cases r1;cases r2;cases r3
 refine⟨⟨a0,a1,a2,a3⟩,?_,trivial⟩
 match cs,hl with
 | [w0,w1,w2,w3],_ =>
  simp at e0 e1 e2 e3
  subst e0 e1 e2 e3
  rfl
theorem B7:gx enc Tryz.prog W Rows.uptoBulk 68 (fun p:Value×List iF=>[p.1]) (fun p n=>iu W ek 4 p.1 p.2∧p.2.length+1≤n∧ ∀ a∈p.2,True) :=
 gx.slice l2 Tryz.underlying68 (by kernel_rfl) (by decide) (fun _=>rfl) Er (fun _ _ _ _ _=>trivial)
end
theorem own:ownKnob Tryz.prog.godebug=none:=by kernel_rfl
theorem laid:laidOutB Tryz.prog=true:=by kernel_rfl
end Go.Proofs.YtefdijgllbkmfaaGreat
namespace Go.SLYtefdijgllbkmfaaGreat
open Go Go.RowKit
class kF(P:Program)(t:TypeId)(u:outParam TypeDesc):Prop where
 ok:P.underlying t=some u
class ij(P:Program)(t:TypeId)(k:outParam Nat):Prop where
 ok:∀ w,(sizeOf t).run P w = .ok k w
class One(P:Program)(t:TypeId):Prop where
 ok:∀ w,(isAgg t).run P w = .ok false w
class iB(P:Program)(t:TypeId):Prop where
 ok:∀ w,(isAgg t).run P w = .ok true w
class cP(P:Program)(S:TypeId)(f:Nat)(k:outParam Nat):Prop where
 ok:∀ (b o:Nat) (w:World),(Instr.fieldAt S (.pointer (some ⟨b,o,none⟩)) f).run P w = .ok (.pointer (some ⟨b,o+k,none⟩)) w
section
variable{P:Program}{W:World}{N:Nat}{Q:Exit→Act→World→Prop}{L:List (Nat×Option Value)}{H:List aa}{O:Array Oper}{T:TypeId}{K:List aa}{ks:List Nat}
theorem Y.o{S:TypeId}{f k:Nat}[h:cP P S f k]{x:Operand}{b o:Nat}(hx:ev L x=some (.pointer (some ⟨b,o,none⟩))):Y P W N (.fieldAddr S x f) T L H (.pointer (some ⟨b,o+k,none⟩)):=fun dst pos after guard a w ha hs=>by
 simp only[execOp,ha.eval hx]
 exact bE (h.ok b o w)
theorem Y.f{S:TypeId}{f k:Nat}[h:cP P S f k]{x:Operand}{b:Nat}(hx:ev L x=some (.pointer (some ⟨b,0,none⟩))):Y P W N (.fieldAddr S x f) T L H (.pointer (some ⟨b,k,none⟩)):=by
 have:=Y.o (P:=P) (W:=W) (N:=N) (H:=H) (T:=T) (S:=S) (f:=f) (k:=k) hx
 rwa [Nat.zero_add] at this
theorem Y.z{S:TypeId}{f:Nat}[h:cP P S f 0]{x:Operand}{b o:Nat}(hx:ev L x=some (.pointer (some ⟨b,o,none⟩))):Y P W N (.fieldAddr S x f) T L H (.pointer (some ⟨b,o,none⟩)):=Y.o (k:=0) hx
theorem Y.ld{x:Operand}{b o:Nat}{v:Value}[h:One P T]{T':TypeId}(hx:ev L x=some (.pointer (some ⟨b,o,none⟩)))(hc:Cell W H b o v):Y P W N (.load T x) T' L H v:=Y.load h.ok hx hc
theorem Y.l{x:Operand}{b i:Nat}{v:Value}{cs:List Value}[h:One P T]{T':TypeId}(hx:ev L x=some (.pointer (some ⟨b,i,none⟩)))[hh:aW H b 0 cs](hc:cs[i]?=some v:=by rfl):Y P W N (.load T x) T' L H v:=Y.load h.ok hx (Cell.a hc)
theorem Y.lo{x:Operand}{b o i:Nat}{v:Value}{cs:List Value}[h:One P T]{T':TypeId}(hx:ev L x=some (.pointer (some ⟨b,o+i,none⟩)))[hh:aW H b o cs](hc:cs[i]?=some v:=by rfl):Y P W N (.load T x) T' L H v:=Y.load h.ok hx (Cell.ao hc)
theorem Y.lz{x:Operand}{b o:Nat}{v:Value}{cs:List Value}[h:One P T]{T':TypeId}(hx:ev L x=some (.pointer (some ⟨b,o,none⟩)))[hh:aW H b o cs](hc:cs[0]?=some v:=by rfl):Y P W N (.load T x) T' L H v:=Y.load h.ok hx (Cell.az hc)
theorem Y.lr{α:Type}{enc:α→List Value}{k i:Nat}{v u:Value}{xs:List α}{y:α}{x:Operand}[h:One P T]{T':TypeId}(hx:ev L x=some (.pointer (some ⟨blk v,cB v+i * k,none⟩)))(hy:xs[i]?=some y)[hr:aJ W H v enc k xs](hu:(enc y)[0]?=some u:=by rfl):Y P W N (.load T x) T' L H u:=Y.load h.ok hx (Cell.yQ hr.rd hy hu)
theorem Y.la{x:Operand}{b o k:Nat}{cs:List Value}[h:iB P T][z:ij P T k]{T':TypeId}(hx:ev L x=some (.pointer (some ⟨b,o,none⟩)))(hc:Cells W H b o cs)(hz:cs.length=k:=by rfl):Y P W N (.load T x) T' L H (.agg cs.toArray):=Y.FP h.ok hx hc (by rw[hz];exact z.ok)
theorem Y.lA{x:Operand}{b o k:Nat}{cs:List Value}[h:iB P T][z:ij P T k]{T':TypeId}(hx:ev L x=some (.pointer (some ⟨b,o,none⟩)))[hh:aW H b o cs](hz:cs.length=k:=by rfl):Y P W N (.load T x) T' L H (.agg cs.toArray):=Y.la hx Cells.a hz
theorem Y.len{α:Type}{enc:α→List Value}{k:Nat}{x:Operand}{t e:TypeId}{v:Value}{xs:List α}[hu:kF P t (.slice e)](hx:ev L x=some v)[h:aJ W H v enc k xs]:Y P W N (.call ⟨.builtin .len, #[x], #[t]⟩) T L H (.int .i64 (xs.length:Int)):=Y.Db hu.ok hx h.rd
theorem Y.lens{x:Operand}{t e:TypeId}{p:Option Addr}{n c:Nat}[hu:kF P t (.slice e)](hx:ev L x=some (.slice p n c)):Y P W N (.call ⟨.builtin .len, #[x], #[t]⟩) T L H (.int .i64 n):=Y.wV hu.ok hx
theorem Y.ix{α:Type}{enc:α→List Value}{k:Nat}{x y:Operand}{t e:TypeId}{v:Value}{xs:List α}{kd:IntKind}{j:Int}(i:Nat)[hu:kF P t (.slice e)][hz:ij P e k](hx:ev L x=some v)(hy:ev L y=some (.int kd j))[h:aJ W H v enc k xs](hj:j=(i:Int))(hi:i<xs.length):Y P W N (.indexAddr t x y) T L H (.pointer (some ⟨blk v,cB v+i * k,none⟩)):=Y.hY i hu.ok hz.ok hx hy h.rd hj hi
theorem Y.LS{xT e yT:TypeId}{x y:Operand}{p:Option Addr}[hu:kF P xT (.pointer e)](hx:ev L x=some (.pointer p))(hy:ev L y=some (.pointer none)):Y P W N (.binOp .eql xT x y yT) T L H (.bool p.isNone):=Y.C5 hu.ok hx hy
theorem Y.Lf{xT e yT:TypeId}{x y:Operand}{p:Option Addr}[hu:kF P xT (.pointer e)](hx:ev L x=some (.pointer p))(hy:ev L y=some (.pointer none)):Y P W N (.binOp .neq xT x y yT) T L H (.bool (!p.isNone)):=Y.Bt hu.ok hx hy
theorem aS.p{op:Op}{pos:String}{after:Array Edge}{d:Nat}{rest:List Oper}{v:Value}(hy:Y P W N op T L H v)(k:aS P W N O Q rest ((d,some v)::L) H)(hN:Nat.blt d N=true:=by rfl):aS P W N O Q (⟨some d,op,T,pos,after,none⟩::rest) L H:=aS.y hN hy k
theorem aS.g{op:Op}{pos:String}{after:Array Edge}{d j t:Nat}{want:Bool}{rest:List Oper}{v:Value}(hy:Y P W N op T L H v)(k:aS P W N O Q rest ((d,some v)::L) H)(hj:(O[j]?).bind (·.dst)=some t:=by rfl)(ht:look L t=some (.bool want):=by rfl)(hN:Nat.blt d N=true:=by rfl):aS P W N O Q (⟨some d,op,T,pos,after,some (j,want)⟩::rest) L H:=aS.yg hj ht hN hy k
theorem aS.u{op:Op}{pos:String}{after:Array Edge}{d j t:Nat}{want:Bool}{rest:List Oper}{u:Value}(k:aS P W N O Q rest ((d,some undef)::L) H)(hj:(O[j]?).bind (·.dst)=some t:=by rfl)(ht:look L t=some u:=by rfl)(hb:(boolOf u == some want)=false:=by rfl)(hN:Nat.blt d N=true:=by rfl):aS P W N O Q (⟨some d,op,T,pos,after,some (j,want)⟩::rest) L H:=aS.skip hj ht hb hN k
theorem bo.p{op:Op}{pos:String}{after:Array Edge}{d:Nat}{rest:List Oper}{v:Value}(hy:Y P W N op T L H v)(k:bo P W N K O Q ks rest ((d,some v)::L) H)(hN:Nat.blt d N=true:=by rfl):bo P W N K O Q (1::ks) (⟨some d,op,T,pos,after,none⟩::rest) L H:=bo.s hN hy k
theorem bo.q{op:Op}{pos:String}{after:Array Edge}{d:Nat}{rest:List Oper}{v:Value}(hy:Y P W N op T L K v)(k:bo P W N K O Q ks rest ((d,some v)::L) H)(hN:Nat.blt d N=true:=by rfl)(hK:∀ w,Sat W w (seps H)→Sat W w (seps K):=by exact Kept.auto):bo P W N K O Q (0::ks) (⟨some d,op,T,pos,after,none⟩::rest) L H:=bo.k hN hK hy k
theorem bo.g{op:Op}{pos:String}{after:Array Edge}{d j t:Nat}{want:Bool}{rest:List Oper}{v:Value}(hy:Y P W N op T L H v)(k:bo P W N K O Q ks rest ((d,some v)::L) H)(hj:(O[j]?).bind (·.dst)=some t:=by rfl)(ht:look L t=some (.bool want):=by rfl)(hN:Nat.blt d N=true:=by rfl):bo P W N K O Q (1::ks) (⟨some d,op,T,pos,after,some (j,want)⟩::rest) L H:=bo.sg hj ht hN hy k
theorem bo.h{op:Op}{pos:String}{after:Array Edge}{d j t:Nat}{want:Bool}{rest:List Oper}{v:Value}(hy:Y P W N op T L K v)(k:bo P W N K O Q ks rest ((d,some v)::L) H)(hj:(O[j]?).bind (·.dst)=some t:=by rfl)(ht:look L t=some (.bool want):=by rfl)(hN:Nat.blt d N=true:=by rfl)(hK:∀ w,Sat W w (seps H)→Sat W w (seps K):=by exact Kept.auto):bo P W N K O Q (0::ks) (⟨some d,op,T,pos,after,some (j,want)⟩::rest) L H:=bo.kg hj ht hN hK hy k
theorem bo.u{op:Op}{pos:String}{after:Array Edge}{d j t:Nat}{want:Bool}{rest:List Oper}{u:Value}(k:bo P W N K O Q ks rest ((d,some undef)::L) H)(hj:(O[j]?).bind (·.dst)=some t:=by rfl)(ht:look L t=some u:=by rfl)(hb:(boolOf u == some want)=false:=by rfl)(hN:Nat.blt d N=true:=by rfl)(hK:∀ w,Sat W w (seps H)→Sat W w (seps K):=by exact Kept.auto):bo P W N K O Q (0::ks) (⟨some d,op,T,pos,after,some (j,want)⟩::rest) L H:=bo.JV hj ht hb hN hK k
theorem bo.w{op:Op}{pos:String}{after:Array Edge}{d j t:Nat}{want:Bool}{rest:List Oper}{u:Value}(k:bo P W N K O Q ks rest ((d,some undef)::L) H)(hj:(O[j]?).bind (·.dst)=some t:=by rfl)(ht:look L t=some u:=by rfl)(hb:(boolOf u == some want)=false:=by rfl)(hN:Nat.blt d N=true:=by rfl):bo P W N K O Q (1::ks) (⟨some d,op,T,pos,after,some (j,want)⟩::rest) L H:=bo.JW hj ht hb hN k
end
end Go.SLYtefdijgllbkmfaaGreat
namespace Go.SLYtefdijgllbkmfaaGreat
open Go
def fS:Nat:=9223372036854775808
def fD:Nat:=4503599627370496
def bR:Nat:=9218868437227405312
def fW(r:Nat):Nat:=if r<fD then r else (fD+r % fD) * 2 ^ (r / fD-1)
def cQ(w:Nat):Bool:=w / fS % 2 == 1
def kG(w:Nat):Int:=if cQ w=true then -(fW (w % fS):Int) else (fW (w % fS):Int)
theorem gm:Ieee.double.signWeight=fS∧Ieee.double.binade=fD∧Ieee.double.infRung=bR∧Ieee.double.leastPlace = -1074:=by decide +kernel
theorem jf{w:Nat}(h:w % fS<bR):∃ m p,Ieee.double.read w = .number (cQ w) m p∧ -1074≤p∧m * 2 ^ (p+1074).toNat=fW (w % fS)∧(m=0↔w % fS=0):=by
 obtain⟨c1,c2,c3,c4⟩:=gm
 unfold Ieee.Format.read
 simp only
 rw[c1,c2,c3,c4]
 by_cases h1:w % fS<fD
 ·rw[if_pos h1]
  refine⟨_,_,rfl,by decide,?_,Iff.rfl⟩
  unfold fW
  rw[if_pos h1]
  simp
 ·rw[if_neg h1,if_pos h]
  refine⟨_,_,rfl,by omega,?_,?_⟩
  ·unfold fW
   rw[if_neg h1]
   congr 2
   omega
  ·unfold fD at *;omega
theorem jg{w:Nat}(h:w % fS=bR):Ieee.double.read w = .infinity (cQ w):=by
 obtain⟨c1,c2,c3,c4⟩:=gm
 unfold Ieee.Format.read
 simp only
 rw[c1,c2,c3,c4,if_neg (by rw[h];decide),if_neg (by rw[h];decide),if_pos h];rfl
theorem kh{w:Nat}(h:bR<w % fS):∃ f,Ieee.double.read w = .nan (cQ w) f:=by
 obtain⟨c1,c2,c3,c4⟩:=gm
 unfold Ieee.Format.read
 simp only
 rw[c1,c2,c3,c4,if_neg (by unfold bR fD at *;omega),if_neg (by omega),if_neg (by omega)]
 exact⟨_,rfl⟩
theorem ik{r s:Nat}(h:r<s):fW r<fW s:=by
 have hD:0<fD:=by decide
 unfold fW
 by_cases h1:s<fD
 ·rw[if_pos (by omega),if_pos h1];exact h
 ·rw[if_neg h1]
  have hs1:1≤s / fD:=by
   rw[Nat.le_div_iff_mul_le hD];omega
  by_cases h2:r<fD
  ·rw[if_pos h2]
   have:fD * 1≤(fD+s % fD) * 2 ^ (s / fD-1):=Nat.mul_le_mul (Nat.le_add_right ..) (Nat.one_le_two_pow)
   omega
  ·rw[if_neg h2]
   have hr1:1≤r / fD:=by
    rw[Nat.le_div_iff_mul_le hD];omega
   have hle:r / fD≤s / fD:=Nat.div_le_div_right (Nat.le_of_lt h)
   have er:=Nat.div_add_mod r fD
   have es:=Nat.div_add_mod s fD
   have hrm:=Nat.mod_lt r hD
   by_cases e:r / fD=s / fD
   ·rw[e] at er ⊢
    exact Nat.mul_lt_mul_of_pos_right (by omega) (Nat.two_pow_pos _)
   ·have hlt:r / fD-1+1≤s / fD-1:=by omega
    have p1:2 ^ (r / fD-1+1)≤2 ^ (s / fD-1):=Nat.pow_le_pow_right (by decide) hlt
    rw[Nat.pow_succ] at p1
    calc (fD+r % fD) * 2 ^ (r / fD-1)<(fD+fD) * 2 ^ (r / fD-1):=Nat.mul_lt_mul_of_pos_right (by omega) (Nat.two_pow_pos _)
     _=fD * (2 ^ (r / fD-1) * 2):=by rw[← Nat.two_mul,Nat.mul_comm 2 fD,Nat.mul_assoc,Nat.mul_comm 2]
     _≤fD * 2 ^ (s / fD-1):=Nat.mul_le_mul_left _ p1
     _≤(fD+s % fD) * 2 ^ (s / fD-1):=Nat.mul_le_mul_right _ (Nat.le_add_right ..)
theorem val_inj{r s:Nat}:fW r=fW s↔r=s:=by
 constructor
 ·intro h
  rcases Nat.lt_trichotomy r s with g | g | g
  ·have:=ik g;omega
  ·exact g
  ·have:=ik g;omega
 ·intro h;rw[h]
theorem wc{r s:Nat}:fW r<fW s↔r<s:=by
 constructor
 ·intro h
  rcases Nat.lt_trichotomy r s with g | g | g
  ·exact g
  ·rw[g] at h;omega
  ·have:=ik g;omega
 ·exact ik
theorem val_zero:fW 0=0:=rfl
theorem zx(s:Bool)(m u k:Nat):Ieee.signed s m u * (2 ^ k:Nat)=if s=true then -((m * 2 ^ (u+k):Nat):Int) else ((m * 2 ^ (u+k):Nat):Int):=by
 unfold Ieee.signed
 rw[Nat.shiftLeft_eq,Nat.pow_add, ← Nat.mul_assoc]
 cases s
 ·simp
 ·simp[Int.neg_mul]
theorem B8{x y:Int}{k:Nat}(hk:0<k):compare x y=compare (x * (k:Int)) (y * (k:Int)):=by
 have hk2:(0:Int)<(k:Int):=by omega
 show compareOfLessAndEq x y=compareOfLessAndEq _ _
 unfold compareOfLessAndEq
 by_cases h1:x<y
 ·rw[if_pos h1,if_pos (Int.mul_lt_mul_of_pos_right h1 hk2)]
 ·rw[if_neg h1,if_neg (fun h=>h1 (Int.lt_of_mul_lt_mul_right h (Int.le_of_lt hk2)))]
  by_cases h2:x=y
  ·rw[if_pos h2,if_pos (by rw[h2])]
  ·rw[if_neg h2,if_neg (fun h=>h2 (Int.eq_of_mul_eq_mul_right (by omega) h))]
theorem Es{w:Nat}{m:Nat}{p:Int}(h2:m * 2 ^ (p+1074).toNat=fW (w % fS)){b:Int}(hb : -1074≤b)(hp:b≤p):Ieee.signed (cQ w) m (p-b).toNat * ((2 ^ (b+1074).toNat:Nat):Int)=kG w:=by
 rw[zx,show(p-b).toNat+(b+1074).toNat=(p+1074).toNat by omega,h2];rfl
theorem oH{a b:Nat}(ha:¬bR<a % fS)(hb:¬bR<b % fS):Ieee.double.order a b=some (compare (kG a) (kG b)):=by
 have hI:∀ {w:Nat},w % fS=bR→kG w=if cQ w=true then -(fW bR:Int) else (fW bR:Int):=fun h=>by unfold kG;rw[h]
 have cl:∀ {x y:Int},x<y→compare x y = .lt:=fun h=>by show compareOfLessAndEq _ _=_;unfold compareOfLessAndEq;rw[if_pos h]
 have cg:∀ {x y:Int},y<x→compare x y = .gt:=fun h=>by show compareOfLessAndEq _ _=_;unfold compareOfLessAndEq;rw[if_neg (by omega),if_neg (by omega)]
 have ce:∀ {x:Int},compare x x = .eq:=fun {x}=>by show compareOfLessAndEq _ _=_;unfold compareOfLessAndEq;rw[if_neg (Int.lt_irrefl _),if_pos rfl]
 have bd:∀ {w:Nat},w % fS<bR→ -(fW bR:Int)<kG w∧kG w<(fW bR:Int):=fun {w} h=>by
  have:=ik h
  unfold kG
  split <;> omega
 have hp:0<fW bR:=by have:=ik (show 0<bR by decide);rw[val_zero] at this;exact this
 unfold Ieee.Format.order
 by_cases h1:a % fS=bR
 ·rw[jg h1,hI h1]
  by_cases h2:b % fS=bR
  ·rw[jg h2,hI h2]
   cases cQ a <;> cases cQ b
   ·rw[if_neg (by decide),ce];rfl
   ·rw[if_neg (by decide),if_pos rfl,cg (by omega)];rfl
   ·rw[if_pos rfl,if_neg (by decide),cl (by omega)];rfl
   ·rw[if_pos rfl,ce];rfl
  ·obtain⟨n,j,e2, -, -, -⟩:=jf (w:=b) (by omega)
   have:=bd (w:=b) (by omega)
   rw[e2]
   cases cQ a
   ·rw[if_neg (by decide),cg this.2];rfl
   ·rw[if_pos rfl,cl this.1];rfl
 ·obtain⟨m,i,e1,i1,i2, -⟩:=jf (w:=a) (by omega)
  rw[e1]
  by_cases h2:b % fS=bR
  ·have:=bd (w:=a) (by omega)
   rw[jg h2,hI h2]
   cases cQ b
   ·rw[if_neg (by decide),cl this.2];rfl
   ·rw[if_pos rfl,cg this.1];rfl
  ·obtain⟨n,j,e2,j1,j2, -⟩:=jf (w:=b) (by omega)
   rw[e2]
   show some (compare (Ieee.signed (cQ a) m (i-min i j).toNat) (Ieee.signed (cQ b) n (j-min i j).toNat))=_
   rw[B8 (k:=2 ^ (min i j+1074).toNat) (Nat.two_pow_pos _),Es i2 (by omega) (by omega),Es j2 (by omega) (by omega)]
theorem sz{a b:Nat}(ha:bR<a % fS):Ieee.double.order a b=none:=by
 obtain⟨f,e⟩:=kh ha
 unfold Ieee.Format.order
 rw[e];rfl
theorem zy{a b:Nat}(hb:bR<b % fS):Ieee.double.order a b=none:=by
 obtain⟨f,e⟩:=kh hb
 unfold Ieee.Format.order
 rw[e]
 cases Ieee.double.read a <;> rfl
/-! the words of the model -/
theorem kk(a:Int):mO a=decide (bR<a.toNat % fS):=by
 unfold mO K8
 by_cases h:bR<a.toNat % fS
 ·rw[sz h,decide_eq_true h];rfl
 ·rw[oH h h,decide_eq_false h]
  have:compare (kG a.toNat) (kG a.toNat) = .eq:=by show compareOfLessAndEq _ _=_;unfold compareOfLessAndEq;rw[if_neg (Int.lt_irrefl _),if_pos rfl]
  rw[this];rfl
theorem Gt{a b:Int}(ha:¬bR<a.toNat % fS)(hb:¬bR<b.toNat % fS):DC a b=decide (kG a.toNat<kG b.toNat):=by
 unfold DC
 rw[oH ha hb]
 show(some (compareOfLessAndEq _ _) == some Ordering.lt)=_
 unfold compareOfLessAndEq
 by_cases h:kG a.toNat<kG b.toNat
 ·rw[if_pos h,decide_eq_true h];rfl
 ·rw[if_neg h,decide_eq_false h]
  split <;> rfl
/-! the reference's words -/
def bC(a:Int):Int:=if a.toNat % fS=0 then 1 else if a.toNat % fS=bR then 2 else if bR<a.toNat % fS then 3 else 0
def fT(a:Int):Int:=if cQ a.toNat=true then -((a.toNat % fS:Nat):Int)-1 else a
theorem km(a:Int):bC a=3↔bR<a.toNat % fS:=by
 unfold bC
 by_cases h1:a.toNat % fS=0
 ·rw[if_pos h1,h1];exact⟨fun h=>absurd h (by decide),fun h=>absurd h (by decide)⟩
 ·rw[if_neg h1]
  by_cases h2:a.toNat % fS=bR
  ·rw[if_pos h2,h2];exact⟨fun h=>absurd h (by decide),fun h=>absurd h (Nat.lt_irrefl _)⟩
  ·rw[if_neg h2]
   by_cases h3:bR<a.toNat % fS
   ·rw[if_pos h3];exact⟨fun _=>h3,fun _=>rfl⟩
   ·rw[if_neg h3];exact⟨fun h=>absurd h (by decide),fun h=>absurd h h3⟩
theorem AV(a:Int):bC a=1↔a.toNat % fS=0:=by
 unfold bC
 by_cases h1:a.toNat % fS=0
 ·rw[if_pos h1];exact⟨fun _=>h1,fun _=>rfl⟩
 ·rw[if_neg h1]
  by_cases h2:a.toNat % fS=bR
  ·rw[if_pos h2];exact⟨fun h=>absurd h (by decide),fun h=>absurd h h1⟩
  ·rw[if_neg h2]
   by_cases h3:bR<a.toNat % fS
   ·rw[if_pos h3];exact⟨fun h=>absurd h (by decide),fun h=>absurd h h1⟩
   ·rw[if_neg h3];exact⟨fun h=>absurd h (by decide),fun h=>absurd h h1⟩
theorem iJ{a:Int}(ha:0≤a∧a<18446744073709551616):cQ a.toNat=decide (9223372036854775808≤a):=by
 unfold cQ fS
 by_cases h:9223372036854775808≤a
 ·rw[decide_eq_true h]
  have:a.toNat / 9223372036854775808 % 2=1:=by omega
  rw[this];rfl
 ·rw[decide_eq_false h]
  have:a.toNat / 9223372036854775808 % 2=0:=by omega
  rw[this];rfl
theorem we{a b:Int}(ha:0≤a∧a<18446744073709551616)(hb:0≤b∧b<18446744073709551616)(h:¬(a.toNat % fS=0∧b.toNat % fS=0)):(fT a<fT b)↔kG a.toNat<kG b.toNat:=by
 unfold fT kG
 have na:=iJ ha
 have nb:=iJ hb
 have v0:fW (a.toNat % fS)=0↔a.toNat % fS=0:=⟨fun e=>val_inj.1 (e.trans val_zero.symm),fun e=>by rw[e];rfl⟩
 have w0:fW (b.toNat % fS)=0↔b.toNat % fS=0:=⟨fun e=>val_inj.1 (e.trans val_zero.symm),fun e=>by rw[e];rfl⟩
 have hl:=wc (r:=a.toNat % fS) (s:=b.toNat % fS)
 have hg:=wc (r:=b.toNat % fS) (s:=a.toNat % fS)
 by_cases ca:9223372036854775808≤a
 ·have ta:cQ a.toNat=true:=na.trans (decide_eq_true ca)
  rw[if_pos ta,if_pos ta]
  by_cases cb:9223372036854775808≤b
  ·have tb:cQ b.toNat=true:=nb.trans (decide_eq_true cb)
   rw[if_pos tb,if_pos tb]
   constructor
   ·intro x;have:=hg.2 (by omega);omega
   ·intro x;have:=hg.1 (by omega);omega
  ·have tb:¬cQ b.toNat=true:=by rw[nb,decide_eq_false cb];decide
   rw[if_neg tb,if_neg tb]
   constructor
   ·intro _
    by_cases e:fW (a.toNat % fS)=0
    ·have:¬fW (b.toNat % fS)=0:=fun e2=>h ⟨v0.1 e,w0.1 e2⟩
     omega
    ·omega
   ·intro _;omega
 ·have ta:¬cQ a.toNat=true:=by rw[na,decide_eq_false ca];decide
  rw[if_neg ta,if_neg ta]
  have ea:a.toNat % fS=a.toNat:=Nat.mod_eq_of_lt (by unfold fS;omega)
  by_cases cb:9223372036854775808≤b
  ·have tb:cQ b.toNat=true:=nb.trans (decide_eq_true cb)
   rw[if_pos tb,if_pos tb]
   constructor
   ·intro x;omega
   ·intro x;omega
  ·have tb:¬cQ b.toNat=true:=by rw[nb,decide_eq_false cb];decide
   rw[if_neg tb,if_neg tb]
   have eb:b.toNat % fS=b.toNat:=Nat.mod_eq_of_lt (by unfold fS;omega)
   rw[ea,eb] at hl
   rw[ea,eb]
   constructor
   ·intro x;have:=hl.2 (by omega);omega
   ·intro x;have:=hl.1 (by omega);omega
def qB(a b:Int):Bool:=if bC a=3∨bC b=3∨(bC a=1∧bC b=1) then false else decide (fT a<fT b)
theorem kn{a b:Int}(ha:0≤a∧a<18446744073709551616)(hb:0≤b∧b<18446744073709551616):qB a b=DC a b:=by
 have hiff:(bC a=3∨bC b=3∨(bC a=1∧bC b=1))↔(bR<a.toNat % fS∨bR<b.toNat % fS∨(a.toNat % fS=0∧b.toNat % fS=0)):=by rw[km,km,AV,AV]
 have hl:qB a b=if bR<a.toNat % fS∨bR<b.toNat % fS∨(a.toNat % fS=0∧b.toNat % fS=0) then false else decide (fT a<fT b):=by
  unfold qB
  by_cases h:bC a=3∨bC b=3∨(bC a=1∧bC b=1)
  ·rw[if_pos h,if_pos (hiff.1 h)]
  ·rw[if_neg h,if_neg (fun x=>h (hiff.2 x))]
 rw[hl]
 by_cases h1:bR<a.toNat % fS
 ·rw[if_pos (.inl h1)];unfold DC;rw[sz h1];rfl
 ·by_cases h2:bR<b.toNat % fS
  ·rw[if_pos (.inr (.inl h2))];unfold DC;rw[zy h2];rfl
  ·rw[Gt h1 h2]
   by_cases h3:a.toNat % fS=0∧b.toNat % fS=0
   ·rw[if_pos (.inr (.inr h3))]
    refine(decide_eq_false ?_).symm
    unfold kG
    rw[h3.1,h3.2,val_zero]
    split <;> split <;> omega
   ·rw[if_neg (fun x=>x.elim h1 (fun x=>x.elim h2 h3))]
    exact decide_eq_decide.2 (we ha hb h3)
end Go.SLYtefdijgllbkmfaaGreat
namespace Go.SLYtefdijgllbkmfaaGreat
open Go
theorem gf(w:Nat):Go.FloatKind.f64.decode w=Ieee.double.read w:=rfl
theorem jI(w:Nat):(Ieee.double.read w).isZero=decide (w % fS=0):=by
 by_cases h1:w % fS<bR
 ·obtain⟨m,p,e, -, -,hz⟩:=jf h1
  rw[e]
  by_cases h0:w % fS=0
  ·rw[decide_eq_true h0,hz.2 h0];rfl
  ·rw[decide_eq_false h0]
   cases m with
   | zero=>exact absurd (hz.1 rfl) h0
   | succ m=>rfl
 ·have h0:¬w % fS=0:=fun e=>by rw[e] at h1;exact h1 (by decide)
  rw[decide_eq_false h0]
  by_cases h2:w % fS=bR
  ·rw[jg h2];rfl
  ·obtain⟨f,e⟩:=kh (w:=w) (by omega)
   rw[e];rfl
theorem Et(w:Nat):(Ieee.double.read w).neg=cQ w:=by
 by_cases h1:w % fS<bR
 ·obtain⟨m,p,e, -, -, -⟩:=jf h1
  rw[e];rfl
 ·by_cases h2:w % fS=bR
  ·rw[jg h2];rfl
  ·obtain⟨f,e⟩:=kh (w:=w) (by omega)
   rw[e];rfl
theorem mA(w:Nat):(Ieee.double.read w).isNaN=decide (bR<w % fS):=by
 by_cases h1:w % fS<bR
 ·obtain⟨m,p,e, -, -, -⟩:=jf h1
  rw[e,decide_eq_false (by omega)];rfl
 ·by_cases h2:w % fS=bR
  ·rw[jg h2,decide_eq_false (by omega)];rfl
  ·obtain⟨f,e⟩:=kh (w:=w) (by omega)
   rw[e,decide_eq_true (by omega)];rfl
theorem iO(w:Nat)(n:Bool):(Ieee.double.read w == .infinity n)=decide (w % fS=bR∧cQ w=n):=by
 by_cases h1:w % fS<bR
 ·obtain⟨m,p,e, -, -, -⟩:=jf h1
  rw[e,decide_eq_false (fun h=>by omega)];rfl
 ·by_cases h2:w % fS=bR
  ·rw[jg h2]
   by_cases h3:cQ w=n
   ·rw[decide_eq_true ⟨h2,h3⟩,h3];simp
   ·rw[decide_eq_false (fun h=>h3 h.2)]
    simp[h3]
  ·obtain⟨f,e⟩:=kh (w:=w) (by omega)
   rw[e,decide_eq_false (fun h=>h2 h.1)];rfl
theorem Gu(n:Bool):Go.FloatKind.f64.encode (.infinity n)=(if n=true then fS else 0)+bR:=by
 cases n <;> decide +kernel
theorem zz{a b:Nat}:(Ieee.double.read a).order (Ieee.double.read b)=Ieee.double.order a b:=rfl
theorem l3{a:Int}(h:¬bR<a.toNat % fS):fw a=a:=by unfold fw;rw[kk,decide_eq_false h,if_neg (by decide)]
def B9(a b:Int):Int:=if bC a=3∨bC b=3 then mS else if fT a<fT b then a else b
def Ca(a b:Int):Int:=if bC a=3∨bC b=3 then mS else if fT b<fT a then a else b
theorem wg{a b:Int}:((mO a || mO b)=true)↔(bC a=3∨bC b=3):=by
 rw[Bool.or_eq_true,kk,kk,decide_eq_true_eq,decide_eq_true_eq,km,km]
theorem oI{a:Int}(h:0≤a):((a.toNat:Nat):Int)=a:=Int.toNat_of_nonneg h
theorem eS{a:Int}(ha:0≤a∧a<18446744073709551616)(h:¬ 9223372036854775808≤a):fT a=a∧a.toNat % fS=a.toNat∧cQ a.toNat=false:=by
 have na:=iJ ha
 rw[decide_eq_false h] at na
 exact⟨by unfold fT;rw[if_neg (by rw[na];decide)],Nat.mod_eq_of_lt (by unfold fS;omega),na⟩
theorem eT{a:Int}(ha:0≤a∧a<18446744073709551616)(h:9223372036854775808≤a):fT a=9223372036854775807-a∧a.toNat % fS=a.toNat-9223372036854775808∧cQ a.toNat=true:=by
 have na:=iJ ha
 rw[decide_eq_true h] at na
 have e:a.toNat % fS=a.toNat-9223372036854775808:=by unfold fS;omega
 refine⟨?_,e,na⟩
 unfold fT
 rw[if_pos na,e]
 omega
theorem AW{x y:Nat}{neg:Bool}{win:Ordering}(hx:¬bR<x % fS)(hy:¬bR<y % fS)(h1:¬(x % fS=bR∧cQ x=neg))(h2:¬(y % fS=bR∧cQ y=neg))(h3:¬(x % fS=0∧y % fS=0)):eF neg win x y=if compare (kG x) (kG y)=win then x else y:=by
 unfold eF
 simp only
 rw[gf,gf,iO,iO,decide_eq_false h1,decide_eq_false h2,if_neg (by decide),mA,mA,decide_eq_false hx,decide_eq_false hy,if_neg (by decide),jI,jI,zz,oH hx hy]
 rw[if_neg (by rw[Bool.and_eq_true,decide_eq_true_eq,decide_eq_true_eq];exact h3)]
 by_cases c:compare (kG x) (kG y)=win
 ·rw[if_pos c,if_pos (by rw[c];simp)]
 ·rw[if_neg c,if_neg (by simp[c])]
theorem uh{x y:Nat}{neg:Bool}{win:Ordering}(hx:x % fS=0)(hy:y % fS=0):eF neg win x y=if cQ x=neg then x else y:=by
 have z:¬(0=bR):=by decide
 unfold eF
 simp only
 rw[gf,gf,iO,iO,decide_eq_false (fun h=>z (hx.symm.trans h.1)),decide_eq_false (fun h=>z (hy.symm.trans h.1)),if_neg (by decide),mA,mA,hx,hy,if_neg (by decide),jI,jI,hx,hy,if_pos (by decide),Et]
 by_cases c:cQ x=neg
 ·rw[if_pos c,if_pos (by rw[c];simp)]
 ·rw[if_neg c,if_neg (by simp[c])]
theorem xN{x y:Nat}{neg:Bool}{win:Ordering}(h:(x % fS=bR∧cQ x=neg)∨(y % fS=bR∧cQ y=neg)):eF neg win x y=(if neg=true then fS else 0)+bR:=by
 unfold eF
 simp only
 rw[gf,gf,iO,iO,if_pos,Gu]
 rw[Bool.or_eq_true,decide_eq_true_eq,decide_eq_true_eq];exact h
theorem wh{x y:Int}:compare x y = .lt↔x<y:=by
 show compareOfLessAndEq _ _=_↔_
 unfold compareOfLessAndEq
 by_cases h:x<y
 ·rw[if_pos h];exact⟨fun _=>h,fun _=>rfl⟩
 ·rw[if_neg h]
  refine⟨fun e=>?_,fun e=>absurd e h⟩
  split at e <;> cases e
theorem AX{x y:Int}:compare x y = .gt↔y<x:=by
 show compareOfLessAndEq _ _=_↔_
 unfold compareOfLessAndEq
 by_cases h:x<y
 ·rw[if_pos h];exact⟨fun e=>absurd e (by decide),fun e=>by omega⟩
 ·rw[if_neg h]
  by_cases h2:x=y
  ·rw[if_pos h2];exact⟨fun e=>absurd e (by decide),fun e=>by omega⟩
  ·rw[if_neg h2];exact⟨fun _=>by omega,fun _=>rfl⟩
theorem oJ{a b:Int}(ha:0≤a∧a<18446744073709551616)(hb:0≤b∧b<18446744073709551616):B9 a b=nW a b:=by
 unfold B9 nW
 by_cases hn:bC a=3∨bC b=3
 ·rw[if_pos hn,if_pos (wg.2 hn)]
 ·rw[if_neg hn,if_neg (fun h=>hn (wg.1 h))]
  have h1:¬bR<a.toNat % fS:=fun h=>hn (.inl ((km a).2 h))
  have h2:¬bR<b.toNat % fS:=fun h=>hn (.inr ((km b).2 h))
  have hr:((eF true .lt a.toNat b.toNat:Nat):Int)=if fT a<fT b then a else b:=by
   by_cases hz:a.toNat % fS=0∧b.toNat % fS=0
   ·rw[uh hz.1 hz.2]
    by_cases ca:9223372036854775808≤a
    ·obtain⟨r1,r2,r3⟩:=eT ha ca
     rw[if_pos r3,r1]
     by_cases cb:9223372036854775808≤b
     ·obtain⟨s1,s2,s3⟩:=eT hb cb
      rw[s1]
      have:=hz.1;have:=hz.2
      split <;> omega
     ·obtain⟨s1,s2,s3⟩:=eS hb cb
      rw[s1,if_pos (by omega)];omega
    ·obtain⟨r1,r2,r3⟩:=eS ha ca
     rw[if_neg (by rw[r3];decide),r1]
     by_cases cb:9223372036854775808≤b
     ·obtain⟨s1,s2,s3⟩:=eT hb cb
      rw[s1,if_neg (by omega)];omega
     ·obtain⟨s1,s2,s3⟩:=eS hb cb
      rw[s1]
      have:=hz.1;have:=hz.2
      split <;> omega
   ·by_cases hi:(a.toNat % fS=bR∧cQ a.toNat=true)∨(b.toNat % fS=bR∧cQ b.toNat=true)
    ·rw[xN hi,if_pos rfl]
     unfold bR fS at *
     rcases hi with ⟨i1,i2⟩ | ⟨i1,i2⟩
     ·rw[iJ ha,decide_eq_true_eq] at i2
      obtain⟨r1,r2,r3⟩:=eT ha i2
      unfold fS at r2
      rw[r1]
      by_cases cb:9223372036854775808≤b
      ·obtain⟨s1,s2,s3⟩:=eT hb cb
       unfold fS at s2
       rw[s1]
       split <;> omega
      ·obtain⟨s1,s2,s3⟩:=eS hb cb
       unfold fS at s2
       rw[s1,if_pos (by omega)];omega
     ·rw[iJ hb,decide_eq_true_eq] at i2
      obtain⟨s1,s2,s3⟩:=eT hb i2
      unfold fS at s2
      rw[s1]
      by_cases ca:9223372036854775808≤a
      ·obtain⟨r1,r2,r3⟩:=eT ha ca
       unfold fS at r2
       rw[r1]
       split <;> omega
      ·obtain⟨r1,r2,r3⟩:=eS ha ca
       unfold fS at r2
       rw[r1,if_neg (by omega)];omega
    ·rw[AW h1 h2 (fun h=>hi (.inl h)) (fun h=>hi (.inr h)) hz]
     have hk:=we ha hb hz
     by_cases c:kG a.toNat<kG b.toNat
     ·rw[if_pos (wh.2 c),if_pos (hk.2 c)];exact oI ha.1
     ·rw[if_neg (fun e=>c (wh.1 e)),if_neg (fun e=>c (hk.1 e))];exact oI hb.1
  rw[hr,l3]
  split
  ·exact h1
  ·exact h2
theorem oK{a b:Int}(ha:0≤a∧a<18446744073709551616)(hb:0≤b∧b<18446744073709551616):Ca a b=nX a b:=by
 unfold Ca nX
 by_cases hn:bC a=3∨bC b=3
 ·rw[if_pos hn,if_pos (wg.2 hn)]
 ·rw[if_neg hn,if_neg (fun h=>hn (wg.1 h))]
  have h1:¬bR<a.toNat % fS:=fun h=>hn (.inl ((km a).2 h))
  have h2:¬bR<b.toNat % fS:=fun h=>hn (.inr ((km b).2 h))
  have hr:((eF false .gt a.toNat b.toNat:Nat):Int)=if fT b<fT a then a else b:=by
   by_cases hz:a.toNat % fS=0∧b.toNat % fS=0
   ·rw[uh hz.1 hz.2]
    by_cases ca:9223372036854775808≤a
    ·obtain⟨r1,r2,r3⟩:=eT ha ca
     rw[if_neg (by rw[r3];decide),r1]
     by_cases cb:9223372036854775808≤b
     ·obtain⟨s1,s2,s3⟩:=eT hb cb
      rw[s1]
      have:=hz.1;have:=hz.2
      split <;> omega
     ·obtain⟨s1,s2,s3⟩:=eS hb cb
      rw[s1,if_neg (by omega)];omega
    ·obtain⟨r1,r2,r3⟩:=eS ha ca
     rw[if_pos r3,r1]
     by_cases cb:9223372036854775808≤b
     ·obtain⟨s1,s2,s3⟩:=eT hb cb
      rw[s1,if_pos (by omega)];omega
     ·obtain⟨s1,s2,s3⟩:=eS hb cb
      rw[s1]
      have:=hz.1;have:=hz.2
      split <;> omega
   ·by_cases hi:(a.toNat % fS=bR∧cQ a.toNat=false)∨(b.toNat % fS=bR∧cQ b.toNat=false)
    ·rw[xN hi,if_neg (by decide)]
     unfold bR fS at *
     rcases hi with ⟨i1,i2⟩ | ⟨i1,i2⟩
     ·rw[iJ ha,decide_eq_false_iff_not] at i2
      obtain⟨r1,r2,r3⟩:=eS ha i2
      unfold fS at r2
      rw[r1]
      by_cases cb:9223372036854775808≤b
      ·obtain⟨s1,s2,s3⟩:=eT hb cb
       unfold fS at s2
       rw[s1,if_pos (by omega)];omega
      ·obtain⟨s1,s2,s3⟩:=eS hb cb
       unfold fS at s2
       rw[s1]
       split <;> omega
     ·rw[iJ hb,decide_eq_false_iff_not] at i2
      obtain⟨s1,s2,s3⟩:=eS hb i2
      unfold fS at s2
      rw[s1]
      by_cases ca:9223372036854775808≤a
      ·obtain⟨r1,r2,r3⟩:=eT ha ca
       unfold fS at r2
       rw[r1,if_neg (by omega)];omega
      ·obtain⟨r1,r2,r3⟩:=eS ha ca
       unfold fS at r2
       rw[r1]
       split <;> omega
    ·rw[AW h1 h2 (fun h=>hi (.inl h)) (fun h=>hi (.inr h)) hz]
     have hk:=we hb ha (fun h=>hz ⟨h.2,h.1⟩)
     by_cases c:kG b.toNat<kG a.toNat
     ·rw[if_pos (AX.2 c),if_pos (hk.2 c)];exact oI ha.1
     ·rw[if_neg (fun e=>c (AX.1 e)),if_neg (fun e=>c (hk.1 e))];exact oI hb.1
  rw[hr,l3]
  split
  ·exact h1
  ·exact h2
end Go.SLYtefdijgllbkmfaaGreat
namespace Go.SLYtefdijgllbkmfaaGreat
open Go
def fK(a:Int):Int:=((a.toNat % fS / fD:Nat):Int)-1023
def gT(a:Int):Nat:=fD+a.toNat % fD
def gn(a:Int):Nat:=if 52<fK a then gT a * 2 ^ (fK a-52).toNat else gT a / 2 ^ (52-fK a).toNat
def nq(a:Int):Int :=
 if bC a=3∨bC a=1 then 0 else if fK a<0 then 0 else
 if 63≤fK a then (if cQ a.toNat=true then 9223372036854775808 else 9223372036854775807) else
 if cQ a.toNat=true then gO (-(gn a:Int)) else (gn a:Int)
theorem Cb(s:Bool)(n drop:Nat):Ieee.Toward.zero.cut s n drop=n / 2 ^ drop:=by
 unfold Ieee.Toward.cut
 simp only[Bool.toNat_false,Nat.add_zero]
 rw[Nat.one_shiftLeft]
 by_cases h:drop≤n.log2+2
 ·rw[Nat.min_eq_left h]
 ·rw[Nat.min_eq_right (by omega)]
  have h1:n<2 ^ (n.log2+2):=Nat.lt_of_lt_of_le Nat.lt_log2_self (Nat.pow_le_pow_right (by decide) (by omega))
  have h2:n<2 ^ drop:=Nat.lt_of_lt_of_le h1 (Nat.pow_le_pow_right (by decide) (by omega))
  rw[Nat.div_eq_of_lt h1,Nat.div_eq_of_lt h2]
theorem ko(s:Bool)(m:Nat)(p:Int):(Ieee.Datum.number s m p).toInt .zero=some (if s=true then -((m * 2 ^ p.toNat / 2 ^ (-p).toNat:Nat):Int) else ((m * 2 ^ p.toNat / 2 ^ (-p).toNat:Nat):Int)):=by
 unfold Ieee.Datum.toInt Ieee.Datum.integral
 simp only
 rw[Cb,Nat.shiftLeft_eq]
 unfold Ieee.signed
 rw[Nat.shiftLeft_eq,Nat.pow_zero,Nat.mul_one]
theorem pT{w:Nat}(h1:¬w % fS<fD)(h2:w % fS<bR):Ieee.double.read w = .number (cQ w) (fD+w % fS % fD) (((w % fS / fD:Nat):Int)-1075):=by
 obtain⟨c1,c2,c3,c4⟩:=gm
 unfold Ieee.Format.read
 simp only
 rw[c1,c2,c3,c4,if_neg h1,if_pos h2]
 have:1≤w % fS / fD:=by rw[Nat.le_div_iff_mul_le (by decide)];omega
 rw[show(-1074:Int)+((w % fS / fD-1:Nat):Int)=((w % fS / fD:Nat):Int)-1075 by omega];rfl
theorem xO{w:Nat}(h1:w % fS<fD):Ieee.double.read w = .number (cQ w) (w % fS) (-1074):=by
 obtain⟨c1,c2,c3,c4⟩:=gm
 unfold Ieee.Format.read
 simp only
 rw[c1,c2,c3,c4,if_pos h1];rfl
theorem wj:kG nY=(fW (1086 * fD):Int)∧kG nZ = -(fW (1086 * fD):Int)∧nY % fS=1086 * fD∧nZ % fS=1086 * fD:=by
 have e1:nY % fS=1086 * fD:=by decide
 have e2:nZ % fS=1086 * fD:=by decide
 refine⟨?_,?_,e1,e2⟩
 ·unfold kG;rw[e1,if_neg (by decide)]
 ·unfold kG;rw[e2,if_pos (by decide)]
theorem ui{a:Int}{f:Nat}(h:¬bR<a.toNat % fS)(hf:f % fS=1086 * fD):Ieee.double.order a.toNat f=some (compare (kG a.toNat) (kG f)):=oH h (by rw[hf];decide)
theorem sA{a:Int}(h:¬bR<a.toNat % fS):((Ieee.double.order a.toNat nY == some .gt || Ieee.double.order a.toNat nY == some .eq)=true)↔(cQ a.toNat=false∧1086 * fD≤a.toNat % fS):=by
 rw[ui h wj.2.2.1,wj.1]
 have hp:0<fW (1086 * fD):=by have:=ik (show 0<1086 * fD by decide);rw[val_zero] at this;exact this
 have hc:(((some (compare (kG a.toNat) (fW (1086 * fD):Int)) == some Ordering.gt) || (some (compare (kG a.toNat) (fW (1086 * fD):Int)) == some Ordering.eq))=true)↔(fW (1086 * fD):Int)≤kG a.toNat:=by
  show((some (compareOfLessAndEq _ _) == some Ordering.gt || some (compareOfLessAndEq _ _) == some Ordering.eq)=true)↔_
  unfold compareOfLessAndEq
  by_cases c:kG a.toNat<(fW (1086 * fD):Int)
  ·rw[if_pos c];exact⟨fun e=>absurd e (by decide),fun e=>by omega⟩
  ·rw[if_neg c]
   refine⟨fun _=>by omega,fun _=>?_⟩
   split <;> rfl
 rw[hc]
 unfold kG
 cases cQ a.toNat
 ·rw[if_neg (by decide)]
  have:=wc (r:=a.toNat % fS) (s:=1086 * fD)
  constructor
  ·intro x;exact⟨rfl,by refine Decidable.of_not_not fun e=>?_;have:=this.2 (by omega);omega⟩
  ·rintro⟨-,x⟩;refine Decidable.of_not_not fun e=>?_;have:=this.1 (by omega);omega
 ·rw[if_pos rfl]
  constructor
  ·intro x;omega
  ·rintro⟨x, -⟩;cases x
theorem oL{a:Int}(h:¬bR<a.toNat % fS):((Ieee.double.order a.toNat nZ == some .lt)=true)↔(cQ a.toNat=true∧1086 * fD<a.toNat % fS):=by
 rw[ui h wj.2.2.2,wj.2.1]
 have hp:0<fW (1086 * fD):=by have:=ik (show 0<1086 * fD by decide);rw[val_zero] at this;exact this
 have hc:((some (compare (kG a.toNat) (-(fW (1086 * fD):Int))) == some Ordering.lt)=true)↔kG a.toNat < -(fW (1086 * fD):Int):=by
  rw[beq_iff_eq,Option.some.injEq,wh]
 rw[hc]
 unfold kG
 cases cQ a.toNat
 ·rw[if_neg (by decide)]
  constructor
  ·intro x;omega
  ·rintro⟨x, -⟩;cases x
 ·rw[if_pos rfl]
  have:=wc (r:=1086 * fD) (s:=a.toNat % fS)
  constructor
  ·intro x;exact⟨rfl,this.1 (by omega)⟩
  ·rintro⟨-,x⟩;have:=this.2 x;omega
theorem wm{a:Int}(k:Nat):(((k:Nat):Int)-1023≤fK a)↔k * fD≤a.toNat % fS:=by
 unfold fK
 rw[← Nat.le_div_iff_mul_le (by decide)]
 omega
theorem gU{a:Int}(_ha:0≤a∧a<18446744073709551616):nq a=eY a:=by
 have hD:fD=4503599627370496:=rfl
 unfold nq eY
 by_cases h3:bC a=3
 ·rw[if_pos (.inl h3),if_pos (by rw[kk];exact decide_eq_true ((km a).1 h3))]
 ·have hn:¬bR<a.toNat % fS:=fun h=>h3 ((km a).2 h)
  rw[if_neg (c:=mO a=true) (by rw[kk,decide_eq_false hn];decide)]
  by_cases h1:bC a=1
  ·have h0:=(AV a).1 h1
   rw[if_pos (.inr h1),if_neg (fun e=>by have:=((sA hn).1 e).2;rw[h0,hD] at this;omega),if_neg (fun e=>by have:=((oL hn).1 e).2;rw[h0] at this;omega)]
   rw[gf,xO (by rw[h0];decide),ko,h0]
   have hz0:∀ k j:Nat,0 * 2 ^ k / 2 ^ j=0:=fun k j=>by rw[Nat.zero_mul,Nat.zero_div]
   rw[hz0]
   split <;> rfl
  ·rw[if_neg (by rintro(x | x);exact h3 x;exact h1 x)]
   by_cases hp:fK a<0
   ·have hr:¬ 1023 * fD≤a.toNat % fS:=fun e=>by have:=(wm (a:=a) 1023).2 e;omega
    rw[if_pos hp,if_neg (fun e=>by have:=((sA hn).1 e).2;rw[hD] at *;omega),if_neg (fun e=>by have:=((oL hn).1 e).2;rw[hD] at *;omega),gf]
    have hz:∀ (m:Nat) (p:Int),m<2 ^ 53→p≤ -53→m * 2 ^ p.toNat / 2 ^ (-p).toNat=0:=fun m p hm hp=>by
     rw[show p.toNat=0 by omega,Nat.pow_zero,Nat.mul_one]
     exact Nat.div_eq_of_lt (Nat.lt_of_lt_of_le hm (Nat.pow_le_pow_right (by decide) (by omega)))
    by_cases h4:a.toNat % fS<fD
    ·rw[xO h4,ko,hz _ _ (by rw[hD] at h4;omega) (by decide)]
     simp[gO]
    ·have hm:=Nat.mod_lt (a.toNat % fS) (show 0<fD by decide)
     unfold fK at hp
     rw[pT h4 (by unfold bR;rw[hD] at *;omega),ko,hz _ _ (by rw[hD] at *;omega) (by omega)]
     simp[gO]
   ·have hr:1023 * fD≤a.toNat % fS:=(wm (a:=a) 1023).1 (by omega)
    rw[if_neg hp]
    by_cases h6:63≤fK a
    ·have hr6:1086 * fD≤a.toNat % fS:=(wm (a:=a) 1086).1 (by omega)
     rw[if_pos h6]
     cases hg:cQ a.toNat
     ·rw[if_neg (by decide),if_pos ((sA hn).2 ⟨hg,hr6⟩)]
     ·rw[if_pos rfl,if_neg (fun e=>by have:=((sA hn).1 e).1;rw[hg] at this;cases this)]
      by_cases hl:1086 * fD<a.toNat % fS
      ·rw[if_pos ((oL hn).2 ⟨hg,hl⟩)]
      ·have he:a.toNat % fS=1086 * fD:=by omega
       rw[if_neg (fun e=>hl ((oL hn).1 e).2),gf,pT (by rw[he];decide) (by rw[he];decide),he,ko,hg,if_pos rfl]
       decide +kernel
    ·have hr6:¬ 1086 * fD≤a.toNat % fS:=fun e=>by have:=(wm (a:=a) 1086).2 e;omega
     rw[if_neg h6,if_neg (fun e=>hr6 ((sA hn).1 e).2),if_neg (fun e=>hr6 (Nat.le_of_lt ((oL hn).1 e).2)),gf,pT (by rw[hD] at *;omega) (by unfold bR;rw[hD] at *;omega),ko]
     have hmd:a.toNat % fS % fD=a.toNat % fD:=Nat.mod_mod_of_dvd _ ⟨2048,by decide⟩
     have hsh:(fD+a.toNat % fS % fD) * 2 ^ (((a.toNat % fS / fD:Nat):Int)-1075).toNat / 2 ^ (-(((a.toNat % fS / fD:Nat):Int)-1075)).toNat=gn a:=by
      unfold gn gT fK
      rw[hmd]
      by_cases c:52<((a.toNat % fS / fD:Nat):Int)-1023
      ·rw[if_pos c,show(-(((a.toNat % fS / fD:Nat):Int)-1075)).toNat=0 by omega,Nat.pow_zero,Nat.div_one]
       congr 2;omega
      ·rw[if_neg c,show(((a.toNat % fS / fD:Nat):Int)-1075).toNat=0 by omega,Nat.pow_zero,Nat.mul_one]
       congr 2;omega
     rw[hsh]
     cases hg:cQ a.toNat
     ·rw[if_neg (by decide),if_neg (by decide)]
      have hb:gn a<2 ^ 63:=by
       unfold gn
       have hw:gT a<2 ^ 53:=by
        unfold gT
        have:=Nat.mod_lt a.toNat (show 0<fD by decide)
        rw[hD] at *;omega
       split
       ·have:2 ^ (fK a-52).toNat≤2 ^ 10:=Nat.pow_le_pow_right (by decide) (by omega)
        calc _<2 ^ 53 * 2 ^ (fK a-52).toNat:=Nat.mul_lt_mul_of_pos_right hw (Nat.two_pow_pos _)
         _≤2 ^ 53 * 2 ^ 10:=Nat.mul_le_mul_left _ this
       ·exact Nat.lt_of_le_of_lt (Nat.div_le_self _ _) (Nat.lt_trans hw (by decide))
      show(gn a:Int)=gO (gn a:Int)
      unfold gO
      omega
     ·rw[if_pos rfl,if_pos rfl];rfl
end Go.SLYtefdijgllbkmfaaGreat
namespace Go.SLYtefdijgllbkmfaaGreat
open Go
def dN(a:Int):Nat:=if 9223372036854775808≤a then (18446744073709551616-a).toNat else a.toNat
def lB(a:Int):Nat:=if 9223372036854775808≤a then fS else 0
def jh(m:Nat):Nat:=m / 2 ^ (m.log2-52)+(if 2 ^ (m.log2-53)<m % 2 ^ (m.log2-52)∨(m % 2 ^ (m.log2-52)=2 ^ (m.log2-53)∧m / 2 ^ (m.log2-52) % 2=1) then 1 else 0)
def oM(a:Int):Int :=
 if dN a=0 then 0 else
 if (dN a).log2≤52 then ((lB a+((dN a).log2+1023) * fD+dN a * 2 ^ (52-(dN a).log2) % fD:Nat):Int)
 else ((lB a+(((dN a).log2+1022) * fD+jh (dN a)):Nat):Int)
theorem wq{a:Int}(ha:0≤a∧a<18446744073709551616):dN a≤9223372036854775808:=by unfold dN;split <;> omega
theorem Cc(s:Bool)(n:Nat):Ieee.Toward.even.cut s n 0=n:=by
 unfold Ieee.Toward.cut
 simp[Nat.mod_one]
theorem Eu(s:Bool){n d:Nat}(hd:1≤d)(h:d≤n.log2+2):Ieee.Toward.even.cut s n d=n / 2 ^ d+(if 2 ^ (d-1)<n % 2 ^ d∨(n % 2 ^ d=2 ^ (d-1)∧n / 2 ^ d % 2=1) then 1 else 0):=by
 unfold Ieee.Toward.cut
 simp only
 rw[Nat.one_shiftLeft,Nat.min_eq_left h]
 have hp:2 ^ d=2 * 2 ^ (d-1):=by
  obtain⟨e,rfl⟩:∃ e,d=e+1:=⟨d - 1,by omega⟩
  rw[Nat.pow_succ,Nat.add_sub_cancel,Nat.mul_comm]
 congr 1
 by_cases c:2 ^ (d-1)<n % 2 ^ d∨(n % 2 ^ d=2 ^ (d-1)∧n / 2 ^ d % 2=1)
 ·rw[if_pos c]
  rcases c with c | ⟨c1,c2⟩
  ·rw[decide_eq_true (show 2 ^ d<2 * (n % 2 ^ d) by omega)];rfl
  ·rw[c2,c1,show(2 ^ d == 2 * 2 ^ (d-1))=true from beq_iff_eq.2 hp];simp
 ·rw[if_neg c,decide_eq_false (fun e=>c (.inl (by omega)))]
  have:(2 ^ d == 2 * (n % 2 ^ d) && n / 2 ^ d % 2 == 1)=false:=by
   refine Bool.eq_false_iff.2 fun e=>c (.inr ?_)
   rw[Bool.and_eq_true,beq_iff_eq,beq_iff_eq] at e
   exact⟨by omega,e.2⟩
  rw[this];rfl
theorem I0{m:Nat}(h:m≤9223372036854775808):m.log2≤63:=by
 by_cases h0:m=0
 ·subst h0;decide
 ·refine Decidable.of_not_not fun e=>?_
  have h1:=Nat.log2_self_le h0
  have h2:2 ^ 64≤2 ^ m.log2:=Nat.pow_le_pow_right (by decide) (by omega)
  have:(2:Nat) ^ 64=18446744073709551616:=by decide
  omega
theorem Cd{t X:Nat}(h1:X<2 * fD)(h2:t * fD≤52 * fD):t * fD+1022 * fD+X≤bR :=
 Nat.le_trans (Nat.add_le_add (Nat.add_le_add h2 (Nat.le_refl _)) (Nat.le_of_lt h1)) (by decide)
theorem xP{s:Bool}{m:Nat}(h0:m≠0)(h:m.log2≤52):Ieee.double.nearest s m 0=(if s=true then fS else 0)+(m.log2+1023) * fD+m * 2 ^ (52-m.log2) % fD:=by
 obtain⟨c1,c2,c3,c4⟩:=gm
 have hf:Ieee.double.fractionBits=52:=rfl
 have hl1:=Nat.log2_self_le h0
 have hl2:=Nat.lt_log2_self (n:=m)
 unfold Ieee.Format.nearest
 simp only
 rw[if_neg h0,c2,c3,c4,hf,show max ((0:Int)+(m.log2:Int)-((52:Nat):Int)) (-1074)=(m.log2:Int)-52 by omega,show((m.log2:Int)-52-0).toNat=0 by omega,Cc,show((0:Int)-((m.log2:Int)-52)).toNat=52-m.log2 by omega,show((m.log2:Int)-52 - -1074).toNat=m.log2+1022 by omega,Nat.shiftLeft_eq]
 have hk1:fD≤m * 2 ^ (52-m.log2):=by
  have:=Nat.mul_le_mul_right (2 ^ (52-m.log2)) hl1
  rw[← Nat.pow_add,show m.log2+(52-m.log2)=52 by omega] at this
  exact this
 have hk2:m * 2 ^ (52-m.log2)<2 * fD:=by
  have:=Nat.mul_lt_mul_of_pos_right hl2 (Nat.two_pow_pos (52-m.log2))
  rw[← Nat.pow_add,show m.log2+1+(52-m.log2)=53 by omega] at this
  exact this
 have hm:m * 2 ^ (52-m.log2) % fD=m * 2 ^ (52-m.log2)-fD:=by
  rw[Nat.mod_eq_sub_mod hk1,Nat.mod_eq_of_lt (by omega)]
 have hD:fD=4503599627370496:=rfl
 have hI:bR=9218868437227405312:=rfl
 have ht:=Nat.mul_le_mul_right fD h
 rw[hm]
 clear hm hl1 hl2
 generalize m * 2 ^ (52-m.log2)=X at hk1 hk2 ⊢
 generalize m.log2=t at ht ⊢
 rw[Nat.add_mul,Nat.add_mul]
 clear hD hI c2 c3 c4 hf h0 h
 rw[Nat.min_eq_left (Cd hk2 ht)]
 unfold Ieee.Format.word
 rw[c1]
 cases s
 ·rw[if_neg (by decide),if_neg (by decide)];omega
 ·rw[if_pos rfl,if_pos rfl];omega
theorem oN{s:Bool}{m:Nat}(hm:m≤9223372036854775808)(h:52<m.log2):Ieee.double.nearest s m 0=(if s=true then fS else 0)+((m.log2+1022) * fD+jh m)∧(m.log2+1022) * fD+jh m<bR:=by
 obtain⟨c1,c2,c3,c4⟩:=gm
 have hf:Ieee.double.fractionBits=52:=rfl
 have h0:m≠0:=fun e=>by rw[e] at h;exact absurd h (by decide)
 have hl2:=Nat.lt_log2_self (n:=m)
 have hl63:=I0 hm
 have hD:fD=4503599627370496:=rfl
 have hI:bR=9218868437227405312:=rfl
 have hq:m / 2 ^ (m.log2-52)<2 ^ 53:=by
  refine Nat.div_lt_of_lt_mul ?_
  rw[← Nat.pow_add,show m.log2-52+53=m.log2+1 by omega];exact hl2
 have hk:jh m≤2 ^ 53:=by
  unfold jh
  split <;> omega
 have ht:=Nat.mul_le_mul_right fD hl63
 have hb:(m.log2+1022) * fD+jh m<bR:=by
  rw[Nat.add_mul,hI];rw[hD] at *;omega
 refine⟨?_,hb⟩
 unfold Ieee.Format.nearest
 simp only
 rw[if_neg h0,c2,c3,c4,hf,show max ((0:Int)+(m.log2:Int)-((52:Nat):Int)) (-1074)=(m.log2:Int)-52 by omega,show((0:Int)-((m.log2:Int)-52)).toNat=0 by omega,show((m.log2:Int)-52-0).toNat=m.log2-52 by omega,show((m.log2:Int)-52 - -1074).toNat=m.log2+1022 by omega,Nat.shiftLeft_zero,Eu s (by omega) (by omega),show m.log2-52-1=m.log2-53 by omega]
 show Ieee.double.word s (min ((m.log2+1022) * fD+jh m) bR)=_
 rw[Nat.min_eq_left (Nat.le_of_lt hb)]
 unfold Ieee.Format.word
 rw[c1]
 cases s
 ·rw[if_neg (by decide),if_neg (by decide)];omega
 ·rw[if_pos rfl,if_pos rfl]
theorem xQ(b:Bool){r:Nat}(h:r<bR):((if b=true then fS else 0)+r) % fS=r:=by
 have:bR<fS:=by decide
 cases b
 ·rw[if_neg (by decide),Nat.zero_add,Nat.mod_eq_of_lt (by omega)]
 ·rw[if_pos rfl,Nat.add_mod_left,Nat.mod_eq_of_lt (by omega)]
theorem kZ{a:Int}(ha:0≤a∧a<18446744073709551616):oM a=fc a:=by
 have hw:Go.IntKind.i64.wrap a=if 9223372036854775808≤a then a-18446744073709551616 else a:=by
  unfold Go.IntKind.wrap
  split <;> simp[Go.IntKind.bits,Go.IntKind.signed] <;> omega
 have hn:Go.FloatKind.f64.nearest (Go.IntKind.i64.wrap a)=Ieee.double.nearest (decide (9223372036854775808≤a)) (dN a) 0:=by
  unfold Go.FloatKind.nearest
  show Ieee.double.nearest (decide (Go.IntKind.i64.wrap a<0)) (Go.IntKind.i64.wrap a).natAbs 0=_
  rw[hw]
  unfold dN
  by_cases c:9223372036854775808≤a
  ·rw[if_pos c,if_pos c,decide_eq_true c,decide_eq_true (show a-18446744073709551616<0 by omega),show(a-18446744073709551616).natAbs=(18446744073709551616-a).toNat by omega]
  ·rw[if_neg c,if_neg c,decide_eq_false c,decide_eq_false (show ¬a<0 by omega),show a.natAbs=a.toNat by omega]
 have hs:lB a=if decide (9223372036854775808≤a)=true then fS else 0:=by
  unfold lB
  by_cases c:9223372036854775808≤a
  ·rw[if_pos c,decide_eq_true c,if_pos rfl]
  ·rw[if_neg c,decide_eq_false c,if_neg (by decide)]
 unfold fc oM
 rw[hn]
 have hD:fD=4503599627370496:=rfl
 have hI:bR=9218868437227405312:=rfl
 by_cases h0:dN a=0
 ·have hc:¬ 9223372036854775808≤a:=fun c=>by unfold dN at h0;rw[if_pos c] at h0;omega
  rw[if_pos h0,h0,decide_eq_false hc]
  decide +kernel
 ·rw[if_neg h0]
  by_cases h1:(dN a).log2≤52
  ·rw[if_pos h1,xP h0 h1, ← hs,l3]
   rw[Int.toNat_natCast,Nat.add_assoc,hs,xQ]
   ·have:=Nat.mod_lt (dN a * 2 ^ (52-(dN a).log2)) (show 0<fD by decide)
    have ht:=Nat.mul_le_mul_right fD h1
    rw[Nat.add_mul,hI];rw[hD] at *;omega
   ·have:=Nat.mod_lt (dN a * 2 ^ (52-(dN a).log2)) (show 0<fD by decide)
    have ht:=Nat.mul_le_mul_right fD h1
    rw[Nat.add_mul,hI];rw[hD] at *;omega
  ·obtain⟨e1,e2⟩:=oN (s:=decide (9223372036854775808≤a)) (wq ha) (show 52<(dN a).log2 by omega)
   rw[if_neg h1,e1, ← hs,l3]
   rw[Int.toNat_natCast,hs,xQ _ e2]
   omega
end Go.SLYtefdijgllbkmfaaGreat
namespace Go.SLYtefdijgllbkmfaaGreat
open Go
theorem qZ{x:Nat}(hx:x<18446744073709551616):(BitVec.ofInt Go.IntKind.u64.bits (x:Int)).toNat=x:=by
 show(BitVec.ofInt 64 (x:Int)).toNat=x
 rw[BitVec.toNat_ofInt]
 omega
theorem sB{x:Nat}(hx:x<18446744073709551616):Go.IntKind.u64.wrap (x:Int)=(x:Int):=by
 unfold Go.IntKind.wrap
 simp[Go.IntKind.bits,Go.IntKind.signed]
 omega
theorem Ew{x y:Nat}(hx:x<18446744073709551616)(hy:y<18446744073709551616):pC .u64 (x:Int) (y:Int)=((x &&& y:Nat):Int):=by
 unfold pC
 rw[BitVec.toNat_and,qZ hx,qZ hy,sB (Nat.lt_of_le_of_lt Nat.and_le_left hx)]
theorem AY{x y:Nat}(hx:x<18446744073709551616)(hy:y<18446744073709551616):FQ .u64 (x:Int) (y:Int)=((x ||| y:Nat):Int):=by
 unfold FQ
 rw[BitVec.toNat_or,qZ hx,qZ hy,sB (show x ||| y<2 ^ 64 from Nat.or_lt_two_pow (n:=64) hx hy)]
theorem kp{x k:Nat}(hx:x<18446744073709551616)(hk:k≤64):pC .u64 (x:Int) ((2 ^ k-1:Nat):Int)=((x % 2 ^ k:Nat):Int):=by
 have h1:2 ^ k≤2 ^ 64:=Nat.pow_le_pow_right (by decide) hk
 have h2:0<2 ^ k:=Nat.two_pow_pos k
 have h3:(2:Nat) ^ 64=18446744073709551616:=by decide
 rw[Ew hx (by omega),Nat.and_two_pow_sub_one_eq_mod]
theorem wu{x y k:Nat}(hx:x % 2 ^ k=0)(hy:y<2 ^ k)(h:x+y<18446744073709551616):FQ .u64 (x:Int) (y:Int)=((x+y:Nat):Int):=by
 rw[AY (by omega) (by omega)]
 obtain⟨q,hq⟩:∃ q,x=2 ^ k * q:=⟨x / 2 ^ k,by have:=Nat.div_add_mod x (2 ^ k);omega⟩
 rw[hq, ← Nat.two_pow_add_eq_or_of_lt hy]
theorem oO{x n:Nat}(hn:n≤64):y9 .u64 (x:Int) (n:Int)=((x / 2 ^ n:Nat):Int):=by
 unfold y9
 rw[Int.toNat_natCast,show min n Go.IntKind.u64.bits=n from Nat.min_eq_left hn]
 show Int.fdiv (x:Int) ((2:Int) ^ n)=_
 rw[show((2:Int) ^ n)=((2 ^ n:Nat):Int) by rw[Int.natCast_pow];rfl]
 exact Int.ofNat_fdiv x (2 ^ n) |>.symm
theorem kq{x n:Nat}(hn:n≤64)(h:x * 2 ^ n<18446744073709551616):mN .u64 (x:Int) (n:Int)=((x * 2 ^ n:Nat):Int):=by
 unfold mN
 rw[Int.toNat_natCast,show min n Go.IntKind.u64.bits=n from Nat.min_eq_left hn,show(x:Int) * (2:Int) ^ n=((x * 2 ^ n:Nat):Int) by rw[Int.natCast_mul,Int.natCast_pow];rfl,sB h]
end Go.SLYtefdijgllbkmfaaGreat
namespace Go.SLYtefdijgllbkmfaaGreat
open Go Go.RowKit
theorem zA{a:Int}(ha:0≤a∧a<18446744073709551616):∃ n:Nat,a=(n:Int)∧n<18446744073709551616:=⟨a.toNat,by omega,by omega⟩
theorem xR{a:Int}(ha:0≤a∧a<18446744073709551616):pC .u64 a 9223372036854775807=((a.toNat % fS:Nat):Int):=by
 obtain⟨n,rfl,hn⟩:=zA ha
 rw[Int.toNat_natCast]
 exact kp (k:=63) hn (by decide)
theorem oP{a:Int}(ha:0≤a∧a<18446744073709551616)(k:Nat)(hk:k≤64):y9 .u64 a (k:Int)=((a.toNat / 2 ^ k:Nat):Int):=by
 obtain⟨n,rfl,hn⟩:=zA ha
 rw[Int.toNat_natCast]
 exact oO hk
theorem I1{a:Int}(h:((a.toNat % fS:Nat):Int)=0):bC a=1:=(AV a).2 (by omega)
theorem I2{a:Int}(_h1:¬((a.toNat % fS:Nat):Int)=0)(h:((a.toNat % fS:Nat):Int)=9218868437227405312):bC a=2:=by
 have h1':¬a.toNat % fS=0:=by omega
 have h':a.toNat % fS=bR:=by unfold bR;omega
 unfold bC;rw[if_neg h1',if_pos h']
theorem I3{a:Int}(_:¬((a.toNat % fS:Nat):Int)=0)(_:¬((a.toNat % fS:Nat):Int)=9218868437227405312)(h:9218868437227405312<((a.toNat % fS:Nat):Int)):bC a=3:=(km a).2 (by unfold bR;omega)
theorem I4{a:Int}(h1:¬((a.toNat % fS:Nat):Int)=0)(h2:¬((a.toNat % fS:Nat):Int)=9218868437227405312)(h:¬ 9218868437227405312<((a.toNat % fS:Nat):Int)):bC a=0:=by
 have h1':¬a.toNat % fS=0:=by omega
 have h2':¬a.toNat % fS=bR:=by unfold bR;omega
 have h3':¬bR<a.toNat % fS:=by unfold bR;omega
 unfold bC;rw[if_neg h1',if_neg h2',if_neg h3']
theorem Gv{a:Int}(h:bC a=3):fw a=9221120237041090560:=by
 unfold fw
 rw[kk,decide_eq_true ((km a).1 h),if_pos rfl];rfl
theorem Gw{a:Int}(h:¬bC a=3):fw a=a:=l3 (fun e=>h ((km a).2 e))
theorem oQ{a:Int}(ha:0≤a∧a<18446744073709551616):((a.toNat / 2 ^ 63:Nat):Int)=1↔ 9223372036854775808≤a:=by
 have:(2:Nat) ^ 63=9223372036854775808:=by decide
 rw[this];omega
theorem Gx{a:Int}(ha:0≤a∧a<18446744073709551616)(h:((a.toNat / 2 ^ 63:Nat):Int)=1):fT a=0-((a.toNat % fS:Nat):Int)-1:=by
 obtain⟨r1,r2,r3⟩:=eT ha ((oQ ha).1 h)
 rw[r1,r2];omega
theorem AZ{a:Int}(ha:0≤a∧a<18446744073709551616)(h:¬((a.toNat / 2 ^ 63:Nat):Int)=1):a<9223372036854775808∧fT a=a:=by
 have h':¬ 9223372036854775808≤a:=fun e=>h ((oQ ha).2 e)
 exact⟨by omega,(eS ha h').1⟩
end Go.SLYtefdijgllbkmfaaGreat
namespace Go.SLYtefdijgllbkmfaaGreat
open Go Go.RowKit
theorem oR{a:Int}(ha:0≤a∧a<18446744073709551616):cQ a.toNat=true↔((a.toNat / 2 ^ 63:Nat):Int)=1:=by
 rw[oQ ha,iJ ha,decide_eq_true_eq]
theorem Ex{a:Int}(ha:0≤a∧a<18446744073709551616):pC .u64 ((a.toNat / 2 ^ 52:Nat):Int) 2047=((a.toNat % fS / fD:Nat):Int):=by
 have h:=kp (x:=a.toNat / 2 ^ 52) (k:=11) (by have:(2:Nat) ^ 52=4503599627370496:=(by decide);rw[this];omega) (by decide)
 refine h.trans ?_
 have h1:(2:Nat) ^ 52=4503599627370496:=by decide
 have h2:(2:Nat) ^ 11=2048:=by decide
 rw[h1,h2]
 unfold fS fD
 omega
theorem Ce{a:Int}(ha:0≤a∧a<18446744073709551616):pC .u64 a 4503599627370495=((a.toNat % fD:Nat):Int):=by
 obtain⟨n,rfl,hn⟩:=zA ha
 rw[Int.toNat_natCast]
 exact kp (k:=52) hn (by decide)
theorem zB(a:Int):FQ .u64 ((a.toNat % fD:Nat):Int) 4503599627370496=(gT a:Int):=by
 have hm:=Nat.mod_lt a.toNat (show 0<fD by decide)
 have hD:fD=4503599627370496:=rfl
 have h:=AY (x:=a.toNat % fD) (y:=4503599627370496) (by omega) (by decide)
 refine h.trans ?_
 have h2:=Nat.two_pow_add_eq_or_of_lt (i:=52) (b:=a.toNat % fD) hm 1
 rw[Nat.or_comm]
 unfold gT
 rw[Nat.mul_one] at h2
 exact congrArg _ h2.symm
theorem Ey(a:Int):gT a<2 ^ 53:=by
 have hm:=Nat.mod_lt a.toNat (show 0<fD by decide)
 have h1:(2:Nat) ^ 53=2 * fD:=by decide
 unfold gT
 omega
theorem Gy{a:Int}(h:52<fK a)(h2:¬ 63≤fK a):mN .u64 (gT a:Int) (fK a-52)=(gn a:Int):=by
 obtain⟨n,hn⟩:∃ n:Nat,fK a - 52=(n:Int):=⟨(fK a - 52).toNat,by omega⟩
 have hb:gT a * 2 ^ n<18446744073709551616:=by
  have h1:=Ey a
  have h3:2 ^ n≤2 ^ 10:=Nat.pow_le_pow_right (by decide) (by omega)
  calc gT a * 2 ^ n<2 ^ 53 * 2 ^ n:=Nat.mul_lt_mul_of_pos_right h1 (Nat.two_pow_pos _)
   _≤2 ^ 53 * 2 ^ 10:=Nat.mul_le_mul_left _ h3
   _≤18446744073709551616:=by decide
 rw[hn,kq (by omega) hb]
 unfold gn
 rw[if_pos h,hn,Int.toNat_natCast]
theorem Gz{a:Int}(h:¬ 52<fK a)(h0:¬fK a<0):y9 .u64 (gT a:Int) (52-fK a)=(gn a:Int):=by
 obtain⟨n,hn⟩:∃ n:Nat,52 - fK a=(n:Int):=⟨(52 - fK a).toNat,by omega⟩
 rw[hn,oO (by omega)]
 unfold gn
 rw[if_neg h,hn,Int.toNat_natCast]
theorem Kq{a:Int}(ha:0≤a∧a<18446744073709551616)(h:bC a=3∨bC a=1):eY a=0:=by rw[← gU ha];exact if_pos h
theorem Lg{a:Int}(ha:0≤a∧a<18446744073709551616)(h:¬(bC a=3∨bC a=1))(h1:fK a<0):eY a=0:=by rw[← gU ha];unfold nq;rw[if_neg h,if_pos h1]
theorem Lh{a:Int}(ha:0≤a∧a<18446744073709551616)(h:¬(bC a=3∨bC a=1))(h1:¬fK a<0)(h2:63≤fK a)(h3:((a.toNat / 2 ^ 63:Nat):Int)=1):eY a=9223372036854775808:=by rw[← gU ha];unfold nq;rw[if_neg h,if_neg h1,if_pos h2,if_pos ((oR ha).2 h3)]
theorem Li{a:Int}(ha:0≤a∧a<18446744073709551616)(h:¬(bC a=3∨bC a=1))(h1:¬fK a<0)(h2:63≤fK a)(h3:¬((a.toNat / 2 ^ 63:Nat):Int)=1):eY a=9223372036854775807:=by rw[← gU ha];unfold nq;rw[if_neg h,if_neg h1,if_pos h2,if_neg (fun e=>h3 ((oR ha).1 e))]
theorem Lj{a:Int}(ha:0≤a∧a<18446744073709551616)(h:¬(bC a=3∨bC a=1))(h1:¬fK a<0)(h2:¬ 63≤fK a)(h3:((a.toNat / 2 ^ 63:Nat):Int)=1):eY a=gO (-(gn a:Int)):=by rw[← gU ha];unfold nq;rw[if_neg h,if_neg h1,if_neg h2,if_pos ((oR ha).2 h3)]
theorem Lk{a:Int}(ha:0≤a∧a<18446744073709551616)(h:¬(bC a=3∨bC a=1))(h1:¬fK a<0)(h2:¬ 63≤fK a)(h3:¬((a.toNat / 2 ^ 63:Nat):Int)=1):eY a=(gn a:Int):=by rw[← gU ha];unfold nq;rw[if_neg h,if_neg h1,if_neg h2,if_neg (fun e=>h3 ((oR ha).1 e))]
theorem A0(n:Int):Go.IntKind.u64.wrap (0-n)=gO (-n):=by
 unfold gO Go.IntKind.wrap
 simp[Go.IntKind.bits,Go.IntKind.signed]
/-! numbers of whole ones -/
theorem A1{a:Int}(ha:0≤a∧a<18446744073709551616)(h:((a.toNat / 2 ^ 63:Nat):Int)=1):Go.IntKind.u64.wrap (0-a)=(dN a:Int)∧(9223372036854775808:Int)=(lB a:Int):=by
 have h':=(oQ ha).1 h
 unfold dN lB
 rw[if_pos h',if_pos h',A0]
 exact⟨by unfold gO;omega,rfl⟩
theorem A2{a:Int}(ha:0≤a∧a<18446744073709551616)(h:¬((a.toNat / 2 ^ 63:Nat):Int)=1):a=(dN a:Int)∧(0:Int)=(lB a:Int):=by
 have h':¬ 9223372036854775808≤a:=fun e=>h ((oQ ha).2 e)
 unfold dN lB
 rw[if_neg h',if_neg h']
 exact⟨by omega,rfl⟩
theorem GA{m t:Nat}(h0:m≠0)(h1:m<2 ^ (t+1))(h2:¬m / 2 ^ t=0):t=m.log2:=by
 have h3:2 ^ t≤m:=by
  refine Decidable.of_not_not fun e=>h2 (Nat.div_eq_of_lt (by omega))
 have h4:=Nat.log2_self_le h0
 have h5:=Nat.lt_log2_self (n:=m)
 rcases Nat.lt_trichotomy t m.log2 with g | g | g
 ·have:=Nat.pow_le_pow_right (n:=2) (by decide) (show t+1≤m.log2 from g);omega
 ·exact g
 ·have:=Nat.pow_le_pow_right (n:=2) (by decide) (show m.log2+1≤t from g);omega
theorem Ez{m t:Nat}(h2:m / 2 ^ t=0)(h0:m≠0):1≤t∧m<2 ^ (t-1+1):=by
 have h3:m<2 ^ t:=by
  rcases Nat.lt_or_ge m (2 ^ t) with g | g
  ·exact g
  ·have:=Nat.div_pos g (Nat.two_pow_pos t);omega
 have h1:1≤t:=by
  refine Decidable.of_not_not fun e=>?_
  have:t=0:=by omega
  subst this
  rw[Nat.pow_zero] at h3;omega
 exact⟨h1,by rw[Nat.sub_add_cancel h1];exact h3⟩
theorem Ll{a:Int}(ha:0≤a∧a<18446744073709551616)(h:dN a=0):fc a=0:=by rw[← kZ ha];exact if_pos h
theorem iP(a:Int):lB a=0∨lB a=9223372036854775808:=by unfold lB;split <;> simp[fS]
theorem GB(a:Int){X:Nat}(h:X<2 ^ 63):lB a+X<18446744073709551616:=by
 have h63:(2:Nat) ^ 63=9223372036854775808:=by decide
 rw[h63] at h
 rcases iP a with e | e <;> rw[e] <;> omega
theorem GC(a:Int):lB a % 2 ^ 63=0:=by rcases iP a with e | e <;> rw[e] <;> decide
theorem GD{a:Int}{t:Nat}(ht:t≤63):FQ .u64 (lB a:Int) (mN .u64 ((t:Int)+1023) 52)=((lB a+(t+1023) * fD:Nat):Int):=by
 have hD:fD=2 ^ 52:=by decide
 have hb:(t+1023) * 2 ^ 52≤1086 * 2 ^ 52:=Nat.mul_le_mul_right _ (by omega)
 have hlt:(t+1023) * 2 ^ 52<2 ^ 63:=Nat.lt_of_le_of_lt hb (by decide)
 have hs:mN .u64 ((t:Int)+1023) 52=(((t+1023) * 2 ^ 52:Nat):Int):=(show mN .u64 ((t:Int)+1023) 52=mN .u64 ((t+1023:Nat):Int) ((52:Nat):Int) from rfl).trans (kq (by decide) (Nat.lt_trans hlt (by decide)))
 rw[hs,hD,wu (k:=63) (GC a) hlt (GB a hlt)]
theorem I5{a:Int}(ha:0≤a∧a<18446744073709551616){t:Nat}(h:¬dN a=0)(ht:t=(dN a).log2)(h1:t≤52):FQ .u64 (FQ .u64 (lB a:Int) (mN .u64 ((t:Int)+1023) 52)) (pC .u64 (mN .u64 (dN a:Int) (52-(t:Int))) 4503599627370495)=fc a:=by
 have hD:fD=2 ^ 52:=by decide
 have hm:=wq ha
 have hl:=Nat.lt_log2_self (n:=dN a)
 obtain⟨n,hn⟩:∃ n:Nat,(52:Int) - (t:Int)=(n:Int):=⟨52 - t,by omega⟩
 have hb:dN a * 2 ^ n<2 ^ 53:=by
  have:=Nat.mul_lt_mul_of_pos_right hl (Nat.two_pow_pos n)
  rw[← ht, ← Nat.pow_add,show t+1+n=53 by omega] at this
  exact this
 have h53:(2:Nat) ^ 53<18446744073709551616:=by decide
 rw[GD (by omega),hn,kq (by omega) (by omega)]
 rw[show pC .u64 ((dN a * 2 ^ n:Nat):Int) 4503599627370495=((dN a * 2 ^ n % 2 ^ 52:Nat):Int) from kp (k:=52) (by omega) (by decide)]
 have hlt:dN a * 2 ^ n % 2 ^ 52<2 ^ 52:=Nat.mod_lt _ (Nat.two_pow_pos 52)
 have hq:(t+1023) * fD≤1075 * fD:=Nat.mul_le_mul_right _ (by omega)
 have hc:1075 * fD+2 ^ 52<2 ^ 63:=by decide
 have h63:(2:Nat) ^ 63=9223372036854775808:=by decide
 rw[wu (k:=52) ?_ hlt ?_, ← kZ ha]
 ·unfold oM
  rw[if_neg h, ← ht,if_pos h1,show n=52-t by omega,hD]
 ·rw[Nat.add_mod,hD,Nat.mul_mod_left]
  rcases iP a with e | e <;> rw[e] <;> decide
 ·rcases iP a with e | e <;> rw[e] <;> omega
theorem GF{a:Int}(ha:0≤a∧a<18446744073709551616){t:Nat}(h:¬dN a=0)(ht:t=(dN a).log2)(h1:¬t≤52):FQ .u64 (lB a:Int) ((((t+1022) * fD+jh (dN a):Nat)):Int)=fc a:=by
 have hm:=wq ha
 have hk:=(oN (s:=true) hm (show 52<(dN a).log2 by omega)).2
 have hi:bR<2 ^ 63:=by decide
 have h63:(2:Nat) ^ 63=9223372036854775808:=by decide
 rw[← ht] at hk
 rw[wu (k:=63) ?_ (by omega) ?_, ← kZ ha]
 ·unfold oM
  rw[if_neg h, ← ht,if_neg h1]
 ·rcases iP a with e | e <;> rw[e] <;> decide
 ·rcases iP a with e | e <;> rw[e] <;> omega
end Go.SLYtefdijgllbkmfaaGreat
namespace Go.SLYtefdijgllbkmfaaGreat
open Go Go.RowKit
def HY(o:Option Nat)(r:Nat):Prop:=Iu o r∧(o=none→r<18446744073709551616)
theorem I6(t:Nat):(t % 2) * 2 ^ 63+0x7ff0000000000000+1+(t / 2) % (2 ^ 52-1)<18446744073709551616:=by
 have h1:t % 2<2:=Nat.mod_lt _ (by decide)
 have h2:(t / 2) % (2 ^ 52-1)<2 ^ 52-1:=Nat.mod_lt _ (by decide)
 omega
section
variable{P:Program}{W:World}{N:Nat}{L:List (Nat×Option Value)}{H:List aa}{T:TypeId}
theorem af.A3{op:BinOp}{xT yT:TypeId}{x y:Operand}{pos:String}{after:Array Edge}{guard:Option (Nat×Bool)}{d m n:Nat}(o:Option Nat)(hN:Nat.blt d N=true)(hx:ev L x=some (.float .f64 m))(hy:ev L y=some (.float .f64 n))
  (h:∀ w,(do eqGuard op xT x y (.float .f64 m) (.float .f64 n);binOp op xT (.float .f64 m) (.float .f64 n):Sem Value).run P w=(match o with | some r=>pure (.float .f64 r) | none=>do pure (.float .f64 (← choose (.nanBits .f64 m n))):Sem Value).run P w) :
  af P W N ⟨some d,.binOp op xT x y yT,T,pos,after,guard⟩ L H (fun L1 H1=>∃ r,HY o r∧L1=(d,some (.float .f64 r))::L∧H1=H):=fun a w ha hs Kp hK=>by
 have hrun:∀ v w',(match o with | some r=>pure (.float .f64 r) | none=>do pure (.float .f64 (← choose (.nanBits .f64 m n))):Sem Value).run P w = .ok v w'→(execOp a.eval ⟨some d,.binOp op xT x y yT,T,pos,after,guard⟩).run P w = .ok (.value v) w':=fun v w' hv=>by
  simp only[execOp,ha.eval hx,ha.eval hy]
  have h2:=(h w).trans hv
  show((do eqGuard op xT x y (.float .f64 m) (.float .f64 n);binOp op xT (.float .f64 m) (.float .f64 n):Sem Value) >>= fun v=>pure (Next.value v)).run P w=_
  rw[Sem.run_bind,h2]
  rfl
 unfold Oper.wp
 cases o with
 | some r =>
  rw[hrun (.float .f64 r) w rfl]
  simp only[Oper.upon]
  exact hK _ _ ⟨r,⟨rfl,fun e=>by cases e⟩,rfl,rfl⟩ _ _ (ha.put (Nat.blt_eq.mp hN) _) hs
 | none =>
  have hq:(choose (.nanBits .f64 m n)).run P w = .ok ((Question.nanBits .f64 m n).cut (w.tape w.drawn (.nanBits .f64 m n))) w.drew:=by
   rw[run_choose_drew];simp[Question.forced]
  rw[hrun (.float .f64 ((Question.nanBits .f64 m n).cut (w.tape w.drawn (.nanBits .f64 m n)))) w.drew (by simp only[Sem.run_bind,hq,Result.andThen_ok,Sem.run_pure])]
  simp only[Oper.upon]
  refine hK _ _ ⟨_,⟨?_,fun _=>?_⟩,rfl,rfl⟩ _ _ (ha.put (Nat.blt_eq.mp hN) _) hs.drew
  ·show(jM _ _ == some .eq)=false
   simp only[Question.cut]
   exact Au _
  ·simp only[Question.cut]
   exact I6 _
end
theorem wv{o:Option Nat}{r:Nat}(h:HY o r)(ho:∀ q,o=some q→q<18446744073709551616):0≤(r:Int)∧(r:Int)<18446744073709551616:=by
 cases o with
 | none=>have:=h.2 rfl;omega
 | some q =>
  have h1:r=q:=h.1
  have:=ho q rfl
  omega
theorem q3:2 ^ Ieee.double.width=18446744073709551616:=by decide +kernel
theorem Kr{a b q:Nat}(h:Ieee.double.add a b=some q):q<18446744073709551616:=q3 ▸ Ieee.Format.add_lt _ h
theorem Ks{a b q:Nat}(h:Ieee.double.sub a b=some q):q<18446744073709551616:=q3 ▸ Ieee.Format.sub_lt _ h
theorem Kt{a b q:Nat}(h:Ieee.double.mul a b=some q):q<18446744073709551616:=q3 ▸ Ieee.Format.mul_lt _ h
theorem Ku{a b q:Nat}(h:Ieee.double.div a b=some q):q<18446744073709551616:=q3 ▸ Ieee.Format.div_lt _ h
def wx(op a b:Int):Int:=if op=1 then BK a b else if op=2 then BL a b else if op=3 then BM a b else BN a b
theorem EA{t K:Nat}:(((t+1023) * fD:Nat):Int)+(K:Int)-4503599627370496=(((t+1022) * fD+K:Nat):Int):=by
 have h:(t+1023) * fD=(t+1022) * fD+fD:=by rw[show t+1023=t+1022+1 from rfl,Nat.succ_mul]
 have hD:fD=4503599627370496:=rfl
 rw[h];rw[hD];omega
end Go.SLYtefdijgllbkmfaaGreat
namespace Go.SLYtefdijgllbkmfaaGreat
open Go Go.RowKit
theorem GG{m t ct:Nat}(ht:t=m.log2)(h:¬t≤52)(hc:t=ct+53∧(((2 ^ ct:Nat):Int)<((m % 2 ^ (ct+1):Nat):Int)∨((m % 2 ^ (ct+1):Nat):Int)=((2 ^ ct:Nat):Int)∧((m / 2 ^ (ct+1) % 2:Nat):Int)=1)):((m / 2 ^ (ct+1):Nat):Int)+1=(jh m:Int):=by
 unfold jh
 rw[← ht,hc.1,show ct+53-52=ct+1 by omega,show ct+53-53=ct by omega,if_pos]
 ·omega
 ·rcases hc.2 with e | ⟨e1,e2⟩
  ·exact .inl (by omega)
  ·exact .inr ⟨by omega,by omega⟩
theorem GH{m t ct:Nat}(ht:t=m.log2)(h:¬t≤52)(hc:t=ct+53∧¬(((2 ^ ct:Nat):Int)<((m % 2 ^ (ct+1):Nat):Int)∨((m % 2 ^ (ct+1):Nat):Int)=((2 ^ ct:Nat):Int)∧((m / 2 ^ (ct+1) % 2:Nat):Int)=1)):((m / 2 ^ (ct+1):Nat):Int)=(jh m:Int):=by
 unfold jh
 rw[← ht,hc.1,show ct+53-52=ct+1 by omega,show ct+53-53=ct by omega,if_neg]
 ·rfl
 ·rintro(e | ⟨e1,e2⟩)
  ·exact hc.2 (.inl (by omega))
  ·exact hc.2 (.inr ⟨by omega,by omega⟩)
theorem GI{t:Nat}(ht:t≤63):mN .u64 ((t:Int)+1023) 52=(((t+1023) * fD:Nat):Int):=by
 have hD:fD=2 ^ 52:=by decide
 have hb:(t+1023) * 2 ^ 52≤1086 * 2 ^ 52:=Nat.mul_le_mul_right _ (by omega)
 rw[hD]
 exact(show mN .u64 ((t:Int)+1023) 52=mN .u64 ((t+1023:Nat):Int) ((52:Nat):Int) from rfl).trans (kq (by decide) (Nat.lt_of_le_of_lt hb (by decide)))
theorem GJ{m t:Nat}(ht:t=m.log2)(h:¬t≤52)(h63:t≤63):(jh m:Int)≤9007199254740992:=by
 have hl2:=Nat.lt_log2_self (n:=m)
 have hq:m / 2 ^ (m.log2-52)<2 ^ 53:=by
  refine Nat.div_lt_of_lt_mul ?_
  rw[← Nat.pow_add,show m.log2-52+53=m.log2+1 by omega];exact hl2
 have h53:(2:Nat) ^ 53=9007199254740992:=by decide
 rw[h53] at hq
 unfold jh
 split <;> omega
theorem I7{t:Nat}(ht:t≤63):(((t+1023) * fD:Nat):Int)≤4890909195324358656∧(4607182418800017408:Int)≤(((t+1023) * fD:Nat):Int):=by
 have h1:(t+1023) * fD≤1086 * fD:=Nat.mul_le_mul_right _ (by omega)
 have h2:1023 * fD≤(t+1023) * fD:=Nat.mul_le_mul_right _ (by omega)
 have e1:1086 * fD=4890909195324358656:=by decide
 have e2:1023 * fD=4607182418800017408:=by decide
 omega
def EB(a:Int):Nat:=a.toNat % fS / fD
theorem GK(a:Int):EB a≤2047:=by unfold EB fS fD;omega
theorem Cf{a:Int}(ha:0≤a∧a<18446744073709551616):pC .u64 ((a.toNat / 2 ^ 52:Nat):Int) 2047=(EB a:Int):=Ex ha
theorem GL{n:Int}(h:0≤n∧n≤9223372036854775807):Go.IntKind.i64.wrap (0-n)=0-n:=by
 unfold Go.IntKind.wrap
 simp[Go.IntKind.bits,Go.IntKind.signed]
 omega
theorem EC(a:Int):0≤((a.toNat % fS:Nat):Int)∧((a.toNat % fS:Nat):Int)≤9223372036854775807:=by
 have:=Nat.mod_lt a.toNat (show 0<fS by decide)
 have h2:fS=9223372036854775808:=rfl
 omega
end Go.SLYtefdijgllbkmfaaGreat
namespace Go.SLYtefdijgllbkmfaaGreat
open Go Go.RowKit
inductive CY:Nat→Prop where
 | mk (n:Nat):CY n
theorem CY.s{n:Nat}(_:CY (n+1)):CY n:=.mk n
structure Hid(G:Prop):Prop where
 go:G
inductive JU{X:Type}:X→Prop where
 | mk (x:X):JU x
section
variable{P:Program}{W:World}{N:Nat}{Q:Exit→Act→World→Prop}{L:List (Nat×Option Value)}{H:List aa}{O:Array Oper}{T:TypeId}{K:List aa}{ks:List Nat}{rest:List Oper}
theorem Y.y{op:Op}{v:Value}(h:Y P W N op T L H v:=by first | exact .m rfl | exact .a rfl | exact .n rfl | exact .l rfl | exact .z rfl | exact .f rfl | exact .o rfl | exact .eql rfl rfl | exact .t rfl rfl | exact .u rfl rfl | exact .lr rfl ‹_› | exact .lA rfl | exact .len rfl | exact .lss rfl rfl | exact .extract rfl rfl | exact .LS rfl rfl | exact .neq rfl rfl | exact .KZ rfl | exact .not rfl | exact .geq rfl rfl | exact .gtr rfl rfl | exact .leq rfl rfl | exact .Lf rfl rfl | exact .lo rfl | exact .lz rfl | exact .lens rfl | exact .la rfl (Cells.rd Rd.s ‹_›) | exact .ix _ rfl rfl rfl (by first | omega | decide) | exact .inc rfl rfl (by omega) | exact .sub rfl rfl (by omega)):Y P W N op T L H v:=h
theorem aS.c{f:FuncId}{xs:Array Operand}{ts:Array TypeId}{pos:String}{after:Array Edge}{d:Nat}{args:List Value}{pre R:List aa}{X:Type}{val:X→Value}{fact:X→Prop}{post:X→List aa}
  (hc:∀ args w,(callFunc f args).run P w = .ok (.enter f args) w) (hx:evs L xs.toList=some args) (hfn:Fn P W f args pre X val fact post) (h:∀ x,fact x→aS P W N O Q rest ((d,some (val x))::L) (post x++R)) (ht:aK H pre R:=by exact aK.auto) (hN:Nat.blt d N=true:=by rfl):aS P W N O Q (⟨some d,.call ⟨.value (.func f),xs,ts⟩,T,pos,after,none⟩::rest) L H :=
 .aw rfl (af.fQ hN hc hx hfn ht) fun _ _ e=>by obtain⟨y,hy,rfl,rfl⟩:=e;exact h y hy
theorem aS.cg{f:FuncId}{xs:Array Operand}{ts:Array TypeId}{pos:String}{after:Array Edge}{d j t:Nat}{want:Bool}{args:List Value}{pre R:List aa}{X:Type}{val:X→Value}{fact:X→Prop}{post:X→List aa}
  (hc:∀ args w,(callFunc f args).run P w = .ok (.enter f args) w) (hx:evs L xs.toList=some args) (hfn:Fn P W f args pre X val fact post) (h:∀ x,fact x→aS P W N O Q rest ((d,some (val x))::L) (post x++R)) (ht:aK H pre R:=by exact aK.auto) (hj:(O[j]?).bind (·.dst)=some t:=by rfl) (hb:look L t=some (.bool want):=by rfl) (hN:Nat.blt d N=true:=by rfl):aS P W N O Q (⟨some d,.call ⟨.value (.func f),xs,ts⟩,T,pos,after,some (j,want)⟩::rest) L H :=
 .dg rfl hj hb (af.fQ hN hc hx hfn ht) fun _ _ e=>by obtain⟨y,hy,rfl,rfl⟩:=e;exact h y hy
theorem bo.c{f:FuncId}{xs:Array Operand}{ts:Array TypeId}{pos:String}{after:Array Edge}{d:Nat}{args:List Value}{pre R:List aa}{X:Type}{val:X→Value}{fact:X→Prop}{post:X→List aa}
  (hc:∀ args w,(callFunc f args).run P w = .ok (.enter f args) w) (hx:evs L xs.toList=some args) (hfn:Fn P W f args pre X val fact post) (h:∀ x,fact x→bo P W N K O Q ks rest ((d,some (val x))::L) (post x++R)) (ht:aK H pre R:=by exact aK.auto) (hN:Nat.blt d N=true:=by rfl):bo P W N K O Q (3::ks) (⟨some d,.call ⟨.value (.func f),xs,ts⟩,T,pos,after,none⟩::rest) L H :=
 .d3 rfl (af.fQ hN hc hx hfn ht) fun _ _ e=>by obtain⟨y,hy,rfl,rfl⟩:=e;exact h y hy
theorem bo.c2{f:FuncId}{xs:Array Operand}{ts:Array TypeId}{pos:String}{after:Array Edge}{d:Nat}{args:List Value}{pre R:List aa}{X:Type}{val:X→Value}{fact:X→Prop}{post:X→List aa}
  (hc:∀ args w,(callFunc f args).run P w = .ok (.enter f args) w) (hx:evs L xs.toList=some args) (hfn:Fn P W f args pre X val fact post) (h:∀ x,fact x→bo P W N K O Q ks rest ((d,some (val x))::L) (post x++R)) (ht:aK H pre R:=by exact aK.auto) (hN:Nat.blt d N=true:=by rfl) (hK:∀ w,Sat W w (seps H)→Sat W w (seps K):=by exact Kept.auto) (hK2:∀ x,fact x→ ∀ w,Sat W w (seps (post x++R))→Sat W w (seps K):=by intro _ _;exact Kept.auto):bo P W N K O Q (2::ks) (⟨some d,.call ⟨.value (.func f),xs,ts⟩,T,pos,after,none⟩::rest) L H :=
 .d2 rfl hK (af.fQ hN hc hx hfn ht) (fun _ _ e=>by obtain⟨y,hy,rfl,rfl⟩:=e;exact hK2 y hy) fun _ _ e=>by obtain⟨y,hy,rfl,rfl⟩:=e;exact h y hy
section
variable{fn:Func}{X:Type}{val:X→Value}{fact:X→Prop}{post:X→List aa}{F:aa}{R:List aa}{x:X}
theorem bY.w1{t:Nat}{v:Value}(_:JU x)(hf:fact x:=by exact trivial)(hr:fn.results = #[.tmp t]:=by rfl)(ht:look L t=some v:=by rfl)(hv:v=val x:=by rfl)(he:aK H (post x++[F]) R:=by exact aK.auto):bY W N (bodyPost P fn (fun e w'=>∃ x,e = .returned (val x)∧fact x∧Sat W w' (sep (seps (post x)) F))) .ret L H :=
 .aI hr ht fun _ s=>⟨x,by rw[hv],hf,aq he s⟩
theorem bY.w2{t1 t2:Nat}{v1 v2:Value}(_:JU x)(hf:fact x:=by exact trivial)(hr:fn.results = #[.tmp t1,.tmp t2]:=by rfl)(h1:look L t1=some v1:=by rfl)(h2:look L t2=some v2:=by rfl)(hv:Value.tuple #[v1,v2]=val x:=by rfl)(he:aK H (post x++[F]) R:=by exact aK.auto):bY W N (bodyPost P fn (fun e w'=>∃ x,e = .returned (val x)∧fact x∧Sat W w' (sep (seps (post x)) F))) .ret L H :=
 .ef hr h1 h2 fun _ s=>⟨x,by rw[hv],hf,aq he s⟩
theorem bY.w0(_:JU x)(hf:fact x:=by exact trivial)(hr:fn.results = #[]:=by rfl)(hv:Value.tuple #[]=val x:=by rfl)(he:aK H (post x++[F]) R:=by exact aK.auto):bY W N (bodyPost P fn (fun e w'=>∃ x,e = .returned (val x)∧fact x∧Sat W w' (sep (seps (post x)) F))) .normal L H :=
 .C7 hr fun _ s=>⟨x,by rw[hv],hf,aq he s⟩
theorem bY.wr(_:JU x)(hf:fact x:=by exact trivial)(hr:fn.results = #[]:=by rfl)(hv:Value.tuple #[]=val x:=by rfl)(he:aK H (post x++[F]) R:=by exact aK.auto):bY W N (bodyPost P fn (fun e w'=>∃ x,e = .returned (val x)∧fact x∧Sat W w' (sep (seps (post x)) F))) .ret L H :=
 .K0 hr fun _ s=>⟨x,by rw[hv],hf,aq he s⟩
end
end
theorem J{G G':Prop}(n:Nat)(k:G')(f:CY n→Hid G'→G:=by intro c h;(repeat (replace c:=CY.s c;first | refine .p .y ?_ | refine .n ?_ | refine .s ?_ | refine .r ?_ | refine .b ?_ | refine .t ?_ | refine .e ?_ | refine .u ?_ | refine .g .y ?_ | refine .v ?_ | refine .br ?_ | refine .tr ?_ | refine .q .y ?_ | refine .w ?_ | refine .h .y ?_ | refine .x ?_ | refine .bh ?_ | refine .bp rfl ?_ | refine .tx ?_ | (refine .aw rfl (af.st ij.ok rfl rfl rfl rfl) ?_;rintro _ _ ⟨rfl,rfl⟩) | (refine .d3 rfl (af.st ij.ok rfl rfl rfl rfl) ?_;rintro _ _ ⟨rfl,rfl⟩) | (refine .d2 rfl Kept.auto (af.st ij.ok rfl rfl rfl rfl) (by rintro _ _ ⟨rfl,rfl⟩;exact Kept.auto) ?_;rintro _ _ ⟨rfl,rfl⟩) | (refine .aw rfl (af.tf (by exact ij.ok) rfl rfl rfl (by rfl)) ?_;rintro _ _ ⟨rfl,rfl⟩)));exact h.go):G:=f (.mk n) ⟨k⟩
theorem JD{G p q G1 G2:Prop}(n:Nat)(k1:p→G1)(k2:q→G2)(f:CY n→Hid (p→G1)→Hid (q→G2)→G:=by intro c h1 h2;(repeat (replace c:=CY.s c;first | refine .p .y ?_ | refine .n ?_ | refine .s ?_ | refine .r ?_ | refine .b ?_ | refine .t ?_ | refine .e ?_ | refine .u ?_ | refine .g .y ?_ | refine .v ?_ | refine .br ?_ | refine .tr ?_ | refine .q .y ?_ | refine .w ?_ | refine .h .y ?_ | refine .x ?_ | refine .bh ?_ | refine .bp rfl ?_ | refine .tx ?_ | (refine .aw rfl (af.st ij.ok rfl rfl rfl rfl) ?_;rintro _ _ ⟨rfl,rfl⟩) | (refine .d3 rfl (af.st ij.ok rfl rfl rfl rfl) ?_;rintro _ _ ⟨rfl,rfl⟩) | (refine .d2 rfl Kept.auto (af.st ij.ok rfl rfl rfl rfl) (by rintro _ _ ⟨rfl,rfl⟩;exact Kept.auto) ?_;rintro _ _ ⟨rfl,rfl⟩) | (refine .aw rfl (af.tf (by exact ij.ok) rfl rfl rfl (by rfl)) ?_;rintro _ _ ⟨rfl,rfl⟩)));first | exact .dK rfl h1.go h2.go | exact .cond rfl h1.go h2.go):G:=f (.mk n) ⟨k1⟩ ⟨k2⟩
theorem JR{G:Prop}{X:Type}(n:Nat)(x:X)(f:CY n→JU x→G:=by intro c h;(repeat (replace c:=CY.s c;first | refine .p .y ?_ | refine .n ?_ | refine .s ?_ | refine .r ?_ | refine .b ?_ | refine .t ?_ | refine .e ?_ | refine .u ?_ | refine .g .y ?_ | refine .v ?_ | refine .br ?_ | refine .tr ?_ | refine .q .y ?_ | refine .w ?_ | refine .h .y ?_ | refine .x ?_ | refine .bh ?_ | refine .bp rfl ?_ | refine .tx ?_ | (refine .aw rfl (af.st ij.ok rfl rfl rfl rfl) ?_;rintro _ _ ⟨rfl,rfl⟩) | (refine .d3 rfl (af.st ij.ok rfl rfl rfl rfl) ?_;rintro _ _ ⟨rfl,rfl⟩) | (refine .d2 rfl Kept.auto (af.st ij.ok rfl rfl rfl rfl) (by rintro _ _ ⟨rfl,rfl⟩;exact Kept.auto) ?_;rintro _ _ ⟨rfl,rfl⟩) | (refine .aw rfl (af.tf (by exact ij.ok) rfl rfl rfl (by rfl)) ?_;rintro _ _ ⟨rfl,rfl⟩)));first | exact .w1 h | exact .w2 h | exact .w0 h | exact .wr h):G:=f (.mk n) (.mk x)
theorem JS{G:Prop}(n:Nat)(f:CY n→G:=by intro c;(repeat (replace c:=CY.s c;first | refine .p .y ?_ | refine .n ?_ | refine .s ?_ | refine .r ?_ | refine .b ?_ | refine .t ?_ | refine .e ?_ | refine .u ?_ | refine .g .y ?_ | refine .v ?_ | refine .br ?_ | refine .tr ?_ | refine .q .y ?_ | refine .w ?_ | refine .h .y ?_ | refine .x ?_ | refine .bh ?_ | refine .bp rfl ?_ | refine .tx ?_ | (refine .aw rfl (af.st ij.ok rfl rfl rfl rfl) ?_;rintro _ _ ⟨rfl,rfl⟩) | (refine .d3 rfl (af.st ij.ok rfl rfl rfl rfl) ?_;rintro _ _ ⟨rfl,rfl⟩) | (refine .d2 rfl Kept.auto (af.st ij.ok rfl rfl rfl rfl) (by rintro _ _ ⟨rfl,rfl⟩;exact Kept.auto) ?_;rintro _ _ ⟨rfl,rfl⟩) | (refine .aw rfl (af.tf (by exact ij.ok) rfl rfl rfl (by rfl)) ?_;rintro _ _ ⟨rfl,rfl⟩)));first | exact .tg .auto rfl (fun _ h=>h) | exact .tg .auto rfl (aK.kept .auto)):G:=f (.mk n)
end Go.SLYtefdijgllbkmfaaGreat
