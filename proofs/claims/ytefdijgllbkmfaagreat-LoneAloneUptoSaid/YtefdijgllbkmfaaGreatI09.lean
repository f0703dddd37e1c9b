/- Walks of functions, and what they compute. Conditions: none, this text proves no statement. -/
import Derived.Test.YtefdijgllbkmfaaGreatI08
import Derived.Test.YtefdijgllbkmfaaGreatI03
import Derived.MapKept
import Derived.Laws.NewFold
import Derived.Test.YtefdijgllbkmfaaGreatI06
import Derived.Test.YtefdijgllbkmfaaGreatProg
import Derived.KernelRfl
set_option maxRecDepth 20000
set_option maxHeartbeats 4000000
namespace Go.SLYtefdijgllbkmfaaGreat
open Go Go.RowKit
variable{p0:eB}
theorem KI{s:Spc}{w:Int}(h:kV (fun m:dt=>dj w m.wait) s.ag.aD=0):nC s w:=fun x hx y hy e=>by
 have h1:=dh (f:=fun m:dt=>dj w m.wait) hx
 have h2:0<dj w x.wait:=List.countP_pos_iff.2 ⟨y,hy,by simp[Ec,e]⟩
 omega
theorem Cw{w:Int}{l:List dc}:(l.map (·.who)).count w=dj w l:=by
 unfold dj List.count;rw[List.countP_map];rfl
theorem RA.lh{a:RA}{u:RT}:(a.aj u).t=u:=dz
theorem RA.fN{a:RA}{u v:RT}:(a.aj u).aj v=a.aj v:=by
 unfold RA.aj RSp.aj;simp only[oV]
theorem RA.q8{a:RA}:a.aj a.t=a:=by
 unfold RA.aj RSp.aj RA.t RSp.t;simp only[ES]
theorem RA.E5{a:RA}{u:RT}(h:u.handle=a.t.handle){x y e:Int}{f:Bool}:(a.aj u).say x y e f=(a.say x y e f).aj u:=by
 unfold RA.say;rw[RA.lh,h];rfl
theorem jw.pc{L:Nat}{t:bF}{u:RT}(h:jw L t u){x y:Int}(e:y=x):jw L {t with pc:=x } {u with pc:=y }:=⟨h.us,h.h,h.w,h.f,e,h.r,h.v,h.d,h.j,h.o,h.i,h.fl⟩
theorem wR.pc{u:RT}(h:wR u){x:Int}(hx:0≤x∧x≤1000000):wR {u with pc:=x }:=⟨h.r,h.i,h.j,hx,h.v⟩
section
variable{k:Nat}{s0:Spc}{d:Dng}{t:bF}{a:RA}
theorem aV.ra(h:aV p0 d a)(S:St k s0 d t):a.t.eW a.i.a=d.a:=by rw[h.i,(h.th S.ht).eW S.I.a];unfold Dng.a;rw[bZ S.ht]
theorem aV.rb(h:aV p0 d a)(S:St k s0 d t):a.t.eW a.i.b=d.b:=by rw[h.i,(h.th S.ht).eW S.I.b];unfold Dng.b;rw[bZ S.ht]
/-! signals -/
theorem zL{g:Gates}{c ch op:Int}{row:List dc}(hg:cH g.bm c=some row)(hop:op=28∨op=29){a:RA}(ha:a.i.op=op) :
  g.signal c ch (decide (op=29))=((sigRun (fj a row ch) g.aD []).2,0,{g with aD:=(sigRun (fj a row ch) g.aD []).1,bm:=g.bm.set c.toNat (oY a row ch) }):=by
 unfold Gates.signal
 rw[hg]
 simp only
 rcases hop with rfl | rfl
 ·rw[if_neg (by decide),if_neg (by decide)]
  by_cases e:0<row.length
  ·have h1:fj a row ch=[row.getD (pick ch row.length) ⟨0,0⟩]:=by unfold fj;rw[if_pos ⟨ha,e⟩]
   have h2:oY a row ch=row.eraseIdx (pick ch row.length):=by unfold oY;rw[if_pos ⟨ha,e⟩]
   rw[show min row.length 1=1 from by omega,yw e,h1,h2]
  ·have h0:row=[]:=List.eq_nil_of_length_eq_zero (by omega)
   subst h0
   have h1:fj a [] ch=[]:=by unfold fj;split <;> simp_all
   have h2:oY a [] ch=[]:=by unfold oY;split <;> simp_all
   rw[h1,h2];rfl
 ·rw[if_pos (by decide),if_pos (by decide),qG]
  have h1:fj a row ch=row:=by unfold fj;rw[if_neg (by rw[ha];rintro⟨h,_⟩;exact absurd h (by decide))]
  have h2:oY a row ch=[]:=by unfold oY;rw[if_neg (by rw[ha];rintro⟨h,_⟩;exact absurd h (by decide))]
  rw[h1,h2]
theorem E6{a:RA}{row:List dc}{ch:Int}{w:dc}(h:w∈fj a row ch):w∈row:=by
 unfold fj at h
 split at h
 ·rename_i hc
  rw[List.mem_singleton] at h;subst h
  exact List.mem_of_getElem? (getD_some (eX hc.2))
 ·exact h
theorem aV.signal(S:St k s0 d t)(h:aV p0 d a){c:Int}(hc:c=d.choice)(hop:d.i.op=28∨d.i.op=29)(h1:d.i.n<(d.s.ag.bm.length:Int)) :
  aV p0 (((d.aY (d.s.ag.signal d.i.n d.choice (decide (d.i.op=29))).2.2).pass d.i.n 0 (d.s.ag.signal d.i.n d.choice (decide (d.i.op=29))).2.1).jY (d.s.ag.signal d.i.n d.choice (decide (d.i.op=29))).1) (a.signal d.i.n.toNat c):=by
 subst hc
 have hIn:=S.I.n
 obtain⟨row,hr,hg⟩:=ck (l:=d.s.ag.bm) (i:=d.i.n) ⟨hIn.1,h1⟩
 have hrm:=List.mem_of_getElem? hr
 have hsc:=(xK (c:=d.i.n) (ch:=d.choice) (all:=decide (d.i.op=29)) S.h.ok.gt).2
 rw[zL hg hop (a:=a) (by rw[h.i])] at hsc ⊢
 simp only at hsc ⊢
 rw[uz,h.s.cd,bJ hr]
 have hcnt:∀ w∈row,1≤kV (dj w.who) d.s.ag.bm:=fun w hw=>by
  have e1:=dh (f:=dj w.who) hrm
  have e2:0<dj w.who row:=List.countP_pos_iff.2 ⟨w,hw,by simp[Ec]⟩
  omega
 have hlive:∀ w∈row,Wt d.s w:=fun w hw=>by
  have e1:=hcnt w hw
  obtain⟨b0,b1,u,b2,b3⟩:=S.live (w:=w.who) (by unfold gH cG;omega)
  have e2:=S.one w.who
  have e3:=S.h.ok.gt.cm row hrm w hw
  exact⟨by omega,b0,⟨u,b2,b3⟩,KI (by unfold gH cG at e2;omega)⟩
 have hne:∀ w∈row,w.who.toNat≠d.n:=fun w hw=>by
  have e1:=hcnt w hw
  exact(S.live (w:=w.who) (by unfold gH cG;omega)).2.1
 have hO:∀ w∈fj a row d.choice,w∈row:=fun w hw=>E6 hw
 have hnd:((fj a row d.choice).map (·.who)).Nodup:=by
  have hrow:(row.map (·.who)).Nodup:=List.nodup_iff_count.2 (fun w=>by
   rw[Cw]
   have e1:=dh (f:=dj w) hrm
   have e2:=S.one w
   unfold gH cG at e2;omega)
  unfold fj;split
  ·simp
  ·exact hrow
 generalize hout:fj a row d.choice=out at *
 generalize hrest:oY a row d.choice=rest at *
 have hA:aV p0 ((d.aY {d.s.ag with bm:=d.s.ag.bm.set d.i.n.toNat rest }).pass d.i.n 0 0) (mP a d.i.n.toNat d.choice):=by
  have h2:=(h.bm (l:=d.s.ag.bm.set d.i.n.toNat rest)).pass (t:=t) (x:=d.i.n) (y:=0) (e:=0) S.ht (by decide)
  have e:mP a d.i.n.toNat d.choice=(a.w {a.s with bm:=d.s.ag.bm.set d.i.n.toNat rest }).done d.i.n 0 0:=by
   unfold mP;rw[h.s.cd,bJ hr,hrest,h.i];rfl
  rw[e];exact h2
 have hT:∀ {m:Nat} {u:bF},m≠d.n→d.s.thr[m]?=some (some u)→((d.aY {d.s.ag with bm:=d.s.ag.bm.set d.i.n.toNat rest }).pass d.i.n 0 0).s.thr[m]?=some (some u):=fun hm hu=>by
  unfold Dng.pass
  exact cn (s:=((d.aY _).tell _ _ _ _).s) hu (Ne.symm hm)
 have hWt:∀ w∈out,Wt ((d.aY {d.s.ag with bm:=d.s.ag.bm.set d.i.n.toNat rest }).pass d.i.n 0 0).s w:=fun w hw=>by
  have e:=hlive w (hO w hw)
  obtain⟨u,hu,hi⟩:=e.l
  exact⟨e.m,e.o,⟨u,hT (hne w (hO w hw)) hu,hi⟩,e.n⟩
 have h3:=aV.sigs out hA hWt hnd
 refine Eq.mp ?_ h3
 congr 1
 have hml:=S.h.ok.gt.m
 have hlen:(sigRun out d.s.ag.aD []).1.length=d.s.dG.ay.toNat:=Bg.trans hml
 have hWin:∀ w,w∈((sigRun out d.s.ag.aD []).1.take d.s.dG.ay.toNat).flatMap (fun m=>m.wait.map (·.who))↔qH (sigRun out d.s.ag.aD []).1 w:=fun w=>by
  rw[List.take_of_length_le (by omega),List.mem_flatMap]
  exact⟨fun⟨x,hx,hw⟩=>by obtain⟨y,hy,e⟩:=List.mem_map.1 hw;exact⟨x,hx,y,hy,e⟩,fun⟨x,hx,y,hy,e⟩=>⟨x,hx,List.mem_map.2 ⟨y,hy,e⟩⟩⟩
 refine(wI out _ (((sigRun out d.s.ag.aD []).1.take d.s.dG.ay.toNat).flatMap (fun m=>m.wait.map (·.who))) hWt hnd (fun w hw=>?_) (fun w hw=>?_) (fun w hw hin=>?_) (fun w hw=>?_)).trans rfl
 ·rcases zK ((hWin w).1 hw) with ⟨x,hx,y,hy,e⟩ | ⟨z,hz,e⟩
  ·obtain⟨u,hu,_⟩:=h.s.mw x hx y hy
   rw[← e];exact(fi hu).1
  ·rw[← e];exact(hlive z (hO z hz)).o
 ·rcases E4 (l:=out) (ms:=d.s.ag.aD) (fun w hw=>(hlive w (hO w hw)).m) w hw with e | e
  ·exact .inl e
  ·exact .inr ((hWin _).2 e)
 ·have e1:=hsc w
  have e2:0<(sigRun out d.s.ag.aD []).2.count w:=List.count_pos_iff.2 hw
  have e3:=S.one w
  unfold gH at e3
  have e4:=mf (s:={d.s with ag:={d.s.ag with aD:=(sigRun out d.s.ag.aD []).1,bm:=d.s.ag.bm.set d.i.n.toNat rest } }) (w:=w) (by simp only;omega)
  obtain⟨x,hx,y,hy,e⟩:=(hWin w).1 hin
  exact e4 x hx y hy e
 ·rcases zK ((hWin w).1 hw) with ⟨x,hx,y,hy,e⟩ | ⟨z,hz,e⟩
  ·obtain⟨u,hu,hw1⟩:=h.s.mw x hx y hy
   rw[e] at hu
   obtain⟨c0,c1⟩:=fi hu
   refine .inl ⟨u,hT (fun e=>?_) c1,hw1⟩
   rw[e,S.ht] at c1;cases c1;rw[S.hw] at hw1;cases hw1
  ·exact .inr ⟨z,hz,e⟩
/-! pipes, the disk, sleep -/
theorem sQ{l:List (Int×Int)}{n v m:Int}:cC (mapSet l n v) m=if m=n then some v else cC l m:=by
 induction l with
 | nil =>
  unfold mapSet cC
  by_cases e:m=n
  ·subst e;simp
  ·rw[if_neg e];simp;exact fun h=>e h.symm
 | cons p l ih =>
  unfold mapSet
  by_cases e:p.1=n
  ·rw[if_pos e]
   unfold cC
   by_cases e2:m=n
   ·subst e2;simp
   ·rw[if_neg e2,List.find?_cons_of_neg (by simp only[decide_eq_true_eq];exact fun h=>e2 h.symm),List.find?_cons_of_neg (by simp only[decide_eq_true_eq];exact fun h=>e2 (h.symm.trans e))]
  ·rw[if_neg e]
   unfold cC at ih ⊢
   by_cases e2:p.1=m
   ·rw[List.find?_cons_of_pos (by simpa using e2),List.find?_cons_of_pos (by simpa using e2),if_neg (fun h=>e (e2.trans h))]
   ·rw[List.find?_cons_of_neg (by simpa using e2),List.find?_cons_of_neg (by simpa using e2)];exact ih
theorem aV.oy(h:aV p0 d a){i:Nat}{u:Tub}(hu:(u.words.length:Int)≤u.room):aV p0 (d.dM i u) (a.w (a.s.oy i u)) :=
 ⟨⟨h.s.pg,h.s.tk,h.s.no,h.s.th,h.s.T,h.s.me,h.s.mx,h.s.cd,h.s.sm,h.s.sw,(by show a.s.jv.set i u=d.s.bx.set i u;rw[h.s.pp]),h.s.bk,h.s.ak,h.s.nw,h.s.tl,h.s.tp,h.s.rc,fun x hx=>by
  rcases List.mem_or_eq_of_mem_set hx with hx | rfl
  ·exact h.s.tr x hx
  ·exact hu,h.s.ow,h.s.mw⟩,h.n,h.i,h.e,h.l⟩
theorem St.Bi(S:St k s0 d t){u:Tub}(hu:u∈d.s.bx){w:Int}(hw:0<cU w u):nC d.s w∧0≤w∧w.toNat≠d.n∧ ∃ v,d.s.thr[w.toNat]?=some (some v)∧(-1≤v.into∧v.into<8):=by
 have e1:cU w u≤cT d.s.bx w:=dh (f:=cU w) hu
 have e2:=S.one w
 unfold gH at e2
 obtain⟨b0,b1,v,b2,b3⟩:=S.live (w:=w) (by unfold gH;omega)
 exact⟨mf (by omega),b0,b1,v,b2,b3⟩
theorem aV.putP(S:St k s0 d t)(h:aV p0 d a)(ht:d.i.n<(d.s.bx.length:Int)){x:Int}(hx:x=d.a):aV p0 d.put (a.putP x):=by
 subst hx
 obtain⟨h1,h2,h3⟩:=S.bc ht
 have hmem:=List.mem_of_getElem? h1
 have hu:a.s.jv[a.i.n.toNat]?=some d.bc:=by rw[h.s.pp,h.i];exact h1
 have htr:=h.s.tr _ hmem
 have hp:∀ {g:Tub} {m:Nat} {v:bF},m≠d.n→d.s.thr[m]?=some (some v)→((d.dM d.i.n.toNat g).pass d.i.n d.a 0).s.thr[m]?=some (some v):=fun hm hv=>by
  unfold Dng.pass;exact cn (s:=((d.dM _ _).tell _ _ _ _).s) hv (Ne.symm hm)
 unfold Dng.put
 simp only
 cases hg:d.bc.bz with
 | cons w r =>
  rw[og h3 hg]
  rw[if_neg (by simp),if_pos rfl,uF hu (by rw[hg];simp) hg,h.i]
  obtain⟨c1,c0,c2,v,c3,c4⟩:=S.Bi hmem (w:=w) (by unfold cU;rw[hg,eJ,je rfl];omega)
  have h4:=(h.oy (i:=d.i.n.toNat) (u:={d.bc with bz:=r }) htr).pass (x:=d.i.n) (y:=d.a) (e:=0) (t:=t) S.ht (by decide)
  exact h4.dW (n:=w.toNat) (hp c2 c3) c4 (by rw[show((w.toNat:Nat):Int)=w from by omega];exact c1) S.a
 | nil =>
  by_cases hr:(d.bc.words.length:Int)<d.bc.room
  ·rw[lQ h3 hg hr]
   rw[if_neg (by simp),if_neg (by simp),yo hu (by rintro⟨_,e⟩;omega) hg,h.i]
   exact(h.oy (i:=d.i.n.toNat) (u:={d.bc with words:=d.bc.words++[d.a] }) (by show((d.bc.words++[d.a]).length:Int)≤d.bc.room;rw[List.length_append,List.length_singleton];omega)).pass (x:=d.i.n) (y:=d.a) (e:=0) (t:=t) S.ht (by decide)
  ·rw[lR h3 hg hr]
   rw[if_pos rfl,uE hu ⟨by rw[hg];rfl,by omega⟩,h.i,h.n]
   exact(h.oy (i:=d.i.n.toNat) (u:={d.bc with bN:=d.bc.bN++[⟨d.n,d.a⟩] }) htr).block (t:=t) S.ht (into := -1) ⟨by decide,by decide⟩ rfl (.inl S.E3)
theorem aV.getP(S:St k s0 d t)(h:aV p0 d a)(ht:d.i.n<(d.s.bx.length:Int)):aV p0 d.get a.getP:=by
 obtain⟨h1,h2,h3⟩:=S.bc ht
 have hIa:=S.I.a
 have hmem:=List.mem_of_getElem? h1
 have hu:a.s.jv[a.i.n.toNat]?=some d.bc:=by rw[h.s.pp,h.i];exact h1
 have htr:=h.s.tr _ hmem
 unfold Dng.get
 simp only
 cases hw:d.bc.words with
 | nil =>
  rw[get_none h3 hw,if_pos rfl,uG hu hw,h.i,h.n]
  exact(h.oy (i:=d.i.n.toNat) (u:={d.bc with bz:=d.bc.bz++[(d.n:Int)] }) htr).block (t:=t) S.ht (by omega) rfl (.inl S.E3)
 | cons x r =>
  have hx:ff x:=h2.w x (by rw[hw];exact List.mem_cons_self)
  have hlr:(r.length:Int)+1≤d.bc.room:=by rw[hw,List.length_cons] at htr;omega
  have key:∀ u:Tub,(u.words.length:Int)≤u.room→aV p0 (((d.dM d.i.n.toNat u).aj (t.put d.i.a x)).pass d.i.n x 0) (((a.w (a.s.oy d.i.n.toNat u)).aj (a.t.put d.i.a x)).done d.i.n x 0):=fun u hu=>by
   have h4:=(h.oy (i:=d.i.n.toNat) hu).put (t:=t) (i:=d.i.a) (v:=x) S.ht hIa hx
   exact h4.pass (t:=t.put d.i.a x) (bS S.ht) (by decide)
  cases hp:d.bc.bN with
  | nil =>
   rw[mq h3 hw hp,if_neg (by simp),if_neg (by simp),Bd hu hw hp]
   rw[show(d.dM d.i.n.toNat {d.bc with words:=r }).t=t from bZ S.ht]
   unfold RA.yL
   rw[h.i]
   exact key {d.bc with words:=r } (by show(r.length:Int)≤d.bc.room;omega)
  | cons y q =>
   rw[mr h3 hw hp,if_neg (by simp),if_pos rfl,uH hu hw hp]
   rw[show(d.dM d.i.n.toNat {d.bc with words:=r++[y.x],bN:=q }).t=t from bZ S.ht]
   obtain⟨c1,c0,c2,v,c3,c4⟩:=S.Bi hmem (w:=y.who) (by unfold cU;rw[hp,ue,je rfl];omega)
   have h5:=key {d.bc with words:=r++[y.x],bN:=q } (by show((r++[y.x]).length:Int)≤d.bc.room;rw[List.length_append,List.length_singleton];omega)
   have e:((a.yL d.bc x r).w ((a.yL d.bc x r).s.oy a.i.n.toNat {d.bc with words:=r++[y.x],bN:=q }))=((a.w (a.s.oy d.i.n.toNat {d.bc with words:=r++[y.x],bN:=q })).aj (a.t.put d.i.a x)).done d.i.n x 0:=by
    unfold RA.yL
    rw[h.i]
    unfold RA.done RA.say RA.aj RA.w RSp.oy RSp.aj
    simp only[List.set_set]
    rfl
   rw[e]
   refine h5.dW (n:=y.who.toNat) (u:=v) ?_ c4 (by rw[show((y.who.toNat:Nat):Int)=y.who from by omega];exact c1) ⟨by decide,by decide⟩
   unfold Dng.pass
   exact cn (s:=(((d.dM _ _).aj _).tell _ _ _ _).s) (cn (s:=(d.dM _ _).s) c3 (Ne.symm c2)) (Ne.symm c2)
theorem aV.aN(S:St k s0 d t)(h:aV p0 d a){b y i i':Int}(hb:0≤b)(hi : -1≤i∧i<8)(hi':i'=i+1):aV p0 (d.ask b y i) (a.aN b y i'):=by
 have hbl:=S.h.ok.dk.l
 unfold Dng.ask
 by_cases e:(d.s.aN.blocks.length:Int)≤b
 ·rw[wG (by rw[h.s.bk];exact e)]
  split
  ·have e1:d.s.aN.ask ⟨d.n,b,decide (d.i.op=34),y⟩=(1,d.s.aN):=by unfold jB.ask;rw[if_pos (.inr e)]
   simp only
   rw[e1,if_pos (by simp)]
   exact h.pass (e:=1) S.ht (by decide)
  ·exact h.pass S.ht (by decide)
 ·rw[wH (by rw[h.s.bk];exact e),if_pos (by omega)]
  have hz:cD d.s.aN d.n=0:=by have:=S.zero;unfold gH at this;omega
  have hno:d.s.aN.wait.any (fun x=>decide (x.who=(d.n:Int)))=false:=by
   cases hh:d.s.aN.wait.any (fun x=>decide (x.who=(d.n:Int))) with
   | false=>rfl
   | true =>
    obtain⟨x,hx,hx2⟩:=List.any_eq_true.1 hh
    have:0<cD d.s.aN d.n:=List.countP_pos_iff.2 ⟨x,hx,hx2⟩
    omega
  have e1:d.s.aN.ask ⟨d.n,b,decide (d.i.op=34),y⟩=(0,{d.s.aN with wait:=d.s.aN.wait++[⟨d.n,b,decide (d.i.op=34),y⟩] }):=by
   unfold jB.ask;rw[if_neg (by rintro(h | h);exact absurd hb (by show ¬ 0≤b;exact Int.not_le.2 h);exact e h),if_neg (by rw[hno];simp)]
  simp only
  rw[e1,if_neg (by simp),h.i,h.n]
  have h1:aV p0 (d.dv {d.s.aN with wait:=d.s.aN.wait++[⟨d.n,b,decide (d.i.op=34),y⟩] }) (a.w {a.s with ask:=a.s.ask++[⟨d.n,b,decide (d.i.op=34),y⟩] }) :=
   ⟨⟨h.s.pg,h.s.tk,h.s.no,h.s.th,h.s.T,h.s.me,h.s.mx,h.s.cd,h.s.sm,h.s.sw,h.s.pp,h.s.bk,(by show a.s.ask++_=d.s.aN.wait++_;rw[h.s.ak]),h.s.nw,h.s.tl,h.s.tp,h.s.rc,h.s.tr,h.s.ow,h.s.mw⟩,h.n,h.i,h.e,h.l⟩
  exact h1.block (t:=t) S.ht hi hi' (.inl S.E3)
theorem aV.sleep(S:St k s0 d t)(h:aV p0 d a){x:Int}(hx:x=d.a):aV p0 d.sleep (a.sleep x):=by
 subst hx
 have ha:=S.a
 unfold Dng.sleep
 simp only
 by_cases e:d.a=0
 ·rw[if_pos e,Be e];exact h.pass S.ht (by decide)
 ·rw[if_neg e]
  by_cases e2:1099511627776<d.a
  ·rw[if_pos e2,uI e e2];exact h.pass S.ht (by decide)
  ·rw[if_neg e2,sL e e2 rfl]
   have hz:cL d.s.aA d.n=0:=by have:=S.zero;unfold gH at this;omega
   have e3:(d.s.aA.sleep d.n d.a).2 = {d.s.aA with dV:=mapSet d.s.aA.dV d.n (min (d.s.aA.now+d.a) 1099511627776) }:=by
    have h0:=ha.1
    unfold jW.sleep
    rw[if_neg (by omega),lY hz,if_neg (by simp)]
   rw[e3]
   have h1:aV p0 (d.rQ {d.s.aA with dV:=mapSet d.s.aA.dV d.n (min (d.s.aA.now+d.a) 1099511627776) }) (a.w {a.s with til:=dR a.s.til a.n (min (a.s.now+d.a) 1099511627776+1) }) :=
    ⟨⟨h.s.pg,h.s.tk,h.s.no,h.s.th,h.s.T,h.s.me,h.s.mx,h.s.cd,h.s.sm,h.s.sw,h.s.pp,h.s.bk,h.s.ak,h.s.nw,(fun m=>by
     show dR a.s.til a.n (min (a.s.now+d.a) 1099511627776+1) m=Jq (cC (mapSet d.s.aA.dV d.n (min (d.s.aA.now+d.a) 1099511627776)) m)
     rw[sQ,h.n,h.s.nw]
     by_cases em:m=d.n
     ·subst em;rw[dz,if_pos rfl];rfl
     ·rw[jk em,if_neg (by omega)];exact h.s.tl m),(fun m v e=>by
     have e:cC (mapSet d.s.aA.dV d.n (min (d.s.aA.now+d.a) 1099511627776)) m=some v:=e
     rw[sQ] at e
     have hw:=S.h.ok.wl
     have h0:=ha.1
     split at e
     ·cases e;omega
     ·exact h.s.tp m v e),h.s.rc,h.s.tr,h.s.ow,h.s.mw⟩,h.n,h.i,h.e,h.l⟩
   exact h1.block (t:=t) S.ht (into := -1) ⟨by decide,by decide⟩ rfl (.inl S.E3)
theorem aV.kernel(S:St k s0 d t)(h:aV p0 d a)(ht:d.i.op=35∨d.i.op=36→d.i.n<(d.s.bx.length:Int)){x y:Int}(hx:x=d.a)(hy:y=d.b):aV p0 d.kernel (a.kernel x y):=by
 have hi:=S.I.a
 have e:=h.i
 have hb:=S.b
 have ha:=S.a
 unfold Dng.kernel
 split
 ·rename_i c;rw[Jj (by rw[e];exact c),hy];exact h.aN S hb.1 (by omega) (by rw[e])
 split
 ·rename_i c;rw[Jk (by rw[e];exact c),hx,hy];exact h.aN S ha.1 (by decide) rfl
 split
 ·rename_i c;rw[G0 (by rw[e];exact c)];exact h.putP S (ht (.inl c)) hx
 split
 ·rename_i c;rw[Ky (by rw[e];exact c)];exact h.getP S (ht (.inr c))
 split
 ·rename_i c;rw[EW (by rw[e];exact c)];exact h.sleep S hx
 ·rename_i c1 c2 c3 c4 c5
  rw[Kz (by rw[e];exact c1) (by rw[e];exact c2) (by rw[e];exact c3) (by rw[e];exact c4) (by rw[e];exact c5),hx]
  exact h.pass S.ht (by decide)
end
end Go.SLYtefdijgllbkmfaaGreat
namespace Go.SLYtefdijgllbkmfaaGreat
open Go Go.RowKit
variable{p0:eB}
section
variable{k:Nat}{s0:Spc}{d:Dng}{t:bF}{a:RA}
theorem St.fin(S:St k s0 d t):¬t.ar = -1→nC d.s t.ar∧0≤t.ar∧t.ar.toNat≠d.n∧ ∃ u,d.s.thr[t.ar.toNat]?=some (some u)∧(-1≤u.into∧u.into<8):=fun hj=>by
 have e1:1≤cJ d.s.thr t.ar:=by
  have e2:=dh (f:=jn t.ar) (List.mem_of_getElem? S.ht)
  rw[gk,if_pos ⟨rfl,hj⟩] at e2;exact e2
 have e2:=S.one t.ar
 unfold gH at e2
 obtain⟨b0,b1,v,b2,b3⟩:=S.live (w:=t.ar) (by unfold gH;omega)
 exact⟨mf (by omega),b0,b1,v,b2,b3⟩
theorem Cx{s:Spc}{f arg:Int}{n:Nat}(hn:slotFree? s.table 0=some n)(hl:n<s.thr.length):(s.begin f arg).2.2.t n=mM f arg (dn ((s.table.getD n (false,0)).2+1) n):=by
 obtain⟨t1,h1,h2⟩:=pL (f:=f) (arg:=arg) hn hl
 rw[cV h1,h2]
theorem aV.spawn(S:St k s0 d t)(hk:k≤1000000)(h:aV p0 d a)(hf:d.i.n<(d.s.dG.funcs.length:Int))(hwk:d.out.aL=[]){y:Int}(hy:y=d.b):aV p0 d.spawn (a.spawn y):=by
 subst hy
 have hIa:=S.I.a
 have hIn:=S.I.n
 have hb:=S.b
 have hO:=S.h.ok
 unfold Dng.spawn
 simp only
 cases hfr:slotFree? d.s.table 0 with
 | none =>
  have e:d.s.begin d.i.n d.b=(0,2,d.s):=iX hfr
  have e2:a.s.begin a.i.n d.b=(-1,a.s):=by unfold RSp.begin;rw[h.s.H6 hO,hfr]
  rw[e]
  simp only[show ¬((2:Int)=0) from by decide,if_false]
  rw[bZ (d:={d with s:=d.s,out:=d.out }) S.ht]
  have e3:a.spawn d.b=(a.aj (a.t.put a.i.a 0)).done a.i.n 0 2:=by
   unfold RA.spawn;rw[e2];rfl
  rw[e3,h.i]
  have h1:=h.put (t:=t) (i:=d.i.a) (v:=0) S.ht hIa ⟨by decide,by decide⟩
  exact h1.pass (e:=2) (t:=t.put d.i.a 0) (bS S.ht) (by decide)
 | some n =>
  obtain⟨h16,r1,r2,r3,r4,r5⟩:=h.s.begin hO hk ⟨hIn.1,hf⟩ hb hfr
  have hne:d.n≠n:=fun e=>by rw[← e,S.ht] at r3;cases r3
  have e1:(d.s.begin d.i.n d.b).1=(n:Int):=by rw[dU hfr]
  have e2:(d.s.begin d.i.n d.b).2.1=0:=by rw[dU hfr]
  have hnl:n<d.s.thr.length:=(List.getElem?_eq_some_iff.1 r3).1
  have e3:=Cx (f:=d.i.n) (arg:=d.b) hfr hnl
  have ht2:(d.s.begin d.i.n d.b).2.2.thr[d.n]?=some (some t):=by
   rw[dU hfr];show(d.s.thr.set n _)[d.n]?=_;rw[List.getElem?_set_ne (Ne.symm hne)];exact S.ht
  rw[e2,e1]
  simp only[if_true,Int.toNat_natCast]
  rw[e3,show(mM d.i.n d.b (dn ((d.s.table.getD n (false,0)).2+1) n)).handle=dn ((d.s.table.getD n (false,0)).2+1) n from rfl]
  generalize dn ((d.s.table.getD n (false,0)).2+1) n=hh at *
  have h1:aV p0 {d with s:=(d.s.begin d.i.n d.b).2.2,out:={d.out with aL:=d.out.aL++[(n:Int)] } } {a with s:=a.s.begun n d.i.n d.b,e:={a.e with aL:=[(n:Int)] } } :=
   ⟨r2,h.n,h.i,by show({a.e with aL:=[(n:Int)] }:iY) = {d.out with aL:=d.out.aL++[(n:Int)] };rw[h.e,hwk];rfl,h.l⟩
  have e4:({d with s:=(d.s.begin d.i.n d.b).2.2,out:={d.out with aL:=d.out.aL++[(n:Int)] } }:Dng).t=t:=bZ ht2
  rw[e4]
  have h2:=h1.put (t:=t) (i:=d.i.a) (v:=hh) ht2 hIa r5
  have h3:=h2.pass (x:=d.i.n) (y:=hh) (e:=0) (t:=t.put d.i.a hh) (bS ht2) (by decide)
  have e5:a.spawn d.b=((({a with s:=a.s.begun n d.i.n d.b,e:={a.e with aL:=[(n:Int)] } }:RA).aj (({a with s:=a.s.begun n d.i.n d.b,e:={a.e with aL:=[(n:Int)] } }:RA).t.put d.i.a hh)).done d.i.n hh 0):=by
   have r4':((a.s.begun n d.i.n d.b).t n).handle=hh:=r4
   obtain⟨az,an,ai,ae,al⟩:=a
   obtain rfl:ai=d.i:=h.i
   unfold RA.spawn
   simp only
   rw[r1]
   simp only[show ¬((n:Int)<0) from by omega,if_false,Int.toNat_natCast]
   have r4'':((az.begun n d.i.n d.b).t n).handle=hh:=r4'
   rw[r4'']
   try rfl
  rw[e5];exact h3
theorem nC.why{s:Spc}{r:RSp}(h:fk p0 s r){m:Nat}{u:bF}(hu:s.thr[m]?=some (some u))(hw:u.why≠1):nC s m:=fun x hx y hy e=>by
 obtain⟨t1,a1,a2⟩:=h.mw x hx y hy
 rw[e,oA hu] at a1;cases a1;exact hw a2
theorem aV.join(S:St k s0 d t)(h:aV p0 d a){y:Int}(hy:y=d.b):aV p0 d.join (a.join y):=by
 subst hy
 have hIa:=S.I.a
 have ho:=h.other S.h.ok (x:=d.b)
 unfold Dng.join
 simp only
 by_cases e:(d.other d.b).2=0
 ·rw[if_neg (fun h=>h e)]
  obtain⟨m,u,e1,hne,hu,hd,hj⟩:=jH S.h.ok e
  have hU:=h.s.th m u hu
  have hR:=h.s.T m
  have hOu:=S.h.ok.th m u hu
  have o1:(a.other d.b).1=(m:Int):=by rw[ho,e1]
  have o2:¬¬(a.other d.b).2=0:=by rw[ho];exact fun h=>h e
  rw[e1,cV hu]
  by_cases h9:u.why=9
  ·rw[if_pos h9,yd o2 o1 (by rw[hU.w];exact h9),bZ S.ht,h.i,show(a.s.thr m).value=u.value from hU.v]
   have h1:=h.put (t:=t) (i:=d.i.a) (v:=u.value) S.ht hIa hOu.R.v
   have hu2:(d.aj (t.put d.i.a u.value)).s.thr[m]?=some (some u):=cn hu (Ne.symm hne)
   have h2:=h1.off hu2 (nC.why h1.s hu2 (by rw[h9];decide))
   exact h2.pass (e:=0) (t:=t.put d.i.a u.value) (oF (bS S.ht) hne) (by decide)
  ·rw[if_neg h9,uu o2 o1 (by rw[hU.w];exact h9),h.i,h.n]
   have h1:=h.s.aj hu (t':={u with ar:=d.n }) (u':={a.s.t m with ar:=(d.n:Int)+1 }) ⟨hU.us,hU.h,hU.w,hU.f,hU.p,hU.r,hU.v,hU.d,rfl,hU.o,hU.i,hU.fl⟩ ⟨hR.r,hR.i,by show 0≤(d.n:Int)+1∧(d.n:Int)+1≤16;have:=S.h.ok.lt ▸ (List.getElem?_eq_some_iff.1 S.ht).1;omega,hR.p,hR.v⟩ (.inl rfl)
   have h2:aV p0 {d with s:=d.s.aj m {u with ar:=d.n } } ⟨a.s.aj m {a.s.t m with ar:=(d.n:Int)+1 },d.n,d.i,a.e,a.late⟩:=⟨h1,rfl,rfl,h.e,h.l⟩
   exact h2.block (t:=t) (into:=d.i.a) (cn S.ht hne) (by omega) rfl (.inl S.E3)
 ·rw[if_pos e,yc (by rw[ho];exact e),ho]
  exact h.pass S.ht j9
theorem aV.cO(S:St k s0 d t)(h:aV p0 d a){x:Int}(hx:x=d.a):aV p0 d.cO (a.cO x):=by
 subst hx
 have ho:=h.other S.h.ok (x:=d.a)
 unfold Dng.cO
 simp only
 by_cases e:(d.other d.a).2=0
 ·rw[if_neg (fun h=>h e)]
  obtain⟨m,u,e1,hne,hu,hd,hj⟩:=jH S.h.ok e
  have hU:=h.s.th m u hu
  have hR:=h.s.T m
  have o1:(a.other d.a).1.toNat=m:=by rw[ho,e1];rfl
  have o2:(a.other d.a).2=0:=by rw[ho];exact e
  rw[e1,cV hu]
  unfold RA.cO
  simp only
  rw[o1,o2]
  by_cases h9:u.why=9
  ·rw[if_pos h9,if_pos ⟨rfl,by rw[show(a.s.t m).why=u.why from hU.w];exact h9⟩]
   exact(h.off hu (nC.why h.s hu (by rw[h9];decide))).pass (e:=0) (t:=t) (oF S.ht hne) (by decide)
  ·rw[if_neg h9,if_neg (by rintro⟨_,h⟩;exact h9 (by rw[← show(a.s.t m).why=u.why from hU.w];exact h)),if_pos rfl]
   have h1:=h.s.aj hu (t':={u with bn:=true }) (u':={a.s.t m with pq:=true }) ⟨hU.us,hU.h,hU.w,hU.f,hU.p,hU.r,hU.v,rfl,hU.j,hU.o,hU.i,hU.fl⟩ ⟨hR.r,hR.i,hR.j,hR.p,hR.v⟩ (.inl rfl)
   have h2:aV p0 {d with s:=d.s.aj m {u with bn:=true } } {a with s:=a.s.aj m {a.s.t m with pq:=true } }:=⟨h1,h.n,h.i,h.e,h.l⟩
   exact h2.pass (e:=0) (t:=t) (cn S.ht hne) (by decide)
 ·rw[if_pos e]
  unfold RA.cO
  simp only
  have o2:¬(a.other d.a).2=0:=by rw[ho];exact e
  rw[if_neg (fun h=>o2 h.1),if_neg o2,ho]
  exact h.pass S.ht j9
structure qI(s:Spc)(i:Ins):Prop where
 c:1≤i.op∧i.op≤38
 f:i.op=20→i.n<(s.dG.funcs.length:Int)
 m:i.op=25∨i.op=26→i.n<(s.ag.aD.length:Int)
 w:i.op=27→i.c<(s.ag.aD.length:Int)∧i.n<(s.ag.bm.length:Int)
 g:i.op=28∨i.op=29→i.n<(s.ag.bm.length:Int)
 e:i.op=30∨i.op=31→i.n<(s.ag.bX.length:Int)
 p:i.op=35∨i.op=36→i.n<(s.bx.length:Int)
theorem aV.call(S:St k s0 d t)(hk:k≤1000000)(h:aV p0 d a)(hi:qI d.s d.i)(hwk:d.out.aL=[])(hop:20≤d.i.op){c:Int}(hc:c=d.choice):aV p0 d.call (a.call c):=by
 have e:=h.i
 have hIa:=S.I.a
 have hra:=h.ra S
 have hrb:=h.rb S
 have hT:=h.th S.ht
 unfold Dng.call
 split
 ·rename_i c1;rw[Jm (by rw[e];exact c1)];exact h.spawn S hk (hi.f c1) hwk hrb
 split
 ·rename_i c1
  rw[KA (by rw[e];exact c1),e,hT.h,bZ S.ht]
  have h1:=h.put (t:=t) (i:=d.i.a) (v:=t.handle) S.ht hIa S.o.R.h
  exact h1.pass (e:=0) (t:=t.put d.i.a t.handle) (bS S.ht) (by decide)
 split
 ·rename_i c1
  rw[KB (by rw[e];exact c1)]
  have h1:=h.pass (x:=0) (y:=0) (e:=0) S.ht (by decide)
  exact⟨h1.s,h1.n,h1.i,by show({a.e with yielded:=true }:iY) = {d.out with yielded:=true };rw[h.e],h1.l⟩
 split
 ·rename_i c1;rw[KC (by rw[e];exact c1)];exact h.join S hrb
 split
 ·rename_i c1;rw[G4 (by rw[e];exact c1)];exact h.cO S hra
 split
 ·rename_i c1
  rw[KD (by rw[e];exact c1),hra]
  exact(h.say S.ht).fin (t:=t) S.ht S.E3 S.fin S.a
 split
 ·rename_i c1;rw[nu (by rw[e];omega)];exact h.mutex S hc c1 hi.m hi.w
 split
 ·rename_i c1
  rw[nu (by rw[e];omega),yn (by rw[e];omega) (by rw[e];omega) (by rw[e];omega),e]
  exact h.signal S hc c1 (hi.g c1)
 split
 ·rename_i c1
  rcases c1 with c1 | c1
  ·rw[Jn (by rw[e];exact c1)];exact h.down S c1 (hi.e (.inl c1))
  ·rw[KE (by rw[e];exact c1)];exact h.up S hc c1 (hi.e (.inr c1))
 ·rename_i c1 c2 c3 c4 c5 c6 c7 c8 c9
  rw[H5 (by rw[e];omega)];exact h.kernel S hi.p hra hrb
/-! plain instructions -/
theorem yy{op y z:Int}:aE op y (if lL op=true then 0 else z)=aE op y z:=by
 unfold lL
 by_cases h2:op=2
 ·subst h2;rfl
 by_cases h14:op=14
 ·subst h14;rfl
 by_cases h15:op=15
 ·subst h15;rfl
 rw[if_neg (by simp[h2,h14,h15])]
theorem aV.plain(S:St k s0 d t)(h:aV p0 d a)(hpc:t.pc≤256)(_hi:qI d.s d.i)(_hop:d.i.op≤19):aV p0 d.plain a.plain:=by
 have e:=h.i
 have hI:=S.I
 have hra:=h.ra S
 have hrb:=h.rb S
 have hT:=h.th S.ht
 have hR:wR a.t:=h.s.T a.n
 have hp0:=S.o.pc
 have hU1:jw d.s.dG.funcs.length {t with pc:=t.pc+1 } {a.t with pc:=a.t.pc+1 }:=hT.pc (by rw[hT.p])
 have hR1:wR {a.t with pc:=a.t.pc+1 }:=hR.pc (by rw[hT.p];omega)
 have ha:d.t.gY.eW d.i.a=d.a:=rfl
 have hb:d.t.gY.eW d.i.b=d.b:=rfl
 have hfrm:∀ {f m},gX d.t.gY d.s.mem d.i=some (f,m)→¬d.i.op=18→¬d.i.op=19→m=d.s.mem→d.plain=d.aj (t.lM f):=fun {f m} e1 n1 n2 e2=>by
  unfold Dng.plain;rw[e1];simp only;rw[if_neg n1,if_neg n2,e2,bZ S.ht];rfl
 by_cases c16:d.i.op=16
 ·have e1:gX d.t.gY d.s.mem d.i=some ({d.t.gY with pc:=d.i.n },d.s.mem):=by unfold gX;rw[if_pos c16]
  have e2:a.plain=a.aj {a.t with pc:=a.i.n }:=by
   have e3:a.plain=(a.aj {a.t with pc:=a.t.pc+1 }).aj {(a.aj {a.t with pc:=a.t.pc+1 }).t with pc:=a.i.n }:=by
    unfold RA.plain;exact(if_neg (show ¬a.i.op=1 by rw[e];omega)).trans (if_pos (show a.i.op=16 by rw[e];exact c16))
   rw[e3,RA.fN,RA.lh]
  rw[hfrm e1 (by omega) (by omega) rfl,e2,e,bZ S.ht]
  have hj:=hI.j (.inl c16)
  have hn:=hI.n
  exact h.aj (t:=t) S.ht (hT.pc rfl) (hR.pc ⟨hn.1,by omega⟩) (.inl rfl)
 by_cases c17:d.i.op=17
 ·have e1:gX d.t.gY d.s.mem d.i=some ({d.t.gY with pc:=if d.a=0 then d.i.n else d.t.gY.pc+1 },d.s.mem):=by unfold gX;rw[if_neg c16,if_pos c17];rfl
  have e2:a.plain=a.aj {a.t with pc:=if d.a=0 then a.i.n else a.t.pc+1 }:=by
   have e3:a.plain=if a.t.eW a.i.a=0 then (a.aj {a.t with pc:=a.t.pc+1 }).aj {(a.aj {a.t with pc:=a.t.pc+1 }).t with pc:=a.i.n } else a.aj {a.t with pc:=a.t.pc+1 }:=by
    unfold RA.plain;exact(if_neg (show ¬a.i.op=1 by rw[e];omega)).trans ((if_neg (show ¬a.i.op=16 by rw[e];omega)).trans (if_pos (show a.i.op=17 by rw[e];exact c17)))
   rw[e3,hra]
   split
   ·rw[RA.fN,RA.lh]
   ·rfl
  rw[hfrm e1 (by omega) (by omega) rfl,e2,e,bZ S.ht]
  have hj:=hI.j (.inr c17)
  have hn:=hI.n
  refine h.aj (t:=t) S.ht (hT.pc ?_) (hR.pc ?_) (.inl rfl)
  ·show(if d.a=0 then d.i.n else a.t.pc+1)=if d.a=0 then d.i.n else t.gY.pc+1
   rw[hT.p];rfl
  ·have:=hT.p
   split
   ·exact⟨hn.1,by omega⟩
   ·omega
 by_cases c1:d.i.op=1
 ·have e1:gX d.t.gY d.s.mem d.i=some ({d.t.gY.put d.i.a d.i.n with pc:=d.t.gY.pc+1 },d.s.mem):=by unfold gX;rw[if_neg c16,if_neg c17,if_pos c1]
  have e2:a.plain=a.aj (({a.t with pc:=a.t.pc+1 }:RT).put a.i.a a.i.n):=by
   have e3:a.plain=(a.aj {a.t with pc:=a.t.pc+1 }).aj ((a.aj {a.t with pc:=a.t.pc+1 }).t.put a.i.a a.i.n):=by
    unfold RA.plain;exact(if_pos (show a.i.op=1 by rw[e];exact c1))
   rw[e3,RA.fN,RA.lh]
  rw[hfrm e1 (by omega) (by omega) rfl,e2,e,bZ S.ht]
  exact h.aj (t:=t) S.ht (hU1.put hI.a) (hR1.put hI.n) (.inl rfl)
 by_cases c18:d.i.op=18
 ·have hlt:a.s.mem.length=d.s.mem.length:=by rw[h.s.me]
  by_cases hm:d.b<(d.s.mem.length:Int)
  ·have e1:gX d.t.gY d.s.mem d.i=some ({d.t.gY.put d.i.a (d.s.mem.getD d.b.toNat 0) with pc:=d.t.gY.pc+1 },d.s.mem):=by
    unfold gX;rw[if_neg c16,if_neg c17,if_neg c1,if_pos c18,if_pos (by rw[hb];exact hm)];rfl
   have hpl:d.plain=(d.tell d.b (d.s.mem.getD d.b.toNat 0) 0 true).aj (t.lM {d.t.gY.put d.i.a (d.s.mem.getD d.b.toNat 0) with pc:=d.t.gY.pc+1 }):=by
    unfold Dng.plain;rw[e1];simp only;rw[if_pos c18,bZ S.ht];rfl
   have e3:a.plain=((a.aj {a.t with pc:=a.t.pc+1 }).aj ((a.aj {a.t with pc:=a.t.pc+1 }).t.put a.i.a (a.s.mem.getD (a.t.eW a.i.b).toNat 0))).say (a.t.eW a.i.b) (a.s.mem.getD (a.t.eW a.i.b).toNat 0) 0 true:=by
    unfold RA.plain;exact(if_neg (show ¬a.i.op=1 by rw[e];omega)).trans ((if_neg (show ¬a.i.op=16 by rw[e];omega)).trans ((if_neg (show ¬a.i.op=17 by rw[e];omega)).trans ((if_pos (show a.i.op=18 by rw[e];exact c18)).trans (if_neg (show ¬(a.s.mem.length:Int)≤a.t.eW a.i.b by rw[hrb,h.s.me];omega)))))
   rw[hpl,e3,RA.fN,RA.lh,RA.E5 (u:=({a.t with pc:=a.t.pc+1 }:RT).put a.i.a (a.s.mem.getD (a.t.eW a.i.b).toNat 0)) rfl,hrb,h.s.me,e,bZ S.ht]
   have hb0:=S.b.1
   have hW:ff (d.s.mem.getD d.b.toNat 0):=wa S.h.ok.me.2 (by omega)
   exact(h.say (t:=t) S.ht).aj (t:=t) S.ht (hU1.put hI.a) (hR1.put hW) (.inl rfl)
  ·have e1:gX d.t.gY d.s.mem d.i=none:=by
    unfold gX;rw[if_neg c16,if_neg c17,if_neg c1,if_pos c18,if_neg (by rw[hb];exact hm)]
   have hpl:d.plain=(d.tell d.b 0 6 true).fin 18446744073709551615:=by
    unfold Dng.plain;rw[e1];simp only;rw[if_pos c18]
   have e3:a.plain=(a.aj {a.t with pc:=a.t.pc+1 }).fault (a.t.eW a.i.b) 0:=by
    unfold RA.plain;exact(if_neg (show ¬a.i.op=1 by rw[e];omega)).trans ((if_neg (show ¬a.i.op=16 by rw[e];omega)).trans ((if_neg (show ¬a.i.op=17 by rw[e];omega)).trans ((if_pos (show a.i.op=18 by rw[e];exact c18)).trans (if_pos (show(a.s.mem.length:Int)≤a.t.eW a.i.b by rw[hrb,h.s.me];omega)))))
   have e4:(a.aj {a.t with pc:=a.t.pc+1 }).aj {(a.aj {a.t with pc:=a.t.pc+1 }).t with pc:=(a.aj {a.t with pc:=a.t.pc+1 }).t.pc-1 }=a:=by
    rw[RA.fN,RA.lh,show({({a.t with pc:=a.t.pc+1 }:RT) with pc:=({a.t with pc:=a.t.pc+1 }:RT).pc-1 }:RT)=a.t from by show({a.t with pc:=a.t.pc+1-1 }:RT)=a.t;rw[Int.add_sub_cancel],RA.q8]
   rw[hpl,e3]
   unfold RA.fault
   rw[e4,hrb]
   exact(h.say (t:=t) S.ht).fin (t:=t) S.ht S.E3 S.fin ⟨by decide,by decide⟩
 by_cases c19:d.i.op=19
 ·by_cases hm:d.a<(d.s.mem.length:Int)
  ·have e1:gX d.t.gY d.s.mem d.i=some ({d.t.gY with pc:=d.t.gY.pc+1 },d.s.mem.set d.a.toNat d.b):=by
    unfold gX;rw[if_neg c16,if_neg c17,if_neg c1,if_neg c18,if_pos c19,if_pos (by rw[ha];exact hm)];rfl
   have hpl:d.plain = {(d.tell d.a d.b 0 true).aj {t with pc:=t.pc+1 } with s:={((d.tell d.a d.b 0 true).aj {t with pc:=t.pc+1 }).s with mem:=d.s.mem.set d.a.toNat d.b } }:=by
    unfold Dng.plain;rw[e1];simp only;rw[if_neg c18,if_pos c19,bZ S.ht];rfl
   have e3:a.plain=({a.aj {a.t with pc:=a.t.pc+1 } with s:={(a.aj {a.t with pc:=a.t.pc+1 }).s with mem:=a.s.mem.set (a.t.eW a.i.a).toNat (a.t.eW a.i.b) } }:RA).say (a.t.eW a.i.a) (a.t.eW a.i.b) 0 true:=by
    unfold RA.plain;exact(if_neg (show ¬a.i.op=1 by rw[e];omega)).trans ((if_neg (show ¬a.i.op=16 by rw[e];omega)).trans ((if_neg (show ¬a.i.op=17 by rw[e];omega)).trans ((if_neg (show ¬a.i.op=18 by rw[e];omega)).trans ((if_pos (show a.i.op=19 by rw[e];exact c19)).trans (if_neg (show ¬(a.s.mem.length:Int)≤a.t.eW a.i.a by rw[hra,h.s.me];omega))))))
   have h1:=(h.say (x:=d.a) (y:=d.b) (e:=0) (fin:=true) (t:=t) S.ht).aj (t:=t) S.ht hU1 hR1 (.inl rfl)
   have h2:aV p0 d.plain ({(a.say d.a d.b 0 true).aj {a.t with pc:=a.t.pc+1 } with s:={((a.say d.a d.b 0 true).aj {a.t with pc:=a.t.pc+1 }).s with mem:=a.s.mem.set d.a.toNat d.b } }:RA):=by
    rw[hpl]
    exact⟨⟨h1.s.pg,h1.s.tk,h1.s.no,h1.s.th,h1.s.T,(by show a.s.mem.set _ _=d.s.mem.set _ _;rw[h.s.me]),h1.s.mx,h1.s.cd,h1.s.sm,h1.s.sw,h1.s.pp,h1.s.bk,h1.s.ak,h1.s.nw,h1.s.tl,h1.s.tp,h1.s.rc,h1.s.tr,h1.s.ow,h1.s.mw⟩,h1.n,h1.i,h1.e,h1.l⟩
   have e5:a.plain=({(a.say d.a d.b 0 true).aj {a.t with pc:=a.t.pc+1 } with s:={((a.say d.a d.b 0 true).aj {a.t with pc:=a.t.pc+1 }).s with mem:=a.s.mem.set d.a.toNat d.b } }:RA):=by
    rw[e3,hra,hrb]
    unfold RA.say
    rw[show({a.aj {a.t with pc:=a.t.pc+1 } with s:={(a.aj {a.t with pc:=a.t.pc+1 }).s with mem:=a.s.mem.set d.a.toNat d.b } }:RA).t = {a.t with pc:=a.t.pc+1 } from by show dR a.s.thr a.n ({a.t with pc:=a.t.pc+1 }:RT) a.n=_;exact dz]
    rfl
   rw[e5];exact h2
  ·have e1:gX d.t.gY d.s.mem d.i=none:=by
    unfold gX;rw[if_neg c16,if_neg c17,if_neg c1,if_neg c18,if_pos c19,if_neg (by rw[ha];exact hm)]
   have hpl:d.plain=(d.tell d.a d.b 6 true).fin 18446744073709551615:=by
    unfold Dng.plain;rw[e1];simp only;rw[if_neg c18]
   have e3:a.plain=(a.aj {a.t with pc:=a.t.pc+1 }).fault (a.t.eW a.i.a) (a.t.eW a.i.b):=by
    unfold RA.plain;exact(if_neg (show ¬a.i.op=1 by rw[e];omega)).trans ((if_neg (show ¬a.i.op=16 by rw[e];omega)).trans ((if_neg (show ¬a.i.op=17 by rw[e];omega)).trans ((if_neg (show ¬a.i.op=18 by rw[e];omega)).trans ((if_pos (show a.i.op=19 by rw[e];exact c19)).trans (if_pos (show(a.s.mem.length:Int)≤a.t.eW a.i.a by rw[hra,h.s.me];omega))))))
   have e4:(a.aj {a.t with pc:=a.t.pc+1 }).aj {(a.aj {a.t with pc:=a.t.pc+1 }).t with pc:=(a.aj {a.t with pc:=a.t.pc+1 }).t.pc-1 }=a:=by
    rw[RA.fN,RA.lh,show({({a.t with pc:=a.t.pc+1 }:RT) with pc:=({a.t with pc:=a.t.pc+1 }:RT).pc-1 }:RT)=a.t from by show({a.t with pc:=a.t.pc+1-1 }:RT)=a.t;rw[Int.add_sub_cancel],RA.q8]
   rw[hpl,e3]
   unfold RA.fault
   rw[e4,hra,hrb]
   exact(h.say (t:=t) S.ht).fin (t:=t) S.ht S.E3 S.fin ⟨by decide,by decide⟩
 ·have e1:gX d.t.gY d.s.mem d.i=some ({d.t.gY.put d.i.a (aE d.i.op d.b (t.eW d.i.c)) with pc:=d.t.gY.pc+1 },d.s.mem):=by
   unfold gX;rw[if_neg c16,if_neg c17,if_neg c1,if_neg c18,if_neg c19,yy,hb,bZ S.ht];rfl
  have e3:a.plain=(a.aj {a.t with pc:=a.t.pc+1 }).aj ((a.aj {a.t with pc:=a.t.pc+1 }).t.put a.i.a (aE a.i.op (a.t.eW a.i.b) ((a.aj {a.t with pc:=a.t.pc+1 }).t.eW a.i.c))):=by
   unfold RA.plain;exact(if_neg (show ¬a.i.op=1 by rw[e];omega)).trans ((if_neg (show ¬a.i.op=16 by rw[e];omega)).trans ((if_neg (show ¬a.i.op=17 by rw[e];omega)).trans ((if_neg (show ¬a.i.op=18 by rw[e];omega)).trans (if_neg (show ¬a.i.op=19 by rw[e];omega)))))
  have hrc:(a.aj {a.t with pc:=a.t.pc+1 }).t.eW a.i.c=t.eW d.i.c:=by rw[RA.lh,e];exact hT.eW hI.c
  rw[hfrm e1 c18 c19 rfl,e3,hrc,hrb,RA.fN,RA.lh,e,bZ S.ht]
  have hW:ff (aE d.i.op d.b (t.eW d.i.c)):=AN S.b (S.o.R.r _)
  exact h.aj (t:=t) S.ht (hU1.put hI.a) (hR1.put hW) (.inl rfl)
end
end Go.SLYtefdijgllbkmfaaGreat
namespace Go.SLYtefdijgllbkmfaaGreat
open Go Go.RowKit Go.MapKept
def sR(e:MapEntry):Int×Int:=(match e.key with | .int _ k=>k | _=>0,match e.val with | .int _ k=>k | _=>0)
theorem E7{es:List MapEntry}{c:Nat}{l:List (Int×Int)}(h:lu es c l):es.map sR=l∧ ∀ e∈es,e.key = .int .i64 (sR e).1∧e.val = .int .i64 (sR e).2:=by
 have h1:=h.1
 clear h
 induction es generalizing l with
 | nil =>
  cases l with
  | nil=>exact⟨rfl,fun e he=>by cases he⟩
  | cons p l=>cases h1
 | cons e es ih =>
  cases l with
  | nil=>cases h1
  | cons p l =>
   simp only[List.map_cons,List.cons.injEq,Prod.mk.injEq] at h1
   obtain⟨⟨hk,hv⟩,ht⟩:=h1
   obtain⟨i1,i2⟩:=ih ht
   have e1:sR e=p:=by unfold sR;rw[hk,hv]
   refine⟨by rw[List.map_cons,i1,e1],fun x hx=>?_⟩
   rcases List.mem_cons.1 hx with rfl | hx
   ·rw[e1];exact⟨hk,hv⟩
   ·exact i2 x hx
def findI(k:Int):List (Int×Int)→Nat→Option (Nat×Value)
 | [],_=>none
 | p::l,i=>if k=p.1 then some (i,.int .i64 p.2) else findI k l (i+1)
theorem pe{k:Int}:∀ {es:List MapEntry} {l:List (Int×Int)} {i:Nat},es.map (fun e=>(e.key,e.val))=l.map (fun p=>(Value.int .i64 p.1,Value.int .i64 p.2))→Instr.findNow (.int .i64) (.int .i64 k) es i=some (findI k l i)
 | [],[],_,_=>rfl
 | [],_::_,_,h=>by cases h
 | _::_,[],_,h=>by cases h
 | e::es,p::l,i,h=>by
  simp only[List.map_cons,List.cons.injEq,Prod.mk.injEq] at h
  obtain⟨⟨hk,hv⟩,ht⟩:=h
  unfold Instr.findNow findI
  rw[hk,hv]
  by_cases e:k=p.1
  ·subst e;simp[Instr.sameNow]
  ·simp only[Instr.sameNow,if_pos,if_neg e]
   rw[show(k == p.1)=false from by simpa using e]
   exact pe ht
theorem uT{k:Int}:∀ (l:List (Int×Int)) (i:Nat),(findI k l i).map (·.2)=(cC l k).map (Value.int .i64)
 | [],_=>rfl
 | p::l,i=>by
  unfold findI cC
  rw[List.find?_cons]
  by_cases e:k=p.1
  ·rw[if_pos e];simp[e]
  ·rw[if_neg e,show decide (p.1=k)=false from by simpa using fun h=>e h.symm]
   exact uT l (i+1)
theorem sS{k:Int}:∀ {l:List (Int×Int)} {i j:Nat} {v:Value},findI k l i=some (j,v)→ ∃ n v',j=i+n∧l[n]?=some (k,v')∧ ∀ v'',mapSet l k v''=l.set n (k,v'')
 | [],_,_,_,h=>by cases h
 | p::l,i,j,v,h=>by
  unfold findI at h
  by_cases e:k=p.1
  ·rw[if_pos e] at h;cases h
   exact⟨0,p.2,rfl,by rw[e];rfl,fun v''=>by rw[mapSet,if_pos e.symm];rfl⟩
  ·rw[if_neg e] at h
   obtain⟨n,v',h1,h2,h3⟩:=sS h
   exact⟨n+1,v',by omega,by simpa using h2,fun v''=>by rw[mapSet,if_neg (fun h=>e h.symm),h3];rfl⟩
theorem sT{k:Int}:∀ {l:List (Int×Int)} {i:Nat},findI k l i=none→(∀ p∈l,p.1≠k)∧ ∀ v,mapSet l k v=l++[(k,v)]
 | [],_,_=>⟨fun p hp=>(by cases hp),fun v=>rfl⟩
 | p::l,i,h=>by
  unfold findI at h
  by_cases e:k=p.1
  ·rw[if_pos e] at h;cases h
  ·rw[if_neg e] at h
   obtain⟨h1,h2⟩:=sT h
   refine⟨fun q hq=>?_,fun v=>by rw[mapSet,if_neg (fun h=>e h.symm),h2];rfl⟩
   rcases List.mem_cons.1 hq with rfl | hq
   ·exact fun h=>e h.symm
   ·exact h1 q hq
theorem mem_modify{α:Type}{l:List α}{n:Nat}{f:α→α}{x:α}(h:x∈l.modify n f):x∈l∨ ∃ y∈l,x=f y:=by
 induction l generalizing n with
 | nil=>simp at h
 | cons y l ih =>
  cases n with
  | zero =>
   rw[List.modify_zero_cons] at h
   rcases List.mem_cons.1 h with rfl | h
   ·exact .inr ⟨y,by simp,rfl⟩
   ·exact .inl (.tail _ h)
  | succ n =>
   rw[List.modify_succ_cons] at h
   rcases List.mem_cons.1 h with rfl | h
   ·exact .inl (by simp)
   ·rcases ih h with h | ⟨z,hz,rfl⟩
    ·exact .inl (.tail _ h)
    ·exact .inr ⟨z,.tail _ hz,rfl⟩
theorem zM{α β:Type}{l:List α}{n:Nat}{f:α→α}{g:α→β}(h:∀ x,g (f x)=g x):(l.modify n f).map g=l.map g:=by
 induction l generalizing n with
 | nil=>simp
 | cons y l ih =>
  cases n with
  | zero=>simp[h]
  | succ n=>simp[ih]
theorem sU{α β:Type}{l:List α}{n:Nat}{f:α→α}{g:α→β}{b:β}(h:∀ x,g (f x)=b):(l.modify n f).map g=(l.map g).set n b:=by
 induction l generalizing n with
 | nil=>simp
 | cons y l ih =>
  cases n with
  | zero=>simp[h]
  | succ n=>simp[ih]
theorem G5{l:List (Int×Int)}{n:Nat}{k v v':Int}(h:l[n]?=some (k,v')):(l.set n (k,v)).map (·.1)=l.map (·.1):=by
 rw[List.map_set]
 exact eH (by rw[List.getElem?_map,h];rfl)
theorem Jt{es:List MapEntry}{c n:Nat}{l:List (Int×Int)}{k v v':Int}(h:lu es c l)(hn:l[n]?=some (k,v')) :
  lu (es.modify n fun e=>{e with key:=.int .i64 k,val:=.int .i64 v }) c (l.set n (k,v)):=by
 obtain⟨h1,h2,h3,h4⟩:=h
 refine⟨?_,by rw[G5 hn];exact h2,fun e he=>?_,?_⟩
 ·rw[sU (f:=fun e:MapEntry=>{e with key:=.int .i64 k,val:=.int .i64 v }) (g:=fun e:MapEntry=>(e.key,e.val)) (b:=(Value.int .i64 k,Value.int .i64 v)) (fun _=>rfl),h1,List.map_set]
 ·rcases mem_modify he with he | ⟨y,hy,rfl⟩
  ·exact h3 e he
  ·exact h3 y hy
 ·rw[zM (f:=fun e:MapEntry=>{e with key:=.int .i64 k,val:=.int .i64 v }) (g:=fun e:MapEntry=>e.born) (fun _=>rfl)];exact h4
theorem G6{es:List MapEntry}{c:Nat}{l:List (Int×Int)}{k v:Int}(h:lu es c l)(hn:∀ p∈l,p.1≠k) :
  lu (es++[{key:=.int .i64 k,val:=.int .i64 v,born:=c }]) (c+1) (l++[(k,v)]):=by
 obtain⟨h1,h2,h3,h4⟩:=h
 refine⟨by simp[h1],?_,fun e he=>?_,?_⟩
 ·rw[List.map_append,List.nodup_append]
  refine⟨h2,by simp,fun a ha b hb=>?_⟩
  obtain⟨p,hp,rfl⟩:=List.mem_map.1 ha
  simp only[List.map_cons,List.map_nil,List.mem_cons,List.not_mem_nil,or_false] at hb
  subst hb;exact hn p hp
 ·rcases List.mem_append.1 he with he | he
  ·have:=h3 e he;omega
  ·simp only[List.mem_cons,List.not_mem_nil,or_false] at he;subst he;exact Nat.lt_succ_self _
 ·rw[List.map_append,List.nodup_append]
  refine⟨h4,by simp,fun a ha b hb=>?_⟩
  obtain⟨e,he,rfl⟩:=List.mem_map.1 ha
  simp only[List.map_cons,List.map_nil,List.mem_cons,List.not_mem_nil,or_false] at hb
  subst hb;have:=h3 e he;omega
theorem Ju{l:List (Int×Int)}{n:Nat}{k v:Int}(hd:(l.map (·.1)).Nodup)(h:l[n]?=some (k,v)):dQ l k=l.eraseIdx n:=by
 induction l generalizing n with
 | nil=>simp at h
 | cons p l ih =>
  simp only[List.map_cons,List.nodup_cons] at hd
  cases n with
  | zero =>
   simp at h;subst h
   unfold dQ
   rw[List.filter_cons,if_neg (by simp),List.eraseIdx_cons_zero,List.filter_eq_self]
   intro q hq
   have:q.1≠k:=fun e=>hd.1 (List.mem_map.2 ⟨q,hq,e⟩)
   simpa using this
  | succ n =>
   have hn:l[n]?=some (k,v):=by simpa using h
   have hm:k∈l.map (·.1):=List.mem_map.2 ⟨_,List.mem_of_getElem? hn,rfl⟩
   unfold dQ
   rw[List.filter_cons,if_pos (by have:p.1≠k:=(fun e=>hd.1 (by rw[e];exact hm));simpa using this),List.eraseIdx_cons_succ]
   congr 1
   exact ih hd.2 hn
theorem Jv{l:List (Int×Int)}{k:Int}(h:∀ p∈l,p.1≠k):dQ l k=l:=by
 unfold dQ
 rw[List.filter_eq_self]
 exact fun q hq=>by simpa using h q hq
theorem kA{α β:Type}(f:α→β):∀ (l:List α) (n:Nat),(l.eraseIdx n).map f=(l.map f).eraseIdx n
 | [],_=>rfl
 | x::l,0=>rfl
 | x::l,n+1=>by rw[List.eraseIdx_cons_succ,List.map_cons,List.map_cons,List.eraseIdx_cons_succ,kA f l n]
theorem Jw{es:List MapEntry}{c n:Nat}{l:List (Int×Int)}(h:lu es c l):lu (es.eraseIdx n) c (l.eraseIdx n):=by
 obtain⟨h1,h2,h3,h4⟩:=h
 refine⟨?_,?_,fun e he=>h3 e ((List.eraseIdx_sublist _ _).mem he),?_⟩
 ·rw[kA,kA,h1]
 ·rw[kA];exact h2.sublist (List.eraseIdx_sublist _ _)
 ·rw[kA];exact h4.sublist (List.eraseIdx_sublist _ _)
theorem E8{α:Type}(es:Array α)(x:α):(es.toList++[x]).toArray=es.push x:=by
 apply Array.ext'
 simp
theorem G7{α:Type}(es:Array α)(n:Nat)(f:α→α):(es.toList.modify n f).toArray=es.modify n f:=by
 apply Array.ext'
 simp
theorem Cy{α:Type}(es:Array α)(n:Nat):(es.toList.eraseIdx n).toArray=es.eraseIdxIfInBounds n:=by
 apply Array.ext'
 simp
theorem gZ{P:Program}{w:World}{r:Nat}{o:Obj}(hb:w.heap[r]?=some o)(hc:cellsB o=false:=by rfl):(getObj r).run P w = .ok o w:=by
 cases o with
 | cells=>exact absurd hc (by simp[cellsB])
 | _=>simp[getObj,Sem.run,hb]
theorem pf{P:Program}{w:World}{r:Nat}{o:Obj}(o':Obj)(hb:w.heap[r]?=some o)(hc:cellsB o=false:=by rfl):(setObj r o').run P w = .ok () {w with heap:=w.heap.setIfInBounds r o' }:=by
 cases o with
 | cells=>exact absurd hc (by simp[cellsB])
 | _=>simp[setObj,Sem.run,hb]
section
variable{P:Program}{W:World}{N:Nat}{L:List (Nat×Option Value)}{H R:List aa}{T:TypeId}{O:Array Oper}
theorem Jx{m:Nat}{l:List (Int×Int)}(t:At H (mZ m l)){w:World}(s:Sat W w (seps H)):∃ es c,lu es c l∧w.heap[m]?=some (.map es.toArray c):=by
 obtain⟨R,s⟩:=t.sat s
 obtain⟨h,⟨h1,h2,⟨es,c,ho,a⟩,r,d,e'⟩,hin⟩:=s.own
 simp only[seps,aO] at a
 exact⟨es,c,ho,(jS (b:=m) (x:=.map es.toArray c) (R:=R) {s with own:=⟨h,⟨h1,h2,a,r,d,e'⟩,hin⟩ }).2.1⟩
theorem Y.KJ{t kt vt:TypeId}{x y:Operand}{m:Nat}{l:List (Int×Int)}{k:Int}(hu:P.underlying t=some (.map kt vt))(hk:P.underlying kt=some (.int .i64))(hz:∀ w,(zeroValue vt).run P w = .ok (.int .i64 0) w)(hx:ev L x=some (.map (some m)))(hy:ev L y=some (.int .i64 k))(ht:At H (mZ m l)) :
  Y P W N (.lookup t x y false) T L H (.int .i64 ((cC l k).getD 0)):=fun dst pos after guard a w ha hs=>by
 simp only[execOp,ha.eval hx,ha.eval hy]
 refine bE ?_
 obtain⟨es,c,ho,hb⟩:=Jx ht hs
 have hf:=run_findKey (P:=P) (w:=w) hk (pe (k:=k) (i:=0) ho.1)
 have hc:=run_checkKey (P:=P) (w:=w) hk (k:=.int .i64 k) rfl (es.toArray.isEmpty) 9999
 have hg:=uT (k:=k) l 0
 unfold Instr.lookup
 simp only[Sem.run_bind,run_underlying hu,Result.andThen_ok,gZ hb,Sem.run_pure,hc,hf]
 cases e:findI k l 0 with
 | none =>
  rw[e] at hg
  have:cC l k=none:=by simpa using hg.symm
  simp[hz,this]
 | some p =>
  rw[e] at hg
  cases hm:cC l k with
  | none=>rw[hm] at hg;cases hg
  | some v =>
   rw[hm] at hg
   have:p.2 = .int .i64 v:=by simpa using hg
   simp[this]
theorem af.H8{o:Oper}{m:Nat}{l l':List (Int×Int)}(hd:o.dst=none)(t:Take H (mZ m l) R)
  (h:∀ a w es c,Env N L a→w.heap[m]?=some (.map es c)→lu es.toList c l→ ∃ es' c',lu es' c' l'∧((execOp a.eval o).run P w = .ok .skip {w with heap:=w.heap.setIfInBounds m (.map es'.toArray c') }∨ ∃ v,(execOp a.eval o).run P w = .ok (.value v) {w with heap:=w.heap.setIfInBounds m (.map es'.toArray c') })) :
  af P W N o L H (fun L1 H1=>L1=L∧H1=mZ m l'::R):=fun a w ha hs Kp hK=>by
 rw[t.seps] at hs
 obtain⟨hp,⟨h1,h2,⟨es,c,ho,am⟩,r,d,e'⟩,hin⟩:=hs.own
 simp only[seps,aO] at am
 have hs2:Sat W w (sep (iS m (.map es.toArray c)) (seps R)):={hs with own:=⟨hp,⟨h1,h2,am,r,d,e'⟩,hin⟩ }
 obtain⟨es',c',ho',hr⟩:=h a w es.toArray c ha (jS hs2).2.1 (by simpa using ho)
 have hs3:=hs2.setObj (.map es'.toArray c') rfl
 have hs4:Sat W {w with heap:=w.heap.setIfInBounds m (.map es'.toArray c') } (seps (mZ m l'::R)) :=
  hs3.mono (aR (fun g b=>⟨es',c',ho',by simpa only[seps,aO] using b⟩) fun _ b=>b)
 unfold Oper.wp
 rcases hr with hr | ⟨v,hr⟩
 ·rw[hr]
  simp only[Oper.upon]
  rw[hd]
  exact hK _ _ ⟨rfl,rfl⟩ _ _ ⟨ha.size,ha.get,ha.defers⟩ hs4
 ·rw[hr]
  simp only[Oper.upon]
  rw[hd]
  exact hK _ _ ⟨rfl,rfl⟩ _ _ ⟨ha.size,ha.get,ha.defers⟩ hs4
theorem af.mapSet{t kt vt:TypeId}{x y z:Operand}{pos:String}{after:Array Edge}{guard:Option (Nat×Bool)}{m:Nat}{l:List (Int×Int)}{k v:Int}(hu:P.underlying t=some (.map kt vt))(hk:P.underlying kt=some (.int .i64))(hx:ev L x=some (.map (some m)))(hy:ev L y=some (.int .i64 k))(hz:ev L z=some (.int .i64 v))(ht:Take H (mZ m l) R) :
  af P W N ⟨none,.mapUpdate t x y z,T,pos,after,guard⟩ L H (fun L1 H1=>L1=L∧H1=mZ m (mapSet l k v)::R) :=
 af.H8 rfl ht fun a w es c ha hb ho=>by
  have hf:=run_findKey (P:=P) (w:=w) hk (pe (k:=k) (i:=0) ho.1)
  have hc:=run_checkKey (P:=P) (w:=w) hk (k:=.int .i64 k) rfl false 9999
  cases e:findI k l 0 with
  | none =>
   obtain⟨h1,h2⟩:=sT e
   refine⟨es.toList++[{key:=.int .i64 k,val:=.int .i64 v,born:=c }],c+1,by rw[h2];exact G6 ho h1,.inl ?_⟩
   rw[e] at hf
   simp only[execOp,ha.eval hx,ha.eval hy,ha.eval hz]
   show(Instr.mapUpdate t (.map (some m)) (.int .i64 k) (.int .i64 v) >>= fun _=>pure Next.skip).run P w=_
   simp only[Instr.mapUpdate,Sem.run_bind,run_underlying hu,Result.andThen_ok,gZ hb,hc,hf,pf _ hb,Sem.run_pure,E8]
  | some p =>
   obtain⟨j,val⟩:=p
   obtain⟨n,v',hj,hn,h3⟩:=sS e
   obtain rfl:j=n:=by omega
   refine⟨es.toList.modify j fun e=>{e with key:=.int .i64 k,val:=.int .i64 v },c,by rw[h3];exact Jt ho hn,.inl ?_⟩
   rw[e] at hf
   have hkey:((es[j]?).map (·.key)).getD (.int .i64 k) = .int .i64 k:=by
    have h1:=ho.1
    have:(es.toList.map fun e=>(e.key,e.val))[j]?=some (.int .i64 k,.int .i64 v'):=by rw[h1,List.getElem?_map,hn];rfl
    rw[List.getElem?_map] at this
    cases he:es.toList[j]? with
    | none=>rw[he] at this;cases this
    | some en =>
     rw[he] at this
     have h5:en.key = .int .i64 k:=by simpa using congrArg (fun o=>o.map Prod.fst) this
     rw[← Array.getElem?_toList,he]
     exact h5
   simp only[execOp,ha.eval hx,ha.eval hy,ha.eval hz]
   show(Instr.mapUpdate t (.map (some m)) (.int .i64 k) (.int .i64 v) >>= fun _=>pure Next.skip).run P w=_
   simp only[Instr.mapUpdate,Sem.run_bind,run_underlying hu,Result.andThen_ok,gZ hb,hc,hf,hkey,run_keyThatStays (d:=.int .i64) (k:=.int .i64 k) rfl,pf _ hb,Sem.run_pure,G7]
theorem af.dQ{t kt vt:TypeId}{ts:Array TypeId}{x y:Operand}{pos:String}{after:Array Edge}{guard:Option (Nat×Bool)}{m:Nat}{l:List (Int×Int)}{k:Int}(hu:P.underlying t=some (.map kt vt))(hk:P.underlying kt=some (.int .i64))(hx:ev L x=some (.map (some m)))(hy:ev L y=some (.int .i64 k))(ht:Take H (mZ m l) R)(hts:ts[0]?=some t) :
  af P W N ⟨none,.call ⟨.builtin .delete, #[x,y],ts⟩,T,pos,after,guard⟩ L H (fun L1 H1=>L1=L∧H1=mZ m (SLYtefdijgllbkmfaaGreat.dQ l k)::R) :=
 af.H8 rfl ht fun a w es c ha hb ho=>by
  have hf:=run_findKey (P:=P) (w:=w) hk (pe (k:=k) (i:=0) ho.1)
  have hc:=run_checkKey (P:=P) (w:=w) hk (k:=.int .i64 k) rfl es.isEmpty 9999
  have hrun:∀ o:Option (Nat×Value),Instr.findKey kt (.int .i64 k) es.toList=Instr.findKey kt (.int .i64 k) es.toList:=fun _=>rfl
  cases e:findI k l 0 with
  | none =>
   obtain⟨h1,h2⟩:=sT e
   refine⟨es.toList,c,by rw[Jv h1];exact ho,.inr ⟨.tuple #[],?_⟩⟩
   rw[e] at hf
   simp[execOp,resolve,invoke,builtin,ha.eval hx,ha.eval hy,Builtin.delete_,hts,run_underlying hu,gZ hb,hc,hf,pf _ hb]
  | some p =>
   obtain⟨j,val⟩:=p
   obtain⟨n,v',hj,hn,h3⟩:=sS e
   obtain rfl:j=n:=by omega
   refine⟨es.toList.eraseIdx j,c,by rw[Ju ho.2.1 hn];exact Jw ho,.inr ⟨.tuple #[],?_⟩⟩
   rw[e] at hf
   simp[execOp,resolve,invoke,builtin,ha.eval hx,ha.eval hy,Builtin.delete_,hts,run_underlying hu,gZ hb,hc,hf,pf _ hb,Cy]
end
end Go.SLYtefdijgllbkmfaaGreat
namespace Go.SLYtefdijgllbkmfaaGreat
open Go Go.RowKit Go.MapKept
def H9(it m c:Nat)(seen:List MapEntry):aa:=iS it (.mapIter (some m) c (seen.map (·.born)).toArray c)
def nextA:Option MapEntry→Array Value
 | none => #[.bool false]
 | some e => #[.bool true,e.key,e.val]
def Bj(o:Option MapEntry):Value:=.tuple (nextA o)
theorem Jy(o:Option MapEntry):(nextA o)[0]?=some (.bool o.isSome):=by cases o <;> rfl
section
variable{P:Program}{W:World}{N:Nat}{L:List (Nat×Option Value)}{H R:List aa}{T:TypeId}{O:Array Oper}
theorem wJ{m:Nat}{x:Obj}(t:At H (iS m x)){w:World}(s:Sat W w (seps H)):w.heap[m]?=some x:=by
 obtain⟨R,s⟩:=t.sat s
 exact(jS s).2.1
theorem af.Jz{t kt vt:TypeId}{x:Operand}{pos:String}{after:Array Edge}{guard:Option (Nat×Bool)}{d m c:Nat}{es:List MapEntry}(hN:Nat.blt d N=true)(hu:P.underlying t=some (.map kt vt))(hx:ev L x=some (.map (some m)))(ht:At H (iS m (.map es.toArray c))) :
  af P W N ⟨some d,.range t x,T,pos,after,guard⟩ L H (fun L1 H1=>∃ it,L1=(d,some (ptr it))::L∧H1=H9 it m c []::H):=fun a w ha hs Kp hK=>by
 have hb:=wJ ht hs
 have hrun:(execOp a.eval ⟨some d,.range t x,T,pos,after,guard⟩).run P w = .ok (.value (ptr w.heap.size)) (w.alloc (.mapIter (some m) c #[] c)):=by
  simp only[execOp,ha.eval hx]
  show(Instr.range t (.map (some m)) >>= fun x=>pure (Next.value x)).run P w=_
  simp[Instr.range,run_underlying hu,gZ hb]
 unfold Oper.wp
 rw[hrun]
 simp only[Oper.upon]
 exact hK _ _ ⟨w.heap.size,rfl,rfl⟩ _ _ (ha.put (Nat.blt_eq.mp hN) _) (hs.wT _ rfl)
def mg(es:Array MapEntry)(seen:Array Nat):Array MapEntry:=es.filter fun e => !seen.contains e.born
theorem E9{es:Array MapEntry}{seen:Array Nat}{c:Nat}(h:∀ e∈es.toList,e.born<c):(mg es seen).filter (fun e=>decide (e.born<c))=mg es seen:=by
 rw[Array.filter_eq_self]
 intro e he
 have:e∈es:=(Array.mem_filter.1 he).1
 simpa using h e (by simpa using this)
theorem Fa{es:Array MapEntry}{seen:Array Nat}{c:Nat}(h:∀ e∈es.toList,e.born<c):(mg es seen).filter (fun e=>decide (e.born≥c)) = #[]:=by
 rw[Array.filter_eq_empty_iff]
 intro e he
 have:e∈es:=(Array.mem_filter.1 he).1
 have:=h e (by simpa using this)
 simp;omega
theorem choose_lt{n:Nat}(hn:0<n)(w:World):∃ i w',(choose (.mapNext n)).run P w = .ok i w'∧i<n∧(w'=w∨w'=w.drew):=by
 rw[run_choose_drew]
 by_cases h:n≤1
 ·exact⟨0,w,by simp[Question.forced,h],hn,.inl rfl⟩
 ·exact⟨(Question.mapNext n).cut (w.tape w.drawn (.mapNext n)),w.drew,by simp[Question.forced,h],Nat.mod_lt _ hn,.inr rfl⟩
def uU(l:Array MapEntry):Array (Option MapEntry):=(if l.isEmpty=true then #[none] else #[])++(l ++ #[]).map some
def stepN(it m c:Nat)(sn:Array Nat):Option (Option MapEntry)→Sem Value
 | some (some e)=>do
  setObj it (.mapIter (some m) c (sn.push e.born) c)
  pure (.tuple #[.bool true,e.key,e.val])
 | some none=>pure (.tuple #[.bool false])
 | none => stuck "Next: no such candidate"
theorem Fb{it m c:Nat}{es:Array MapEntry}{sn:Array Nat}{w:World}(hit:w.heap[it]?=some (.mapIter (some m) c sn c))(hbm:w.heap[m]?=some (.map es c))(hc:∀ e∈es.toList,e.born<c) :
  (Instr.next (ptr it) false T).run P w=((choose (.mapNext (uU (mg es sn)).size)).run P w).andThen fun i w'=>(stepN it m c sn (uU (mg es sn))[i]?).run P w':=by
 have hguard:(!sn.isEmpty && !es.isEmpty && es.all fun e=>decide (e.born≥c))=false:=by
  obtain⟨l⟩:=es
  cases l with
  | nil=>simp
  | cons e es =>
   have:=hc e (by simp)
   simp;intro _ _;omega
 have hold:=E9 (seen:=sn) hc
 have hnew:=Fa (seen:=sn) hc
 unfold mg at hold hnew
 unfold Instr.next
 simp only[Sem.run_bind,gZ hit,Result.andThen_ok,gZ hbm,hguard,Bool.false_eq_true,if_false]
 unfold mg
 rw[hold,hnew]
 show((choose (.mapNext (uU (mg es sn)).size)).run P w).andThen _=_
 rfl
theorem zN{s:Sem Value}{v:Value}{w w':World}(h:s.run P w = .ok v w'):(do pure (Next.value (← s)):Sem Next).run P w = .ok (.value v) w':=by
 simp[h]
theorem af.eG{x:Operand}{pos:String}{after:Array Edge}{guard:Option (Nat×Bool)}{d it m c:Nat}{es seen:List MapEntry}(hN:Nat.blt d N=true)(hx:ev L x=some (ptr it))(ht:Take H (H9 it m c seen) R)(hm:At R (iS m (.map es.toArray c)))(hc:∀ e∈es,e.born<c) :
  af P W N ⟨some d,.next x false,T,pos,after,guard⟩ L H (fun L1 H1=>∃ o:Option MapEntry,((o=none→ ∀ e∈es,e.born∈seen.map (fun e=>e.born))∧ ∀ e,o=some e→e∈es∧¬e.born∈seen.map (fun e=>e.born))∧L1=(d,some (Bj o))::L∧H1=H9 it m c (seen++o.toList)::R):=fun a w ha hs Kp hK=>by
 rw[ht.seps] at hs
 obtain⟨sn,hsn⟩:∃ sn,sn=(seen.map (fun e=>e.born)).toArray:=⟨_,rfl⟩
 have hit:w.heap[it]?=some (.mapIter (some m) c sn c):=by rw[hsn];exact(jS (b:=it) (x:=.mapIter (some m) c (seen.map (·.born)).toArray c) hs).2.1
 have hbm:w.heap[m]?=some (.map es.toArray c):=wJ hm hs.right
 have hdone:∀ o:Option MapEntry,((o=none→ ∀ e∈es,e.born∈seen.map (fun e=>e.born))∧ ∀ e,o=some e→e∈es∧¬e.born∈seen.map (fun e=>e.born))→ ∀ w',(Instr.next (ptr it) false T).run P w = .ok (Bj o) w'→Sat W w' (sep (H9 it m c (seen++o.toList)) (seps R))→Oper.wp P ⟨some d,.next x false,T,pos,after,guard⟩ a w Kp QF:=fun o ho w' hr hs'=>by
  have h2:(execOp a.eval ⟨some d,.next x false,T,pos,after,guard⟩).run P w = .ok (.value (Bj o)) w':=by
   simp only[execOp,ha.eval hx]
   exact zN hr
  unfold Oper.wp
  rw[h2]
  simp only[Oper.upon]
  exact hK _ _ ⟨o,ho,rfl,rfl⟩ _ _ (ha.put (Nat.blt_eq.mp hN) _) hs'
 have hstart:=Fb (P:=P) (T:=T) hit hbm (by simpa using hc)
 have hin:∀ e,e∈mg es.toArray sn↔e∈es∧¬e.born∈seen.map (fun e=>e.born):=fun e=>by
  unfold mg
  rw[Array.mem_filter,hsn]
  simp
 generalize hl:mg es.toArray sn=l at hstart hin
 by_cases he:l = #[]
 ·subst he
  refine hdone none ⟨fun _ e hem=>Decidable.byContradiction fun hn=>?_,fun e h=>(by cases h)⟩ w ?_ (by simpa using hs)
  ·have:=(hin e).2 ⟨hem,hn⟩
   simp at this
  ·rw[hstart]
   simp[Question.forced,Bj,nextA,uU,stepN]
 ·have hne:l.isEmpty=false:=by
   cases h:l.isEmpty
   ·rfl
   ·exact absurd (by simpa using h) he
  have hpos:0<l.size:=by
   rcases Nat.eq_zero_or_pos l.size with h | h
   ·exact absurd (Array.eq_empty_of_size_eq_zero h) he
   ·exact h
  have hcs:uU l=l.map some:=by unfold uU;rw[hne];simp
  rw[hcs,Array.size_map] at hstart
  obtain⟨i,w',hr,hi,hw⟩:=choose_lt (P:=P) hpos w
  have hei:(l.map some)[i]?=some (some l[i]):=by simp[hi]
  have hmem:=(hin l[i]).1 (Array.getElem_mem hi)
  have hs':Sat W w' (sep (H9 it m c seen) (seps R)):=by
   rcases hw with rfl | rfl
   ·exact hs
   ·exact hs.drew
  have hit':w'.heap[it]?=some (.mapIter (some m) c sn c):=by rw[hsn];exact(jS (b:=it) (x:=.mapIter (some m) c (seen.map (·.born)).toArray c) hs').2.1
  refine hdone (some l[i]) ⟨fun h=>(by cases h),fun e h=>(by cases h;exact hmem)⟩ {w' with heap:=w'.heap.setIfInBounds it (.mapIter (some m) c (sn.push l[i].born) c) } ?_ ?_
  ·rw[hstart,hr]
   simp only[Result.andThen_ok,hei,stepN,Sem.run_bind,pf _ hit',Sem.run_pure]
   rfl
  ·have:=hs'.setObj (.mapIter (some m) c (sn.push l[i].born) c) rfl
   refine this.eq ?_
   unfold H9
   rw[hsn]
   congr 3
   simp
theorem Y.JA{x:Operand}{it m c:Nat}{es seen:List MapEntry}{e:MapEntry}(hx:ev L x=some (ptr it))(ht:At H (H9 it m c (seen++[e])))(hm:At H (iS m (.map es.toArray c)))(he:e∈es)(hd:(es.map (·.born)).Nodup) :
  Y P W N (.entry x) T L H (.tuple #[e.key,e.val]):=fun dst pos after guard a w ha hs=>by
 simp only[execOp,ha.eval hx]
 refine bE ?_
 have hit:=wJ ht hs
 have hbm:=wJ hm hs
 have hf:es.toArray.find? (·.born == e.born)=some e:=by
  rw[List.find?_toArray]
  clear hm hbm
  induction es with
  | nil=>cases he
  | cons y es ih =>
   simp only[List.map_cons,List.nodup_cons] at hd
   rw[List.find?_cons]
   rcases List.mem_cons.1 he with rfl | he'
   ·simp
   ·have:y.born≠e.born:=fun h=>hd.1 (by rw[h];exact List.mem_map_of_mem he')
    rw[show(y.born == e.born)=false from by simpa using this]
    exact ih he' hd.2
 unfold Instr.entry
 simp[gZ hit,gZ hbm,hf]
end
end Go.SLYtefdijgllbkmfaaGreat
namespace Go.SLYtefdijgllbkmfaaGreat
open Go Go.RowKit
theorem sV(x:Int):∀ l:List Int,(dB x l).Perm (x::l)
 | []=>.refl _
 | y::l=>by
  rw[dB]
  split
  ·exact .refl _
  ·exact((sV x l).cons y).trans (.swap x y l)
theorem iR:∀ l:List Int,(gq l).Perm l
 | []=>.refl _
 | x::l=>(sV x (gq l)).trans ((iR l).cons x)
theorem sW(x:Int):∀ {l:List Int},l.Pairwise (·≤ ·)→(dB x l).Pairwise (·≤ ·)
 | [],_=>by simp[dB]
 | y::l,h=>by
  rw[dB]
  have hy:=(List.pairwise_cons.1 h)
  split
  ·rename_i hx
   refine List.pairwise_cons.2 ⟨fun z hz=>?_,h⟩
   rcases List.mem_cons.1 hz with rfl | hz
   ·exact hx
   ·exact Int.le_trans hx (hy.1 z hz)
  ·rename_i hx
   refine List.pairwise_cons.2 ⟨fun z hz=>?_,sW x hy.2⟩
   rcases List.mem_cons.1 ((sV x l).mem_iff.1 hz) with rfl | hz
   ·omega
   ·exact hy.1 z hz
theorem iq:∀ l:List Int,(gq l).Pairwise (·≤ ·)
 | []=>.nil
 | x::l=>sW x (iq l)
theorem qb{a b:List Int}(ha:a.Pairwise (·≤ ·))(hb:b.Pairwise (·≤ ·))(h:a.Perm b):a=b :=
 List.Perm.eq_of_pairwise (fun _ _ _ _ h1 h2=>Int.le_antisymm h1 h2) ha hb h
theorem zO(l:List Int):l.mergeSort (fun x y=>decide (x≤y))=gq l:=by
 refine qb ?_ (iq l) ((List.mergeSort_perm l _).trans (iR l).symm)
 have:=List.pairwise_mergeSort (le:=fun x y:Int=>decide (x≤y)) (fun a b c h1 h2=>by simp only[decide_eq_true_eq] at *;omega) (fun a b=>by simp only[Bool.or_eq_true,decide_eq_true_eq];omega) l
 exact this.imp fun h=>by simpa using h
theorem wK{a b:List Int}(h:a.Perm b):gq a=gq b:=qb (iq a) (iq b) ((iR a).trans (h.trans (iR b).symm))
theorem kB(l:List Int):(gq l).length=l.length:=(iR l).length_eq
def kC(n:Int)(l:List MapEntry):List Int:=(l.filter fun e=>decide ((sR e).2≤n)).map fun e=>(sR e).1
theorem G8{n:Int}{l:List MapEntry}{e:MapEntry}(h:(sR e).2≤n):kC n (l++[e])=kC n l++[(sR e).1]:=by
 unfold kC;rw[List.filter_append];simp[h]
theorem JB{n:Int}{l:List MapEntry}{e:MapEntry}(h:¬(sR e).2≤n):kC n (l++[e])=kC n l:=by
 unfold kC;rw[List.filter_append];simp[h]
theorem G9(n:Int)(l:List MapEntry):(kC n l).length≤l.length:=by unfold kC;rw[List.length_map];exact List.length_filter_le _ _
structure iC(es seen:List MapEntry):Prop where
 nd:(seen.map fun e=>e.born).Nodup
 sub:∀ e∈seen,e∈es
theorem iC.zero(es:List MapEntry):iC es []:=⟨.nil,fun e h=>by cases h⟩
theorem iC.len{es seen:List MapEntry}(h:iC es seen):seen.length≤es.length:=by
 have:=List.Nodup.length_le_of_subset (l₂ := es.map fun e=>e.born) h.nd (fun b hb=>by
  obtain⟨e,he,rfl⟩:=List.mem_map.1 hb
  exact List.mem_map.2 ⟨e,h.sub e he,rfl⟩)
 simpa using this
theorem iC.next{es seen:List MapEntry}(h:iC es seen){e:MapEntry}(he:e∈es)(hn:¬e.born∈seen.map (fun e=>e.born)):iC es (seen++[e]):=by
 refine⟨?_,fun x hx=>?_⟩
 ·rw[List.map_append,List.nodup_append]
  refine⟨h.nd,by simp,fun a ha b hb=>?_⟩
  simp only[List.map_cons,List.map_nil,List.mem_cons,List.not_mem_nil,or_false] at hb
  subst hb
  exact fun e'=>hn (e' ▸ ha)
 ·rcases List.mem_append.1 hx with hx | hx
  ·exact h.sub x hx
  ·simp only[List.mem_cons,List.not_mem_nil,or_false] at hx;subst hx;exact he
theorem lj{α β:Type}{f:α→β}:∀ {l:List α},(l.map f).Nodup→l.Nodup
 | [],_=>.nil
 | x::l,h=>by
  simp only[List.map_cons,List.nodup_cons] at h
  exact List.nodup_cons.2 ⟨fun hx=>h.1 (List.mem_map_of_mem hx),lj h.2⟩
theorem iC.all{es seen:List MapEntry}(h:iC es seen)(hd:(es.map fun e=>e.born).Nodup)(ha:∀ e∈es,e.born∈seen.map (fun e=>e.born)):seen.Perm es:=by
 refine(List.perm_ext_iff_of_nodup (lj h.nd) (lj hd)).2 fun e=>⟨h.sub e,fun he=>?_⟩
 obtain⟨x,hx,hb⟩:=List.mem_map.1 (ha e he)
 have hxe:=h.sub x hx
 clear ha h
 have:x=e:=by
  induction es with
  | nil=>cases he
  | cons y es ih =>
   simp only[List.map_cons,List.nodup_cons] at hd
   rcases List.mem_cons.1 he with h1 | h1
   ·rcases List.mem_cons.1 hxe with h2 | h2
    ·rw[h1,h2]
    ·exact absurd (List.mem_map.2 ⟨x,h2,by rw[hb,h1]⟩) hd.1
   ·rcases List.mem_cons.1 hxe with h2 | h2
    ·exact absurd (List.mem_map.2 ⟨e,h1,by rw[← hb,h2]⟩) hd.1
    ·exact ih hd.2 h1 h2
 rwa [← this]
theorem Bk{w:jW}{es seen:List MapEntry}{c:Nat}(ho:lu es c w.dV)(h:iC es seen)(ha:∀ e∈es,e.born∈seen.map (fun e=>e.born)):gq (kC (min (w.now+1) 1099511627776) seen)=w.due:=by
 have hp:=h.all ho.2.2.2 ha
 unfold jW.due
 refine wK ?_
 rw[← (E7 ho).1,List.filter_map,List.map_map]
 exact(hp.filter _).map _
end Go.SLYtefdijgllbkmfaaGreat
namespace Go.SLYtefdijgllbkmfaaGreat
open Go Go.RowKit
variable{p0:eB}
section
variable{k:Nat}{s:Spc}{r:RSp}{p q:List Int}
theorem Ok.cap(h:Ok k s p q):ei s.dG=true:=by
 have:=h.yK.1;unfold cK at this
 split at this
 ·assumption
 ·cases this
theorem Ok.snd(h:Ok k s p q){f:List Ins}(hf:f∈s.dG.funcs){i:Ins}(hi:i∈f):ey s.dG i=true:=by
 have:=h.yK.1;unfold cK at this
 rw[if_pos h.cap] at this
 split at this
 ·rename_i ha
  exact List.all_eq_true.1 (List.all_eq_true.1 ha f hf) i hi
 ·cases this
theorem Ok.ins(h:Ok k s p q){f:List Ins}(hf:f∈s.dG.funcs){i:Ins}(hi:i∈f):qI s i:=by
 have hs:=h.snd hf hi
 have hc:=h.cap
 unfold ei at hc
 simp only[Bool.and_eq_true,decide_eq_true_eq,within,List.all_eq_true] at hc
 obtain⟨⟨⟨⟨⟨⟨⟨⟨⟨⟨⟨c1,c2⟩,c3⟩,c4⟩,c5⟩,c6⟩,c7⟩,c8⟩,c9⟩,c10⟩,c11⟩,c12⟩:=hc
 have hg:=h.gt
 have hm:=hg.m
 have hcn:=hg.c
 have hsm:=hg.s
 have htb:=h.tb.1
 unfold ey at hs
 split at hs
 ·cases hs
 ·rename_i hcl
  simp only[Bool.and_eq_true] at hs
  obtain⟨⟨⟨-, -⟩,h3⟩,h4⟩:=hs
  have hop:1≤i.op∧i.op≤38:=by
   unfold cls at hcl
   split at hcl
   ·omega
   split at hcl
   ·omega
   split at hcl
   ·omega
   ·exact absurd rfl hcl
  have key:∀ {a:Int} {b:Bool} {n:Int},aQ s.dG i.op=⟨a,b,n,false⟩→0≤n→i.n<n:=fun {a b n} e hn=>by
   rw[e] at h4
   unfold Form.below at h4
   dsimp only at h4
   rw[if_neg (by decide),if_neg (by omega)] at h4
   simp only[Bool.and_eq_true,decide_eq_true_eq] at h4
   exact h4.2
  refine⟨hop,fun ho=>?_,fun ho=>?_,fun ho=>?_,fun ho=>?_,fun ho=>?_,fun ho=>?_⟩
  ·exact key (a:=2) (b:=false) (n:=s.dG.funcs.length) (by unfold aQ;repeat (first | rw[if_pos (by omega)] | rw[if_neg (by omega)])) (by omega)
  ·have:=key (a:=0) (b:=false) (n:=s.dG.ay) (by unfold aQ;repeat (first | rw[if_pos (by omega)] | rw[if_neg (by omega)])) (by omega)
   omega
  ·have e:aQ s.dG i.op=⟨0,true,s.dG.conds,false⟩:=by unfold aQ;repeat (first | rw[if_pos (by omega)] | rw[if_neg (by omega)])
   have:=key e (by omega)
   rw[e] at h3
   dsimp only at h3
   rw[if_pos rfl] at h3
   simp only[Bool.and_eq_true,decide_eq_true_eq] at h3
   omega
  ·have:=key (a:=0) (b:=false) (n:=s.dG.conds) (by unfold aQ;repeat (first | rw[if_pos (by omega)] | rw[if_neg (by omega)])) (by omega)
   omega
  ·have:=key (a:=0) (b:=false) (n:=s.dG.aT.length) (by unfold aQ;repeat (first | rw[if_pos (by omega)] | rw[if_neg (by omega)])) (by omega)
   omega
  ·have:=key (a:=1) (b:=false) (n:=s.dG.aC.length) (by unfold aQ;repeat (first | rw[if_pos (by omega)] | rw[if_neg (by omega)])) (by omega)
   omega
/-! a thread's step -/
theorem fk.next(h:fk p0 s r)(hO:Ok k s p q){n:Nat}{t:bF}(ht:s.thr[n]?=some (some t)):gy s.dG (r.t n)=eG s.dG t.gY:=by
 have hT:=h.th n t ht
 have hf:=hT.fl
 have hp:=(hO.th n t ht).pc
 unfold gy eG
 rw[if_neg (by show ¬(t.fn<0∨t.pc<0);omega),show(r.t n).fn=t.fn from hT.f,show(r.t n).pc=t.pc from hT.p];rfl
theorem qI.of{s':Spc}{i:Ins}(h:qI s i)(e:s'.dG=s.dG)(e2:s'.ag=s.ag)(e3:s'.bx=s.bx):qI s' i:=⟨h.c,by rw[e];exact h.f,by rw[e2];exact h.m,by rw[e2];exact h.w,by rw[e2];exact h.g,by rw[e2];exact h.e,by rw[e3];exact h.p⟩
theorem fk.au(h:fk p0 s r){l:List Rec}:fk p0 {s with au:=l } {r with au:=l }:=⟨h.pg,h.tk,h.no,h.th,h.T,h.me,h.mx,h.cd,h.sm,h.sw,h.pp,h.bk,h.ak,h.nw,h.tl,h.tp,rfl,h.tr,h.ow,h.mw⟩
theorem aV.finish{d:Dng}{a:RA}(h:aV p0 d a):d.finish.1=a.e∧fk p0 d.finish.2 {a.s with au:=a.s.au++a.late }:=by
 refine⟨h.e.symm,?_⟩
 rw[h.s.rc,h.l]
 exact h.s.au
theorem Fc{n:Nat}{t:bF}(ht:s.thr[n]?=some (some t)):s.at (n:Int)=some t:=oA ht
theorem fk.run(h:fk p0 s r)(hO:Ok k s [] [])(hR:ej s s.au)(hk:k≤1000000)(hr:s.au.length≤800000000){n:Nat}{t:bF}(ht:s.thr[n]?=some (some t))(hw:t.why=0){c:Int} :
  (s.run n c).1=(r.run s.dG n c).1∧(s.run n c).2.1=0∧fk p0 (s.run n c).2.2 (r.run s.dG n c).2:=by
 have hS:=hO.Ao hk hr
 have hnx:=h.next hO ht
 have hw':¬t.why≠0:=fun e=>e hw
 have hst:∀ i:Ins,aV p0 (s.dI n i c) ⟨r,n,i,iY.z,[]⟩:=fun i=>⟨h,rfl,rfl,rfl,rfl⟩
 rw[KF]
 have fin:∀ {z:Dng} {a:RA},aV p0 z a→eV s.dG r n c=a→s.run (n:Int) c=(z.finish.1,0,z.finish.2)→(s.run n c).1=((eV s.dG r n c).e,({(eV s.dG r n c).s with au:=(eV s.dG r n c).s.au++(eV s.dG r n c).late }:RSp)).1∧(s.run n c).2.1=0∧fk p0 (s.run n c).2.2 ((eV s.dG r n c).e,({(eV s.dG r n c).s with au:=(eV s.dG r n c).s.au++(eV s.dG r n c).late }:RSp)).2:=fun {z a} hz ea es=>by
  rw[ea,es]
  exact⟨hz.finish.1,rfl,hz.finish.2⟩
 have hp0:=(hO.th n t ht).pc
 cases hn:eG s.dG t.gY with
 | none =>
  rw[hn] at hnx
  have hI:ja ⟨23,0,0,0,0⟩:=⟨by decide,by decide,by decide,by decide,by decide⟩
  have S:St k s (s.dI n ⟨23,0,0,0,0⟩ c) t:=⟨dL.start hO hR,ht,hw,rfl,rfl,hI,rfl⟩
  exact fin (((hst ⟨23,0,0,0,0⟩).say (t:=t) ht).fin (t:=t) ht S.E3 S.fin ⟨by decide,by decide⟩) (uL hnx) (vR (Fc ht) hw' hn rfl)
 | some i =>
  rw[hn] at hnx
  obtain⟨hI,hIn,hIt⟩:=kb hS hn
  have hpc:t.pc≤256:=AQ hS hn
  have hin:qI s i:=by
   unfold eG at hn
   split at hn
   ·cases hn
   ·have hlt:=(List.getElem?_eq_some_iff.1 hn).1
    cases hf:s.dG.funcs[t.gY.fn.toNat]? with
    | none=>rw[List.getD_eq_getElem?_getD,hf] at hlt;exact absurd hlt (Nat.not_lt_zero _)
    | some g =>
     rw[List.getD_eq_getElem?_getD,hf] at hn
     exact hO.ins (List.mem_of_getElem? hf) (List.mem_of_getElem? hn)
  have hop:=hin.c
  by_cases hc:cls i.op=1
  ·have h19:i.op≤19:=by
    unfold cls at hc
    split at hc
    ·omega
    split at hc
    ·cases hc
    split at hc <;> cases hc
   have S:St k s (s.dI n i c) t:=⟨dL.start hO hR,ht,hw,rfl,rfl,hI,rfl⟩
   exact fin ((hst i).plain S hpc hin h19) (sN hnx h19) (pM (Fc ht) hw' hn hc rfl)
  ·have h19:¬i.op≤19:=fun e=>hc (by unfold cls;rw[if_pos ⟨hop.1,e⟩])
   have ho:=hO.th n t ht
   have h1:dL k s ((s.dI n i c).aj {t with pc:=t.pc+1 }) [] []:=dL.own (dL.start hO hR) ht (t':={t with pc:=t.pc+1 }) ⟨ho.R.l,ho.R.r,ho.R.i,ho.R.v,ho.R.h⟩ (by have:=ho.pc;show 0≤t.pc+1∧t.pc+1≤257;omega) rfl rfl rfl rfl rfl
   have S:St k s ((s.dI n i c).aj {t with pc:=t.pc+1 }) {t with pc:=t.pc+1 }:=⟨h1,bS ht,hw,rfl,rfl,hI,rfl⟩
   have hT:=h.th n t ht
   have h2:=(hst i).aj (t:=t) (t':={t with pc:=t.pc+1 }) (u':={r.t n with pc:=(r.t n).pc+1 }) ht (hT.pc (by show(r.thr n).pc+1=t.pc+1;rw[hT.p])) ((h.T n).pc (by show 0≤(r.thr n).pc+1∧(r.thr n).pc+1≤1000000;rw[hT.p];omega)) (.inl rfl)
   exact fin (h2.call S hk (hin.of rfl rfl rfl) rfl (by show 20≤i.op;omega) rfl) (uM hnx h19) (sk (Fc ht) hw' hn hc rfl)
/-! a request is done -/
theorem fk.done(h:fk p0 s r)(hO:Ok k s [] []){c:Int} :
  ((s.done c).2.1=3∧(s.done c).1=iY.z∧(s.done c).2.2=s∧r.done c=(0,r))∨ ∃ w:Int,(0≤w∧w<16)∧(s.done c).2.1=0∧(s.done c).1=⟨[w],false,false,false⟩∧(r.done c).1=w+1∧fk p0 (s.done c).2.2 (r.done c).2:=by
 by_cases h0:s.aN.wait.length=0
 ·have e:s.aN.done c=(⟨0,0,false,0⟩,0,false,s.aN):=mu h0
  have e2:s.done c=(iY.z,3,s):=lU (by rw[e])
  rw[e2]
  exact .inl ⟨rfl,rfl,rfl,yt (by rw[h.ak];exact h0)⟩
 ·right
  have hp:=eX (t:=c) (n:=s.aN.wait.length) (by omega)
  have hx:s.aN.wait[pick c s.aN.wait.length]?=some (s.aN.wait.getD (pick c s.aN.wait.length) rX):=getD_some hp
  have hm:=List.mem_of_getElem? hx
  generalize hrq:s.aN.wait.getD (pick c s.aN.wait.length) rX=z at hx hm
  have hzw:=hO.dk.w z hm
  have hcd:1≤cD s.aN z.who:=List.countP_pos_iff.2 ⟨z,hm,by simp⟩
  have hb:=hO.oB z.who
  obtain⟨u,hu,hu0,hu9⟩:=gI (s:=s) (w:=z.who) (by simp at hb;unfold gH at hb;omega)
  obtain⟨b0,b1⟩:=fi hu
  have hle:=pP (s:=s) (w:=z.who)
  have hno:nC s z.who:=mf (by simp at hb;unfold gH at hb;omega)
  have hi:=(hO.th _ u b1).R.i
  have hrx:r.ask[pick c r.ask.length]?=some z:=by rw[h.ak];exact hx
  have hr0:¬r.ask.length=0:=by rw[h.ak];exact h0
  have fin:∀ {d':jB} {y:Int} {r':RSp},s.aN.done c=(z,y,true,d')→fk p0 {s with aN:=d' } r'→ff y→r.done c=(z.who+1,{r'.di z.who.toNat y with au:=r.au++[(r.t z.who.toNat).dH y] })→r'.thr=r.thr→
    ∃ w:Int,(0≤w∧w<16)∧(s.done c).2.1=0∧(s.done c).1=⟨[w],false,false,false⟩∧(r.done c).1=w+1∧fk p0 (s.done c).2.2 (r.done c).2:=fun {d' y r'} e hs hy er et=>by
   have e2:=lV (s:=s) (k:=c) (t:=u) (by rw[e]) (by rw[e];exact b1)
   rw[e] at e2
   rw[e2,er]
   refine⟨z.who,⟨b0,by have:=hO.lt ▸ (List.getElem?_eq_some_iff.1 b1).1;omega⟩,rfl,rfl,rfl,?_⟩
   have h1:=hs.aj (n:=z.who.toNat) (t:=u) (t':=u.cS y) (u':=(r'.t z.who.toNat).cS y) b1 ((hs.th _ u b1).cS hi) ((hs.T _).cS hy) (.inr (.inl (by rw[show((z.who.toNat:Nat):Int)=z.who from by omega];exact hno)))
   have h2:=h1.au (l:=s.au++[u.dH y])
   have e3:(r.t z.who.toNat).dH y=u.dH y:=(h.th _ u b1).dH
   show fk p0 _ {r'.di z.who.toNat y with au:=r.au++[(r.t z.who.toNat).dH y] }
   rw[e3,h.rc]
   refine Eq.mp ?_ h2
   congr 1
   unfold Spc.tell Spc.di
   rw[cV (s:={s with aN:=d' }) b1]
   rfl
  cases hwr:z.write with
  | true =>
   have e:s.aN.done c=(z,0,true,{s.aN with wait:=s.aN.wait.eraseIdx (pick c s.aN.wait.length),blocks:=s.aN.blocks.set z.block.toNat z.x }):=kQ h0 hrq hwr
   refine fin e (r':={r.asked c with blk:=r.blk.set z.block.toNat z.x }) ⟨h.pg,h.tk,h.no,h.th,h.T,h.me,h.mx,h.cd,h.sm,h.sw,h.pp,(by show r.blk.set _ _=_;rw[h.bk]),(by show r.ask.eraseIdx (pick c r.ask.length)=_;rw[h.ak]),h.nw,h.tl,h.tp,h.rc,h.tr,h.ow,h.mw⟩ FR (qF hr0 hrx hwr) rfl
  | false =>
   have e:s.aN.done c=(z,s.aN.blocks.getD z.block.toNat 0,true,{s.aN with wait:=s.aN.wait.eraseIdx (pick c s.aN.wait.length) }):=mv h0 hrq hwr
   have e2:=sO (k:=c) hr0 hrx hwr
   rw[h.bk] at e2
   exact fin e (r':=r.asked c) ⟨h.pg,h.tk,h.no,h.th,h.T,h.me,h.mx,h.cd,h.sm,h.sw,h.pp,h.bk,(by show r.ask.eraseIdx (pick c r.ask.length)=_;rw[h.ak]),h.nw,h.tl,h.tp,h.rc,h.tr,h.ow,h.mw⟩ (wa hO.dk.b (by omega)) e2 rfl
/-! a moment -/
def dueR(til:Nat→Int)(now:Int):Nat→Nat→List Int
 | 0,_=>[]
 | f+1,n=>if 0<til n∧til n-1≤now then (n:Int)::dueR til now f (n+1) else dueR til now f (n+1)
def ph(r:RSp):List Int→RSp
 | []=>r
 | n::l=>ph (r.ky n.toNat) l
theorem sX{t1 t2:Nat→Int}{now:Int}:∀ (f n:Nat),(∀ m,n≤m→t1 m=t2 m)→dueR t1 now f n=dueR t2 now f n
 | 0,_,_=>rfl
 | f+1,n,h=>by rw[dueR,dueR,h n (Nat.le_refl _),sX f (n+1) (fun m hm=>h m (by omega))]
theorem sY:∀ (f n:Nat) (r:RSp) (out:List Int),rTick r f n out=(out++dueR r.til r.now f n,ph r (dueR r.til r.now f n))
 | 0,n,r,out=>by rw[rTick,dueR,List.append_nil];rfl
 | f+1,n,r,out=>by
  rw[rTick,dueR]
  by_cases c:0<r.til n∧r.til n-1≤r.now
  ·rw[if_pos c,if_pos c]
   have e:dueR (r.ky n).til (r.ky n).now f (n+1)=dueR r.til r.now f (n+1):=sX f (n+1) (fun m hm=>jk (by omega))
   refine(sY f (n+1) (r.ky n) (out++[(n:Int)])).trans ?_
   rw[e,List.append_assoc];rfl
  ·rw[if_neg c,if_neg c];exact sY f (n+1) r out
theorem mJ{til:Nat→Int}{now:Int}:∀ (f n:Nat), ∀ x∈dueR til now f n,(n:Int)≤x∧x<((n+f:Nat):Int)∧0<til x.toNat∧til x.toNat-1≤now
 | 0,_,x,h=>by cases h
 | f+1,n,x,h=>by
  rw[dueR] at h
  split at h
  ·rename_i c
   rcases List.mem_cons.1 h with rfl | h
   ·rw[Int.toNat_natCast];exact⟨by omega,by omega,c⟩
   ·have:=mJ f (n+1) x h;exact⟨by omega,by omega,this.2.2⟩
  ·have:=mJ f (n+1) x h;exact⟨by omega,by omega,this.2.2⟩
theorem ir{til:Nat→Int}{now:Int}:∀ (f n:Nat),(dueR til now f n).Pairwise (· < ·)
 | 0,_=>.nil
 | f+1,n=>by
  rw[dueR]
  split
  ·refine List.pairwise_cons.2 ⟨fun x hx=>?_,ir f (n+1)⟩
   have:=mJ f (n+1) x hx;omega
  ·exact ir f (n+1)
theorem sZ{til:Nat→Int}{now:Int}{m:Nat}(c:0<til m∧til m-1≤now):∀ (f n:Nat),n≤m→m<n+f→(m:Int)∈dueR til now f n
 | 0,n,a,b=>absurd b (by omega)
 | f+1,n,a,b=>by
  rw[dueR]
  by_cases e:n=m
  ·subst e;rw[if_pos c];exact List.mem_cons_self
  ·split
   ·exact List.mem_cons_of_mem _ (sZ c f (n+1) (by omega) (by omega))
   ·exact sZ c f (n+1) (by omega) (by omega)
theorem Cz{l:List (Int×Int)}{b w:Int}(h:l.countP (fun x=>decide (x.1=w))≤1):(l.filter fun p=>decide (p.2≤b)).countP (fun x=>decide (x.1=w))=match cC l w with | none=>0 | some m=>if m≤b then 1 else 0:=by
 induction l with
 | nil=>rfl
 | cons p l ih =>
  rw[List.countP_cons] at h
  by_cases e:p.1=w
  ·rw[if_pos (by simpa using e)] at h
   have h0:l.countP (fun x=>decide (x.1=w))=0:=by omega
   have h1:(l.filter fun p=>decide (p.2≤b)).countP (fun x=>decide (x.1=w))=0:=Nat.le_zero.1 (h0 ▸ List.Sublist.countP_le List.filter_sublist)
   have hg:cC (p::l) w=some p.2:=by unfold cC;rw[List.find?_cons_of_pos (by simpa using e)];rfl
   rw[hg]
   simp only
   by_cases hb:p.2≤b
   ·rw[List.filter_cons_of_pos (by simpa using hb),List.countP_cons,h1,if_pos (by simpa using e),if_pos hb]
   ·rw[List.filter_cons_of_neg (by simpa using hb),h1,if_neg hb]
  ·rw[if_neg (by simpa using e)] at h
   have hg:cC (p::l) w=cC l w:=by unfold cC;rw[List.find?_cons_of_neg (by simpa using e)]
   rw[hg, ← ih (by omega)]
   by_cases hb:p.2≤b
   ·rw[List.filter_cons_of_pos (by simpa using hb),List.countP_cons,if_neg (by simpa using e)];rfl
   ·rw[List.filter_cons_of_neg (by simpa using hb)]
theorem s4{l:List (Int×Int)}{n m:Int}:cC (dQ l n) m=if m=n then none else cC l m:=by
 induction l with
 | nil=>unfold dQ cC;split <;> rfl
 | cons p l ih =>
  unfold dQ at ih ⊢
  by_cases e:p.1=n
  ·rw[List.filter_cons_of_neg (by simp[e]),ih]
   split
   ·rfl
   ·rename_i hne
    unfold cC;rw[List.find?_cons_of_neg (by simp only[decide_eq_true_eq];exact fun h=>hne (h.symm.trans e))]
  ·rw[List.filter_cons_of_pos (by simp[e])]
   by_cases e2:p.1=m
   ·rw[if_neg (fun h=>e (e2.trans h))]
    unfold cC;rw[List.find?_cons_of_pos (by simpa using e2),List.find?_cons_of_pos (by simpa using e2)]
   ·have a1:cC (p::l.filter fun p => !decide (p.1=n)) m=cC (l.filter fun p => !decide (p.1=n)) m:=by unfold cC;rw[List.find?_cons_of_neg (by simpa using e2)]
    have a2:cC (p::l) m=cC l m:=by unfold cC;rw[List.find?_cons_of_neg (by simpa using e2)]
    rw[a1,a2,ih]
def Spc.ky(s:Spc)(n:Int):Spc:=(({s with aA:={s.aA with dV:=dQ s.aA.dV n } }:Spc).di n.toNat 0).tell ((s.t n.toNat).dH 0)
theorem fk.ky(h:fk p0 s r){n:Nat}{u:bF}(hu:s.thr[n]?=some (some u))(hi : -1≤u.into∧u.into<8)(hm:nC s n):fk p0 (s.ky n) (r.ky n):=by
 have h1:fk p0 {s with aA:={s.aA with dV:=dQ s.aA.dV n } } {r with til:=dR r.til n 0 }:=⟨h.pg,h.tk,h.no,h.th,h.T,h.me,h.mx,h.cd,h.sm,h.sw,h.pp,h.bk,h.ak,h.nw,fun m=>by
  show dR r.til n 0 m=Jq (cC (dQ s.aA.dV n) m)
  rw[s4]
  by_cases e:m=n
  ·subst e;rw[dz,if_pos rfl];rfl
  ·rw[jk e,if_neg (by omega)];exact h.tl m,fun m v e=>by
  have e:cC (dQ s.aA.dV n) m=some v:=e
  rw[s4] at e
  split at e
  ·cases e
  ·exact h.tp m v e,h.rc,h.tr,h.ow,h.mw⟩
 have h2:=h1.aj hu ((h.th n u hu).cS hi (y:=0)) ((h.T n).cS (y:=0) FR) (.inr (.inl hm))
 have h3:=h2.au (l:=s.au++[u.dH 0])
 have e3:(r.t n).dH 0=u.dH 0:=(h.th n u hu).dH
 unfold Spc.ky RSp.ky
 rw[e3,h.rc,Int.toNat_natCast,cV hu]
 unfold Spc.di
 have e4:({s with aA:={s.aA with dV:=dQ s.aA.dV n } }:Spc).t n=u:=cV (s:={s with aA:={s.aA with dV:=dQ s.aA.dV n } }) hu
 rw[e4]
 exact h3
theorem fk.Fe:∀ (l:List Int) {s:Spc} {r:RSp},fk p0 s r→(∀ n∈l,0≤n∧nC s n∧ ∃ u,s.thr[n.toNat]?=some (some u)∧(-1≤u.into∧u.into<8))→l.Nodup→
  fk p0 (df {s with aA:={s.aA with dV:=l.foldl dQ s.aA.dV } } l) (ph r l)
 | [],s,r,h,_,_=>h
 | n::l,s,r,h,hl,hn=>by
  obtain⟨h0,hm,u,hu,hi⟩:=hl n List.mem_cons_self
  rw[List.nodup_cons] at hn
  obtain⟨m,rfl⟩:∃ m:Nat,n=(m:Int):=⟨n.toNat,by omega⟩
  rw[Int.toNat_natCast] at hu
  have h1:=h.ky hu hi hm
  have h2:=fk.Fe l h1 (fun v hv=>by
   obtain⟨v0,vm,w,hw,wi⟩:=hl v (List.mem_cons_of_mem _ hv)
   have hne:m≠v.toNat:=fun e=>hn.1 (by rw[show(m:Int)=v from by omega];exact hv)
   exact⟨v0,vm,w,cn (s:={s with aA:=_ }) hw hne,wi⟩) hn.2
  exact h2
theorem fk.tick(h:fk p0 s r)(hO:Ok k s [] []):s.tick.1=⟨r.tick.1,false,false,false⟩∧fk p0 s.tick.2 r.tick.2:=by
 have hbal:∀ w,gH s w=dZ s w:=fun w=>by have:=hO.oB w;simpa using this
 have hone:∀ w,cL s.aA w≤1:=fun w=>by have h1:=hbal w;have h2:=pP (s:=s) (w:=w);unfold gH at h1;omega
 have hwl:=hO.wl
 have hnow:r.fa.now=min (s.aA.now+1) 1099511627776:=by
  show(if r.now<1099511627776 then r.now+1 else r.now)=_
  rw[h.nw];split <;> omega
 have hliv:∀ w,0<cL s.aA w→0≤w∧w<16∧nC s w∧ ∃ u,s.thr[w.toNat]?=some (some u)∧(-1≤u.into∧u.into<8):=fun w hw=>by
  have h1:=hbal w
  have h2:=pP (s:=s) (w:=w)
  obtain⟨u,hu,hu0,hu9⟩:=gI (s:=s) (w:=w) (by unfold gH at h1;omega)
  obtain⟨b0,b1⟩:=fi hu
  have:=hO.lt ▸ (List.getElem?_eq_some_iff.1 b1).1
  exact⟨b0,by omega,mf (by unfold gH at h1;omega),u,b1,(hO.th _ u b1).R.i⟩
 have hdue:s.aA.due=dueR r.til r.fa.now 16 0:=by
  unfold jW.due
  refine qb (iq _) ((ir 16 0).imp fun h=>Int.le_of_lt h) ((iR _).trans (List.perm_iff_count.2 fun w=>?_))
  have e1:((s.aA.dV.filter fun p=>decide (p.2≤min (s.aA.now+1) 1099511627776)).map (·.1)).count w=(s.aA.dV.filter fun p=>decide (p.2≤min (s.aA.now+1) 1099511627776)).countP (fun x=>decide (x.1=w)):=by
   unfold List.count;rw[List.countP_map];rfl
  rw[e1,Cz (hone w)]
  have hnd:(dueR r.til r.fa.now 16 0).Nodup:=(ir 16 0).imp fun h=>Int.ne_of_lt h
  by_cases hw:0≤w∧w<16
  ·obtain⟨m,rfl⟩:∃ m:Nat,w=(m:Int):=⟨w.toNat,by omega⟩
   have htl:=h.tl m
   cases hg:cC s.aA.dV (m:Int) with
   | none =>
    simp only
    rw[hg] at htl
    refine(List.count_eq_zero.2 fun hin=>?_).symm
    have:=(mJ 16 0 _ hin).2.2
    rw[Int.toNat_natCast,htl] at this
    exact absurd this.1 (by show ¬(0:Int)<0;decide)
   | some v =>
    simp only
    rw[hg] at htl
    have htl:r.til m=v+1:=htl
    have hv:=h.tp m v hg
    by_cases hb:v≤min (s.aA.now+1) 1099511627776
    ·rw[if_pos hb]
     have hin:=sZ (til:=r.til) (now:=r.fa.now) (m:=m) ⟨by omega,by rw[hnow];omega⟩ 16 0 (Nat.zero_le _) (by omega)
     have h1:=List.count_pos_iff.2 hin
     have h2:=List.nodup_iff_count.1 hnd (m:Int)
     omega
    ·rw[if_neg hb]
     refine(List.count_eq_zero.2 fun hin=>?_).symm
     have:=(mJ 16 0 _ hin).2.2
     rw[Int.toNat_natCast,htl,hnow] at this
     omega
  ·have h0:cL s.aA w=0:=by
    cases hc:cL s.aA w with
    | zero=>rfl
    | succ j=>have:=hliv w (by omega);exact absurd ⟨this.1,this.2.1⟩ hw
   rw[lY h0]
   simp only
   refine(List.count_eq_zero.2 fun hin=>?_).symm
   have:=mJ 16 0 _ hin
   exact hw ⟨by omega,by omega⟩
 have ht:r.tick=(dueR r.til r.fa.now 16 0,ph r.fa (dueR r.til r.fa.now 16 0)):=by
  show rTick r.fa 16 0 []=_
  rw[sY,List.nil_append];rfl
 rw[ht, ← hdue]
 refine⟨rfl,?_⟩
 have h1:fk p0 {s with aA:={s.aA with now:=min (s.aA.now+1) 1099511627776 } } r.fa:=⟨h.pg,h.tk,h.no,h.th,h.T,h.me,h.mx,h.cd,h.sm,h.sw,h.pp,h.bk,h.ak,hnow,h.tl,h.tp,h.rc,h.tr,h.ow,h.mw⟩
 refine fk.Fe s.aA.due h1 (fun n hn=>?_) ?_
 ·obtain⟨y,hy,e⟩:=AK hn
  have:=hliv n (List.countP_pos_iff.2 ⟨y,hy,by simpa using e⟩)
  exact⟨this.1,this.2.2⟩
 ·rw[hdue];exact(ir 16 0).imp fun h=>Int.ne_of_lt h
end
end Go.SLYtefdijgllbkmfaaGreat
namespace Go.SLYtefdijgllbkmfaaGreat
open Go Go.RowKit
variable{p0:eB}
structure Ff(p:eB)(s:RSp)(n:Nat):Prop where
 lt:n<16
 T:fM s
 r:s.au.length≤800000000
 f:0≤(s.thr n).fn∧(s.thr n).fn<(p.funcs.length:Int)
 c:0≤(s.thr n).pc∧(s.thr n).pc≤900000
 l:p.funcs.length≤1000000∧ ∀ f∈p.funcs,f.length≤1000000
 m:s.mem.length≤1000000
 I:∀ i,gy p (s.t n)=some i→ja i
 C:∀ i,gy p (s.t n)=some i→¬i.op≤19→uA ((⟨s,n,i,iY.z,[]⟩:RA).aj {s.t n with pc:=(s.t n).pc+1 })
section
variable{k:Nat}{s:Spc}{r:RSp}
theorem Ok.len(h:Ok k s [] []){α:Type}{f:α→Int}{l:List α}(hl:∀ w,l.countP (fun x=>decide (f x=w))≤gH s w):l.length≤16∧ ∀ x∈l,0≤f x∧f x<16:=by
 have hb:∀ w,gH s w=dZ s w:=fun w=>by have:=h.oB w;simpa using this
 refine⟨oG h.lt (fun w=>by rw[← hb];exact hl w),fun x hx=>?_⟩
 have h1:0<l.countP (fun y=>decide (f y=f x)):=List.countP_pos_iff.2 ⟨x,hx,by simp⟩
 obtain⟨b0,u,hu⟩:=ke (s:=s) (w:=f x) (by have:=hl (f x);have:=hb (f x);omega)
 have:=h.lt ▸ (List.getElem?_eq_some_iff.1 hu).1
 exact⟨b0,by omega⟩
theorem Ok.Lu(h:Ok k s [] []){x:dt}(hx:x∈s.ag.aD):x.wait.length≤16∧ ∀ w∈x.wait,0≤w.who∧w.who<16:=h.len (f:=fun y:dc=>y.who) fun w=>by
 have h1:=dh (f:=fun m:dt=>dj w m.wait) hx
 have e:x.wait.countP (fun y=>decide (y.who=w))=dj w x.wait:=rfl
 unfold gH cG;omega
theorem Ok.Lv(h:Ok k s [] []){x:List dc}(hx:x∈s.ag.bm):x.length≤16∧ ∀ w∈x,0≤w.who∧w.who<16:=h.len (f:=fun y:dc=>y.who) fun w=>by
 have h1:=dh (f:=dj w) hx
 have e:x.countP (fun y=>decide (y.who=w))=dj w x:=rfl
 unfold gH cG;omega
theorem Ok.Lw(h:Ok k s [] []){x:jr}(hx:x∈s.ag.bX):x.wait.length≤16∧ ∀ w∈x.wait,0≤w.who∧w.who<16:=h.len (f:=fun y:dc=>y.who) fun w=>by
 have h1:=dh (f:=fun m:jr=>dj w m.wait) hx
 have e:x.wait.countP (fun y=>decide (y.who=w))=dj w x.wait:=rfl
 unfold gH cG;omega
theorem Ok.Ly(h:Ok k s [] []){u:Tub}(hu:u∈s.bx):(u.bN.length≤16∧ ∀ w∈u.bN,0≤w.who∧w.who<16)∧u.bz.length≤16∧ ∀ w∈u.bz,0≤w∧w<16:=by
 have h1:∀ w,cU w u≤cT s.bx w:=fun w=>dh (f:=cU w) hu
 refine⟨h.len (f:=fun y:Ptr=>y.who) fun w=>?_,h.len (f:=fun y:Int=>y) fun w=>?_⟩
 ·have:=h1 w;unfold cU at this;unfold gH;omega
 ·have:=h1 w
  have e:u.bz.countP (fun y=>decide (y=w))=u.bz.count w:=rfl
  unfold cU at this;unfold gH;omega
theorem Ok.JC(h:Ok k s [] []):s.aN.wait.length≤16∧ ∀ w∈s.aN.wait,0≤w.who∧w.who<16:=h.len (f:=fun y:pz=>y.who) fun w=>by
 have e:s.aN.wait.countP (fun y=>decide (y.who=w))=cD s.aN w:=rfl
 unfold gH;omega
theorem Ok.Lz(h:Ok k s [] []):s.ag.aD.length≤4∧s.ag.bm.length≤4∧s.ag.bX.length≤4∧s.bx.length≤4∧s.mem.length≤64∧s.dG.funcs.length≤8∧ ∀ f∈s.dG.funcs,f.length≤256:=by
 have hc:=h.cap
 unfold ei at hc
 simp only[Bool.and_eq_true,decide_eq_true_eq,within,List.all_eq_true] at hc
 obtain⟨⟨⟨⟨⟨⟨⟨⟨⟨⟨⟨c1,c2⟩,c3⟩,c4⟩,c5⟩,c6⟩,c7⟩,c8⟩,c9⟩,c10⟩,c11⟩,c12⟩:=hc
 have hg:=h.gt
 have hm:=hg.m
 have hcn:=hg.c
 have hsm:=hg.s
 have htb:=h.tb.1
 have hme:=h.me.1
 exact⟨by omega,by omega,by omega,by omega,by omega,c2,c10⟩
theorem fk.LA(h:fk p0 s r)(hO:Ok k s [] [])(hk:k≤1000000)(hr:s.au.length≤800000000){n:Nat}{t:bF}(ht:s.thr[n]?=some (some t)):Ff s.dG r n:=by
 have hS:=hO.Ao hk hr
 have hT:=h.th n t ht
 have hp0:=(hO.th n t ht).pc
 have hnx:=h.next hO ht
 have h16:n<16:=hO.lt ▸ (List.getElem?_eq_some_iff.1 ht).1
 obtain⟨k1,k2,k3,k4,k5,k6,k7⟩:=hO.Lz
 have hTp:=hT.p
 have hTf:=hT.f
 have hfl:=hT.fl
 refine⟨h16,h.T,by rw[h.rc];exact hr,by rw[hTf];exact hfl,by rw[hTp];omega,⟨by omega,fun f hf=>Nat.le_trans (k7 f hf) (by decide)⟩,by rw[h.me];omega,fun i hi=>?_,fun i hi hop=>?_⟩
 ·rw[hnx] at hi;exact(kb hS hi).1
 ·rw[hnx] at hi
  obtain⟨hI,hIn,hIt⟩:=kb hS hi
  have hin:qI s i:=by
   have hn:=hi
   unfold eG at hn
   split at hn
   ·cases hn
   ·have hlt:=(List.getElem?_eq_some_iff.1 hn).1
    cases hf:s.dG.funcs[t.gY.fn.toNat]? with
    | none=>rw[List.getD_eq_getElem?_getD,hf] at hlt;exact absurd hlt (Nat.not_lt_zero _)
    | some g =>
     rw[List.getD_eq_getElem?_getD,hf] at hn
     exact hO.ins (List.mem_of_getElem? hf) (List.mem_of_getElem? hn)
  have hc:=hin.c
  have hcls:cls i.op≠1:=by unfold cls;rw[if_neg (by omega)];split <;> (try split) <;> decide
  have hmx:∀ x∈r.aD,x.wait.length≤16∧ ∀ w∈x.wait,0≤w∧w<16:=fun x hx=>by
   rw[h.mx] at hx
   obtain⟨y,hy,rfl⟩:=List.mem_map.1 hx
   obtain⟨a1,a2⟩:=hO.Lu hy
   refine⟨by show(y.wait.map (·.who)).length≤16;rw[List.length_map];exact a1,fun w hw=>?_⟩
   obtain⟨z,hz,rfl⟩:=List.mem_map.1 (show w∈y.wait.map (·.who) from hw)
   exact a2 z hz
  have hml:r.aD.length=s.ag.aD.length:=by rw[h.mx,List.length_map]
  have hcl:r.bm.length=s.ag.bm.length:=by rw[h.cd]
  have hsl:r.bX.length=s.ag.bX.length:=by rw[h.sm,List.length_map]
  have hpl:r.jv.length=s.bx.length:=by rw[h.pp]
  have hbl:=hO.dk.l
  have hnw:=hO.wl
  refine⟨h16,h.T.dR (n:=n) (t:={r.t n with pc:=(r.t n).pc+1 }) rfl ((h.T n).pc (by show 0≤(r.thr n).pc+1∧(r.thr n).pc+1≤1000000;rw[hTp];omega)),Nat.zero_le _,Nat.zero_le _,by show r.au.length≤_;rw[h.rc];omega,hI,hIn hcls,by show r.aD.length≤_;omega,fun x hx=>⟨Nat.le_trans (hmx x hx).1 (by decide),(hmx x hx).2⟩,by show r.bm.length≤_;omega,fun x hx=>?_,⟨by show r.bX.length≤_;omega,?_⟩,fun x hx=>?_,fun x hx=>?_,by show r.jv.length≤_;omega,fun u hu=>?_,by show r.blk.length≤_;rw[h.bk];omega,by show r.ask.length≤_;rw[h.ak];exact Nat.le_trans hO.JC.1 (by decide),by show 0≤r.now∧r.now≤_;rw[h.nw];exact hnw,fun o=>by show i.n<(r.aD.length:Int);rw[hml];exact hin.m o,fun o=>by show i.c<(r.aD.length:Int)∧i.n<(r.bm.length:Int);rw[hml,hcl];exact hin.w o,fun o=>by show i.n<(r.bm.length:Int);rw[hcl];exact hin.g o,fun o=>by show i.n<(r.bX.length:Int);rw[hsl];exact hin.e o,fun o=>by show i.n<(r.jv.length:Int);rw[hpl];exact hin.p o,by show 20≤i.op∧i.op≤38;omega⟩
  ·have hx:x∈r.bm:=hx
   rw[h.cd] at hx
   obtain⟨a1,a2⟩:=hO.Lv hx
   exact⟨Nat.le_trans a1 (by decide),fun w hw=>⟨a2 w hw,by show 0≤w.mutex∧w.mutex<(r.aD.length:Int);rw[hml];exact hO.gt.cm x hx w hw⟩⟩
  ·show r.sw.length=r.bX.length
   rw[h.sw,h.sm,List.length_map,List.length_map]
  ·have hx:x∈r.bX:=hx
   rw[h.sm] at hx
   obtain⟨y,hy,rfl⟩:=List.mem_map.1 hx
   exact hO.gt.sc y hy
  ·have hx:x∈r.sw:=hx
   rw[h.sw] at hx
   obtain⟨y,hy,rfl⟩:=List.mem_map.1 hx
   obtain⟨a1,a2⟩:=hO.Lw hy
   refine⟨by rw[List.length_map];exact Nat.le_trans a1 (by decide),fun w hw=>?_⟩
   obtain⟨z,hz,rfl⟩:=List.mem_map.1 hw
   exact a2 z hz
  ·have hu:u∈r.jv:=hu
   rw[h.pp] at hu
   obtain⟨⟨a1,a2⟩,a3,a4⟩:=hO.Ly hu
   have b:=hO.tb.2 u hu
   exact⟨Nat.le_trans b.l (by decide),Nat.le_trans a1 (by decide),Nat.le_trans a3 (by decide),b.w,a2,a4⟩
/-! what requests, moments, looks ask for -/
theorem fk.KK(h:fk p0 s r)(hO:Ok k s [] []):r.ask.length≤1000000∧ ∀ q∈r.ask,(0≤q.who∧q.who<16)∧0≤q.block∧q.block<(r.blk.length:Int):=by
 rw[h.ak,h.bk]
 refine⟨Nat.le_trans hO.JC.1 (by decide),fun q hq=>⟨hO.JC.2 q hq,?_⟩⟩
 have:=hO.dk.w q hq;exact⟨this.1,this.2.1⟩
theorem fk.LB(h:fk p0 s r):∀ m,0≤r.til m∧r.til m≤1099511627777:=fun m=>by
 rw[h.tl m]
 cases e:cC s.aA.dV (m:Int) with
 | none=>exact⟨Int.le_refl 0,(by decide:(0:Int)≤1099511627777)⟩
 | some v=>have:=h.tp m v e;show 0≤v+1∧v+1≤_;omega
theorem fk.LC(h:fk p0 s r)(hO:Ok k s [] []):0≤r.now∧r.now≤1099511627776:=by rw[h.nw];exact hO.wl
end
/-! a new space -/
theorem fk.new{p:eB}(h:xG p):fk p (Spc.new p) (RSp.new p):=by
 have hcap:ei p=true:=by
  have:=h.1;unfold cK at this
  split at this
  ·assumption
  ·cases this
 have hc:=hcap
 unfold ei at hc
 simp only[Bool.and_eq_true,decide_eq_true_eq,within,List.all_eq_true] at hc
 obtain⟨⟨⟨⟨⟨⟨⟨⟨⟨⟨⟨c1,c2⟩,c3⟩,c4⟩,c5⟩,c6⟩,c7⟩,c8⟩,c9⟩,c10⟩,c11⟩,c12⟩:=hc
 have cl:∀ {n:Int},0≤n→n≤4→aZ n 4=n:=fun a b=>by unfold aZ;omega
 have hO:Ok 0 ⟨p,List.replicate 16 (false,0),List.replicate 16 none,List.replicate p.words.toNat 0,Gates.new p.ay p.conds p.aT,p.aC.map Tub.new,jB.new p.blocks,jW.new,[]⟩ [] []:=Ok.Ko h
 have z8:(0:Int)≤8:=by decide
 have h0:fk p ⟨p,List.replicate 16 (false,0),List.replicate 16 none,List.replicate p.words.toNat 0,Gates.new p.ay p.conds p.aT,p.aC.map Tub.new,jB.new p.blocks,jW.new,[]⟩
   ⟨fun _=>0,fun _=>Je,List.replicate p.words.toNat 0,List.replicate p.ay.toNat ⟨0,[]⟩,List.replicate p.conds.toNat [],p.aT,List.replicate p.aT.length [],p.aC.map fun r=>⟨r,[],[],[]⟩,List.replicate p.blocks.toNat 0,[],0,fun _=>0,[]⟩:=by
  refine⟨rfl,fun n hn=>?_,fun n e=>rfl,fun n t ht=>?_,fun m=>⟨fun k=>⟨Int.le_refl 0,(by decide:(0:Int)≤18446744073709551615)⟩,⟨Int.le_refl 0,z8⟩,⟨Int.le_refl 0,(by decide:(0:Int)≤16)⟩,⟨Int.le_refl 0,(by decide:(0:Int)≤1000000)⟩,⟨Int.le_refl 0,(by decide:(0:Int)≤18446744073709551615)⟩⟩,rfl,?_,?_,?_,?_,?_,?_,rfl,rfl,fun n=>rfl,fun n m e=>(by cases e),rfl,fun u hu=>?_,fun x hx hh=>?_,fun x hx y hy=>?_⟩
  ·rw[List.getD_eq_getElem?_getD,List.getElem?_replicate,if_pos hn];rfl
  ·have ht:(List.replicate 16 (none:Option bF))[n]?=some (some t):=ht
   rw[List.getElem?_replicate] at ht
   split at ht <;> cases ht
  ·show List.replicate p.ay.toNat _=(List.replicate (aZ p.ay 4).toNat _).map iL
   rw[List.map_replicate,cl (by omega) (by omega)];rfl
  ·show List.replicate p.conds.toNat _=List.replicate (aZ p.conds 4).toNat _
   rw[cl (by omega) (by omega)]
  ·show p.aT=((p.aT.take 4).map fun n=>(⟨[],aZ n 1048576⟩:jr)).map (·.count)
   rw[List.map_map,List.take_of_length_le (by omega)]
   refine(List.map_id _).symm.trans (List.map_congr_left fun x hx=>?_)
   have:=c11 x hx
   show x=aZ x 1048576
   unfold aZ;omega
  ·show List.replicate p.aT.length ([]:List Int)=((p.aT.take 4).map fun n=>(⟨[],aZ n 1048576⟩:jr)).map fun x=>x.wait.map (·.who)
   rw[List.map_map,List.take_of_length_le (by omega)]
   exact(List.eq_replicate_iff.2 ⟨by rw[List.length_map],fun b hb=>by obtain⟨x,_,rfl⟩:=List.mem_map.1 hb;rfl⟩).symm
  ·show(p.aC.map fun r=>(⟨r,[],[],[]⟩:Tub))=p.aC.map Tub.new
   refine List.map_congr_left fun x hx=>?_
   have:=c12 x hx
   unfold Tub.new
   rw[show min (max x 1) 8=x from by omega]
  ·show List.replicate p.blocks.toNat (0:Int)=List.replicate (aZ p.blocks 64).toNat 0
   rw[show aZ p.blocks 64=p.blocks from by unfold aZ;omega]
  ·obtain⟨n,hn,rfl⟩:=List.mem_map.1 (show u∈p.aC.map Tub.new from hu)
   show(0:Int)≤min (max n 1) 8;omega
  ·have hx:x∈List.replicate (aZ p.ay 4).toNat (⟨[],false,0⟩:dt):=hx
   rw[(List.mem_replicate.1 hx).2] at hh;cases hh
  ·have hx:x∈List.replicate (aZ p.ay 4).toNat (⟨[],false,0⟩:dt):=hx
   rw[(List.mem_replicate.1 hx).2] at hy;cases hy
 have hfr:slotFree? (List.replicate 16 (false,(0:Int))) 0=some 0:=rfl
 obtain⟨-,e,h1, -⟩:=h0.begin hO (by decide) (f:=0) (arg:=0) ⟨by decide,by show(0:Int)<(p.funcs.length:Int);omega⟩ FR hfr
 unfold Spc.new RSp.new
 rw[e];exact h1
end Go.SLYtefdijgllbkmfaaGreat
namespace Go.SLYtefdijgllbkmfaaGreat
open Go Go.RowKit
variable{p0:eB}
theorem zP{ba b:Nat}{v:RV}{a:RA}(h1:a.e.aL=[])(h2:a.late=[]):∀ h,seps [arr ba 0 (lf b a (.slice none 0 0) (.slice none 0 0)),cp b v a.s] h→cA ba b v a h:=fun h e=>by
 refine⟨.slice none 0 0,.slice none 0 0,trivial,?_⟩
 show seps [arr ba 0 (lf b a (.slice none 0 0) (.slice none 0 0)),sl aP 1 (.slice none 0 0) a.e.aL,sl dp 6 (.slice none 0 0) a.late,cp b v a.s] h
 rw[h1,h2,jK,jK]
 simpa only[seps,fG,aO] using e
theorem Ff.fs{v:bI}{s:RSp}{n:Nat}(h:Ff v.p s n):v.fs.length≤1000000∧(0≤(s.thr n).fn∧(s.thr n).fn<(v.fs.length:Int))∧ ∀ f∈v.fs,f.2.length≤1000000:=by
 have e:v.p.funcs.length=v.fs.length:=List.length_map ..
 have h1:=h.l
 have h2:=h.f
 rw[e] at h1 h2
 exact⟨h1.1,h2,fun f hf=>h1.2 _ (List.mem_map_of_mem hf)⟩
def qO(s:RSp)(n:Nat)(i:Ins):RA:=⟨s,n,i,iY.z,[]⟩
def Ha(s:RSp)(n:Nat)(i:Ins):RA:=(qO s n i).aj {s.t n with pc:=(s.t n).pc+1 }
theorem Bl{p:eB}{s:RSp}{n:Nat}{c:Int}:s.run p n c=((eV p s n c).e,{(eV p s n c).s with au:=(eV p s n c).s.au++(eV p s n c).late }):=rfl
section
variable{P:Program}{W:World}{N:Nat}{Q:Exit→Act→World→Prop}{O:Array Oper}{L:List (Nat×Option Value)}{H K R:List aa}
theorem bP.to{ks σ:List Nat}{A:aa}{Bs:List aa}(e:aK H Bs R)(hA:∀ h,seps Bs h→A h)(h:bP P W N K O Q ks σ L (A::R)):bP P W N K O Q ks σ L H:=by
 unfold bP at h ⊢
 refine dT σ (fun E a w ⟨ha,hs⟩=>⟨ha,?_⟩) h
 refine hs.mono (aR (fun g hg=>?_) (fun _ x=>x))
 have h2:=e.ok g hg
 exact aR hA (fun _ x=>x) g h2
theorem af.Hb{α:Type}{enc:α→List Value}{k:Nat}{x y:Operand}{t t2 e e2 ty:TypeId}{pos:String}{after:Array Edge}{guard:Option (Nat×Bool)}{d:Nat}{v u:Value}{xs ys:List α}{i:TypeInfo}{z:Value}(hN:Nat.blt d N=true)
  (hu:P.underlying t=some (.slice e)) (hu2:P.underlying t2=some (.slice e2)) (hi:∀ w,(typeInfo e).run P w = .ok i w) (hz:i.zero=some z) (hk:i.size=k) (hzs:z.cells.size=k) (hb:1≤i.bytes∧i.bytes≤4096)
  (hx:ev L x=some v) (hy:ev L y=some u) (ht:Take H (sl enc k v xs) R) (hr:Rd W H enc k u ys) (hlen:xs.length+ys.length≤1073741824) (hone:∀ y∈ys, ∀ c∈enc y,c.oneCell'=true) :
  af P W N ⟨some d,.call ⟨.builtin .append, #[x,y], #[t,t2]⟩,ty,pos,after,guard⟩ L H (fun L1 H1=>∃ x:Option Addr×Nat×Nat,L1=(d,some (.slice x.1 x.2.1 x.2.2))::L∧H1=sl enc k (.slice x.1 x.2.1 x.2.2) (xs++ys)::R):=fun a w ha hs Kp hK=>by
 have hrd:=hr w hs
 rw[ht.seps] at hs
 obtain⟨v',w',h1,h2⟩:=rz (P:=P) (ty:=ty) hu hu2 hi hz hk hzs hb hs hrd hlen hone
 have hrun:(execOp a.eval ⟨some d,.call ⟨.builtin .append, #[x,y], #[t,t2]⟩,ty,pos,after,guard⟩).run P w = .ok (.value v') w':=by
  simp[execOp,resolve,invoke,builtin,ha.eval hx,ha.eval hy,h1]
 obtain⟨o,n,c,rfl⟩:∃ o n c,v' = .slice o n c:=by
  obtain⟨⟨o,c,hv,_⟩,_⟩:=(Rd.sl (W:=W) (enc:=enc) (k:=k) (v:=v') (xs:=xs++ys) (H:=sl enc k v' (xs++ys)::R) .here) w' h2
  exact⟨_,_,_,hv⟩
 unfold Oper.wp
 rw[hrun]
 simp only[Oper.upon]
 exact hK _ _ ⟨(o,n,c),rfl,rfl⟩ _ _ (ha.put (Nat.blt_eq.mp hN) _) h2
theorem bP.append{ks rest:List Nat}{j:Nat}{α:Type}{enc:α→List Value}{k:Nat}{x y:Operand}{t t2 e e2 ty:TypeId}{pos:String}{after:Array Edge}{d:Nat}{v u:Value}{xs ys:List α}{i:TypeInfo}{z:Value}
  (ho:O[j]?=some ⟨some d,.call ⟨.builtin .append, #[x,y], #[t,t2]⟩,ty,pos,after,none⟩) (hk:ks.getD j 1=2∨ks.getD j 1=3) (hN:Nat.blt d N=true) (hK:ks.getD j 1=2→ ∀ w,Sat W w (seps H)→Sat W w (seps K))
  (hu:P.underlying t=some (.slice e)) (hu2:P.underlying t2=some (.slice e2)) (hi:∀ w,(typeInfo e).run P w = .ok i w) (hz:i.zero=some z) (hk2:i.size=k) (hzs:z.cells.size=k) (hb:1≤i.bytes∧i.bytes≤4096)
  (hx:ev L x=some v) (hy:ev L y=some u) (ht:Take H (sl enc k v xs) R) (hr:Rd W H enc k u ys) (hlen:xs.length+ys.length≤1073741824) (hone:∀ y∈ys, ∀ c∈enc y,c.oneCell'=true)
  (hK':ks.getD j 1=2→ ∀ (q:Option Addr×Nat×Nat), ∀ w,Sat W w (seps (sl enc k (.slice q.1 q.2.1 q.2.2) (xs++ys)::R))→Sat W w (seps K)) (h:∀ (o:Option Addr) (n c:Nat),bP P W N K O Q ks rest ((d,some (.slice o n c))::L) (sl enc k (.slice o n c) (xs++ys)::R)):bP P W N K O Q ks (j::rest) L H :=
 bP.d (X:=Option Addr×Nat×Nat) (Lx:=fun q=>(d,some (.slice q.1 q.2.1 q.2.2))::L) (Hx:=fun q=>sl enc k (.slice q.1 q.2.1 q.2.2) (xs++ys)::R) ho rfl hk hK (fun E=>af.Hb hN hu hu2 hi hz hk2 hzs hb hx hy (ht.app E) (fun w s=>hr w (by rw[ah] at s;exact s.left)) hlen hone) hK' (fun q=>h q.1 q.2.1 q.2.2)
end
/-! looks -/
def RSp.seen(s:RSp)(n:Int):Bool:=decide (0≤n) && decide (n<16) && (s.t n.toNat).used
theorem fk.seen{k:Nat}{s:Spc}{r:RSp}(h:fk p0 s r)(hO:Ok k s [] []){n:Int}:r.seen n=(s.at n).isSome:=by
 unfold RSp.seen
 by_cases hn:0≤n∧n<16
 ·obtain⟨o,ho⟩:=aB (show n.toNat<s.thr.length by rw[hO.lt];omega)
  have e:s.at n=o:=by
   have:s.at ((n.toNat:Nat):Int)=(s.thr[n.toNat]?).getD none:=kX
   rw[show((n.toNat:Nat):Int)=n from by omega,ho] at this;exact this
  rw[e,decide_eq_true hn.1,decide_eq_true hn.2]
  cases o with
  | none=>rw[show(r.t n.toNat).used=false from h.no _ ho];rfl
  | some t=>rw[show(r.t n.toNat).used=true from(h.th _ t ho).us];rfl
 ·have e:s.at n=none:=by
   cases e:s.at n with
   | none=>rfl
   | some t=>obtain⟨h0,h1⟩:=fi e;have:=hO.lt ▸ (List.getElem?_eq_some_iff.1 h1).1;exact absurd ⟨h0,by omega⟩ hn
  rw[e]
  cases e:decide (0≤n) && decide (n<16) with
  | false=>rfl
  | true=>simp only[Bool.and_eq_true,decide_eq_true_eq] at e;exact absurd e hn
/-! a new space -/
def Bm(p:eB)(l:List Tub):RSp:=⟨fun _=>0,fun _=>Je,List.replicate p.words.toNat 0,List.replicate p.ay.toNat ⟨0,[]⟩,List.replicate p.conds.toNat [],p.aT,List.replicate p.aT.length [],l,List.replicate p.blocks.toNat 0,[],0,fun _=>0,[]⟩
theorem Hc{p:eB}:RSp.new p=((Bm p (p.aC.map fun r=>⟨r,[],[],[]⟩)).begin 0 0).2:=rfl
def Hd(v:bI)(vm vM vC vS vW vB:Value):List Value:=eg v++(ns (fun _=>0)++(dF (fun _=>Je)++([vm]++([vM]++([vC]++([vS]++([vW]++([.slice none 0 0]++([vB]++([.slice none 0 0]++([.int .i64 0]++(pV (fun _=>0)++[.slice none 0 0]))))))))))))
theorem He{b:Nat}{v:bI}{vm vM vC vS vW vB:Value}:∀ h,arr b 0 (Hd v vm vM vC vS vW vB) h→seps [arr b 0 (eg v),arr b 8 (ns fun _=>0),arr b 24 (dF fun _=>Je),arr b 312 [vm],arr b 313 [vM],arr b 314 [vC],arr b 315 [vS],arr b 316 [vW],arr b 317 [.slice none 0 0],arr b 318 [vB],arr b 319 [.slice none 0 0],arr b 320 [.int .i64 0],arr b 321 (pV fun _=>0),arr b 337 [.slice none 0 0]] h:=fun h a=>by
 have e1:(ns fun _=>0).length=16:=dr (k:=1) (fun _=>rfl) _ 16
 have e2:(dF fun _=>Je).length=288:=dr nt _ 16
 have e3:(pV fun _=>0).length=16:=dr (k:=1) (fun _=>rfl) _ 16
 unfold Hd at a
 rw[bQ,bQ,bQ,bQ,bQ,bQ,bQ,bQ,bQ,bQ,bQ,bQ,bQ,e1,e2,e3] at a
 simp only[seps,aO]
 exact a
theorem yz{α:Type}{f:α→aa}:∀ (l:List α),(∀ x∈l,f x=emp)→bb f l=emp
 | [],_=>rfl
 | x::l,h=>by rw[iM,h x List.mem_cons_self,fG,yz l (fun y hy=>h y (List.mem_cons_of_mem _ hy))]
section
variable{β γ:Type}{enc:γ×β→List Value}{k:Nat}{inner:γ×β→aa}{v:Value}{l:List β}
theorem wL{g:γ}{m:β}{n:Nat}(hi:inner (g,m)=emp):∀ h,seps [sl enc k v (List.replicate n (g,m))] h→eI enc k inner v (List.replicate n m) h:=fun h a=>by
 refine⟨List.replicate n (g,m),by simp,?_⟩
 show seps [sl enc k v (List.replicate n (g,m)),bb inner (List.replicate n (g,m))] h
 rw[yz _ (fun x hx=>by rw[(List.mem_replicate.1 hx).2];exact hi)]
 simpa only[seps,aO,fG] using a
theorem Fg{g:γ}{m:β}{xs:List (γ×β)}(hxs:xs.map (·.2)=l)(hi:inner (g,m)=emp):∀ h,seps [sl enc k v (xs++[(g,m)]),bb inner xs] h→eI enc k inner v (l++[m]) h:=fun h a=>by
 refine⟨xs++[(g,m)],by simp[hxs],?_⟩
 show seps [sl enc k v (xs++[(g,m)]),bb inner (xs++[(g,m)])] h
 rw[jX,hi,fG]
 exact a
theorem Hf:∀ h,seps [] h→eI enc k inner (.slice none 0 0) ([]:List β) h:=fun h a=>by
 refine⟨[],rfl,?_⟩
 show seps [sl enc k (.slice none 0 0) [],bb inner []] h
 rw[jK,Dr]
 simpa only[seps,aO,fG] using a
end
theorem Fh{α:Type}{enc:α→List Value}{k:Nat}:∀ h,seps [] h→sl enc k (.slice none 0 0) ([]:List α) h:=fun h a=>by rw[jK];exact a
theorem Hg:eh ((.slice none 0 0:Value),(⟨0,[]⟩:gg))=emp:=jK _ _
theorem Hh:lC ((.slice none 0 0:Value),([]:List dc))=emp:=jK _ _
theorem Hi:jQ ((.slice none 0 0:Value),([]:List Int))=emp:=jK _ _
theorem Hj{r:Int}:dP (((.slice none 0 0:Value),(.slice none 0 0:Value),(.slice none 0 0:Value)),(⟨r,[],[],[]⟩:Tub))=emp:=by
 show seps [sl cM 1 (.slice none 0 0) [],sl eO 2 (.slice none 0 0) [],sl aP 1 (.slice none 0 0) []]=emp
 rw[jK,jK,jK];simp only[seps,aO]
def qP(r:Int):Tub:=⟨r,[],[],[]⟩
theorem Fi{l:List Int}{k:Nat}{x:Int}(h:l[k]?=some x):(l.take k).map qP++[qP x]=(l.take (k+1)).map qP:=by rw[cx h,List.map_append];rfl
end Go.SLYtefdijgllbkmfaaGreat
namespace Go.SLYtefdijgllbkmfaaGreat
open Go Go.RowKit Go.Proofs Go.Proofs.Tryz
attribute [local irreducible] ax aS bo bY bP Y
set_option maxHeartbeats 1000000 in
theorem Hk{W:World}{A:aa}{b:Nat}{v:RV}{s:RSp}{n:Nat}{choice:Int}(hp:eD W [A] v.p)(hr:Ff v.p.p s n)(hg:(s.run v.p.p n choice).2.au.length≤900000000):Fn Tryz.prog W 41 [ptr b,.int .i64 (n:Int),.int .i64 choice] [cp b v s,A] Value (fun u=>.agg (xy u (s.run v.p.p n choice).1).toArray) (fun _=>True) (fun u=>[sl aP 1 u (s.run v.p.p n choice).1.aL,cp b v (s.run v.p.p n choice).2,A]):=by
 refine Fn.intro (N:=67) func41 rfl ntmps41 rfl fun F=>?_
 show ax _ _ _ _ _ _ [cp b v s,A,F]
 have hn:=hr.lt
 obtain⟨hfs,hfn,hfl⟩:=hr.fs
 have hpc:=hr.c
 have hrr:=hr.r
 rw[Bl] at hg
 have hg:((eV v.p.p s n choice).s.au++(eV v.p.p s n choice).late).length≤900000000:=hg
 rw[List.length_append] at hg
 refine J 2 ?_
 refine .aw rfl (af.alloc rfl zeroValue96 rfl) ?_
 rintro _ _ ⟨b6,rfl,rfl⟩
 refine J 6 ?_
 refine .c call87 rfl (E0 hp hn (by omega) hfn hpc hfl) fun _ _=>?_
 refine J 1 ?_
 refine .p (.extract (v:=.agg (dC ((gy v.p.p (s.t n)).getD Ins.z)).toArray) rfl rfl) ?_
 refine .p (.extract (v:=.bool (gy v.p.p (s.t n)).isSome) rfl rfl) ?_
 refine .aw rfl (af.alloc rfl zeroValue131 rfl) ?_
 rintro _ _ ⟨b7,rfl,rfl⟩
 refine J 8 ?_
 refine .p (.la rfl (Cells.a (cs:=dC ((gy v.p.p (s.t n)).getD Ins.z)))) ?_
 refine .p (.F0 (fun _ _ _=>lf b (qO s n ((gy v.p.p (s.t n)).getD Ins.z)) (.slice none 0 0) (.slice none 0 0)) rfl rfl rfl (by kernel_rfl)) ?_
 refine .aw rfl (af.box rfl rfl rfl) ?_
 rintro _ _ ⟨b20,rfl,rfl⟩
 refine J 3 ?_
 refine .mX (X:=Unit) [21,22,23,24,25,26,27,28,29,30,31,32,33,34,35,36,37,38,39,40,41,42,43,44,45,46,47,48,49,50] (fun _=>True) (fun _=>[]) (fun _=>[cA b20 b v (eV v.p.p s n choice),arr b6 0 (xy (.slice none 0 0) iY.z),A,F]) ?_ ?_
 ·refine JD 6 (fun h22=>?_) fun h22=>?_
  ·have hq:gy v.p.p (s.t n)=none:=Option.isNone_iff_eq_none.mp (by simpa using h22)
   refine J 3 ?_
   refine .p (.iv (fun v1=>[v1,(.int .i64 0),(.int .i64 0),(.int .i64 0),(.int .u64 0)]) rfl (by kernel_rfl)) ?_
   refine J 2 ?_
   refine .aw rfl (af.JT (by exact sizeOf131) rfl rfl rfl rfl) ?_
   rintro _ _ ⟨rfl,rfl⟩
   refine J 5 ?_
   refine .to (A:=cA b20 b v (qO s n ⟨23,0,0,0,0⟩)) (Bs:=[arr b20 0 (lf b (qO s n ⟨23,0,0,0,0⟩) (.slice none 0 0) (.slice none 0 0)),cp b v (qO s n ⟨23,0,0,0,0⟩).s]) .auto (zP rfl rfl) ?_
   refine .c call88 rfl (lg (a:=(qO s n ⟨23,0,0,0,0⟩)) (x:=0) (y:=0) (e:=0) (fin:=true) hn (by show s.au.length≤_;omega)) fun _ _=>?_
   refine J 4 ?_
   refine .c call89 rfl (wD (a:=(qO s n ⟨23,0,0,0,0⟩).say 0 0 0 true) (x:=0) hn hr.T (Nat.zero_le _) (Nat.zero_le _)) fun _ _=>?_
   refine J 1 ?_
   refine .eK () .auto ?_ ?_ ?_
   ·trivial
   ·exact trivial
   ·rw[uL hq];exact fun w s=>aK.kept .auto w s
  ·obtain⟨i,hq⟩:∃ i,gy v.p.p (s.t n)=some i:=Option.isSome_iff_exists.mp (by simpa using h22)
   rw[show((gy v.p.p (s.t n)).getD Ins.z)=i from by rw[hq];rfl]
   have hI:=hr.I i hq
   refine JD 7 (fun h33=>?_) fun h33=>?_
   ·refine J 2 ?_
    refine .to (A:=cA b20 b v (qO s n i)) (Bs:=[arr b20 0 (lf b (qO s n i) (.slice none 0 0) (.slice none 0 0)),cp b v (qO s n i).s]) .auto (zP rfl rfl) ?_
    refine .c call90 rfl (Co (a:=(qO s n i)) hn hr.T (Nat.zero_le _) (Nat.zero_le _) (by show s.au.length≤_;omega) hI (by show(s.thr n).pc≤_;omega) hr.m) fun _ _=>?_
    refine J 1 ?_
    refine .eK () .auto ?_ ?_ ?_
    ·trivial
    ·exact trivial
    ·rw[sN hq h33];exact fun w s=>aK.kept .auto w s
   ·refine .fr (A:=cp b v s) .auto bB ?_
    refine J 1 ?_
    refine .draw [arr b20 0 (lf b (qO s n i) (.slice none 0 0) (.slice none 0 0))] [1,1,1,1,1,1,1,1,1,1,1,1,3] rfl (by kernel_rfl) ?_
    refine J 4 ?_
    refine .p (.aF n underlying54 sizeOf53 rfl rfl rfl (by omega)) ?_
    refine J 1 ?_
    refine .p (.ld rfl (Cell.t (by first | omega | exact hn) rfl)) ?_
    refine .p (.add rfl rfl (by omega)) ?_
    refine J 2 ?_
    refine .p (.aF n underlying54 sizeOf53 rfl rfl rfl (by omega)) ?_
    refine J 1 ?_
    refine .d3 rfl (af.Kw sizeOf3 rfl rfl (by first | omega | exact hn)) ?_
    rintro _ _ ⟨rfl,rfl⟩
    refine J 5 ?_
    refine .to (A:=cA b20 b v (Ha s n i)) (Bs:=[arr b20 0 (lf b (Ha s n i) (.slice none 0 0) (.slice none 0 0)),cp b v (Ha s n i).s]) .auto (zP rfl rfl) ?_
    refine .c call91 rfl (EY (a:=(Ha s n i)) (choice:=choice) (hr.C i hq h33)) fun _ _=>?_
    refine J 1 ?_
    refine .eK () .auto ?_ ?_ ?_
    ·trivial
    ·exact trivial
    ·rw[uM hq h33];exact fun w s=>aK.kept .auto w s
 ·rintro⟨⟩ -
  obtain⟨a,ha⟩:∃ a,a=(eV v.p.p s n choice):=⟨_,rfl⟩
  rw[← ha] at hg
  rw[Bl, ← ha]
  refine .o2 (C:=cA b20 b v (a)) .auto rfl ?_
  rintro vw vl -
  refine .fr (A:=cp b v (a).s) .auto bB ?_
  refine .o1 (C:=jl dp 6 b 337 a.s.au) .auto rfl ?_
  rintro vr -
  refine J 1 ?_
  refine .draw [arr b20 0 (lf b a vw vl)] [0,1,1,1,1,1,1,1,1,2,1,1,3] rfl (by kernel_rfl) ?_
  refine J 9 ?_
  refine .d2 rfl Kept.auto (af.append rfl underlying49 underlying49 typeInfo101 rfl rfl rfl (by decide) rfl rfl .auto Rd.s (by omega) (rJ _)) (by rintro _ _ ⟨v60,rfl,rfl⟩;exact Kept.auto) ?_
  rintro _ _ ⟨v60,rfl,rfl⟩
  refine J 2 ?_
  refine .d3 rfl (af.m6 sizeOf49 rfl rfl rfl) ?_
  rintro _ _ ⟨rfl,rfl⟩
  refine J 7 ?_
  refine .p (.la rfl (Cells.lG (ds:=xy vw a.e) (Cells.a (cs:=lf b a vw vl)) rfl)) ?_
  refine .aw rfl (af.DW (vs:=[.bool a.e.bA,.bool a.e.ended,.bool a.e.yielded]) (by exact sizeOf96) rfl rfl rfl rfl) ?_
  rintro _ _ ⟨rfl,rfl⟩
  refine J 3 ?_
  refine .fp rfl rfl isAgg96 (by exact sizeOf96) Cells.a fun w s=>⟨vw,?_,trivial,aq .auto s⟩
  rfl
set_option maxHeartbeats 1000000 in
theorem Hl{W:World}{A:aa}{v:bI}(hp:eD W [A] v)(hc:ei v.p=true):Fn Tryz.prog W 12 [.agg (eg v).toArray] [A] (Nat×Value) (fun x=>ptr x.1) (fun _=>True) (fun x=>[cp x.1 ⟨v,x.2⟩ (RSp.new v.p),A]):=by
 refine Fn.intro (N:=53) func12 rfl ntmps12 rfl fun F=>?_
 haveI hI1:∀ (H:List aa) [cf H A],aJ W H v.fv cj 1 v.fs:=fun H h=>⟨hp.fs.at h.has⟩
 haveI hI2:∀ (H:List aa) [cf H A],aJ W H v.sv aP 1 v.aT:=fun H h=>⟨hp.aT.at h.has⟩
 haveI hI3:∀ (H:List aa) [cf H A],aJ W H v.pv aP 1 v.aC:=fun H h=>⟨hp.aC.at h.has⟩
 show ax _ _ _ _ _ _ [A,F]
 have hcs:=nT hc
 have hw:0≤v.words∧v.words≤64:=hcs.2.2.1
 have hm:0≤v.ay∧v.ay≤4:=hcs.2.2.2.1
 have hcn:0≤v.conds∧v.conds≤4:=hcs.2.2.2.2.1
 have hbl:0≤v.blocks∧v.blocks≤64:=hcs.2.2.2.2.2.1
 have hsl:v.aT.length≤4:=hcs.2.2.2.2.2.2.2.1
 have hpl:v.aC.length≤4:=hcs.2.2.2.2.2.2.2.2.1
 refine J 2 ?_
 refine .aw rfl (af.box rfl rfl rfl) ?_
 rintro _ _ ⟨b1,rfl,rfl⟩
 refine J 4 ?_
 refine .w9 [arr b1 0 (eg v),A] [0,0,0,4,0,0,4,0,0,4,4,0,0,2,0,0,0,4,0,0,4,0,4,0] [0,1,2,4,5,7,8,11,12,14,15,16,18,19,10,13,3,6,9,17,20,21,22,23] rfl (by kernel_rfl) ?_
 refine bP.q rfl rfl rfl Kept.auto (Y.FP isAgg25 rfl Cells.a (by exact sizeOf25)) ?_
 refine bP.q rfl rfl rfl Kept.auto (Y.cY 1 3 underlying25 rfl sizeOf3 rfl) ?_
 refine bP.q rfl rfl rfl Kept.auto (Y.load isAgg3 rfl (Cell.a (by rfl))) ?_
 refine bP.q rfl rfl rfl Kept.auto (Y.cY 2 3 underlying25 rfl sizeOf3 rfl) ?_
 refine bP.q rfl rfl rfl Kept.auto (Y.load isAgg3 rfl (Cell.a (by rfl))) ?_
 refine bP.q rfl rfl rfl Kept.auto (Y.cY 3 3 underlying25 rfl sizeOf3 rfl) ?_
 refine bP.q rfl rfl rfl Kept.auto (Y.load isAgg3 rfl (Cell.a (by rfl))) ?_
 refine bP.q rfl rfl rfl Kept.auto (Y.cY 4 23 underlying25 rfl sizeOf23 rfl) ?_
 refine bP.q rfl rfl rfl Kept.auto (Y.load isAgg23 rfl (Cell.a (by rfl))) ?_
 refine bP.q rfl rfl rfl Kept.auto (Y.cY 4 23 underlying25 rfl sizeOf23 rfl) ?_
 refine bP.q rfl rfl rfl Kept.auto (Y.load isAgg23 rfl (Cell.a (by rfl))) ?_
 refine bP.q rfl rfl rfl Kept.auto (Y.Db underlying23 rfl Rd.s) ?_
 refine bP.q rfl rfl rfl Kept.auto (Y.cY 6 3 underlying25 rfl sizeOf3 rfl) ?_
 refine bP.q rfl rfl rfl Kept.auto (Y.load isAgg3 rfl (Cell.a (by rfl))) ?_
 refine bP.fresh rfl rfl rfl (by decide) Kept.auto (BA 3 rfl (by kernel_rfl)) ?_
 rintro b15
 refine bP.to (A:=sl aP 1 (.slice (some ⟨b15,0,none⟩) 0 0) ([]:List Int)) (Bs:=[]) .nil (fun h e=>.inl ⟨⟨_,rfl⟩,rfl,e⟩) ?_
 refine bP.append rfl (.inl rfl) rfl (fun h=>Kept.auto) underlying23 underlying23 typeInfo3 rfl rfl rfl (by decide) rfl rfl .auto Rd.s (by simp only[List.length_nil];omega) (nQ _) (fun h _=>Kept.auto) ?_
 rintro o18 n18 c18
 refine bP.fresh rfl rfl rfl (by decide) Kept.auto (ft (enc:=cM) (k:=1) 0 v.words.toNat underlying55 typeInfo38 rfl rfl rfl rfl (by decide) (by decide) rfl rfl (by omega) (by omega) (by omega)) ?_
 rintro b8
 refine bP.fresh rfl rfl rfl (by decide) Kept.auto (ft (enc:=ed) (k:=2) ((Value.slice none 0 0:Value),(⟨0,[]⟩:gg)) v.ay.toNat underlying56 typeInfo287 rfl rfl rfl rfl (by decide) (by decide) rfl rfl (by omega) (by omega) (by omega)) ?_
 rintro b11
 refine bP.fresh rfl rfl rfl (by decide) Kept.auto (ft (enc:=cj) (k:=1) ((Value.slice none 0 0:Value),([]:List dc)) v.conds.toNat underlying57 typeInfo288 rfl rfl rfl rfl (by decide) (by decide) rfl rfl (by omega) (by omega) (by omega)) ?_
 rintro b14
 refine bP.fresh rfl rfl rfl (by decide) Kept.auto (ft (enc:=cj) (k:=1) ((Value.slice none 0 0:Value),([]:List Int)) v.aT.length underlying58 typeInfo23 rfl rfl rfl rfl (by decide) (by decide) rfl rfl (by omega) (by omega) (by omega)) ?_
 rintro b22
 refine bP.fresh rfl rfl rfl (by decide) Kept.auto (ft (enc:=cM) (k:=1) 0 v.blocks.toNat underlying55 typeInfo38 rfl rfl rfl rfl (by decide) (by decide) rfl rfl (by omega) (by omega) (by omega)) ?_
 rintro b25
 refine bP.q rfl rfl rfl Kept.auto (Y.K4 (fun _ v3 v4 v5 v6 v7 v9=>Hd v v3 v4 v5 v6 v7 v9) rfl rfl rfl rfl rfl rfl rfl (by kernel_rfl)) ?_
 refine bP.fresh rfl rfl rfl (by decide) Kept.auto (pD rfl rfl) ?_
 rintro b27
 refine bP.q rfl rfl rfl Kept.auto (Y.a rfl) ?_
 refine bP.nil ?_
 refine J 8 ?_
 refine .fr (A:=arr b27 0 (Hd v (.slice (some ⟨b8,0,none⟩) v.words.toNat v.words.toNat) (.slice (some ⟨b11,0,none⟩) v.ay.toNat v.ay.toNat) (.slice (some ⟨b14,0,none⟩) v.conds.toNat v.conds.toNat) (.slice o18 n18 c18) (.slice (some ⟨b22,0,none⟩) v.aT.length v.aT.length) (.slice (some ⟨b25,0,none⟩) v.blocks.toNat v.blocks.toNat))) .auto He ?_
 rw[List.nil_append]
 refine .to (A:=sl cM 1 (.slice (some ⟨b8,0,none⟩) v.words.toNat v.words.toNat) (List.replicate v.words.toNat 0)) .auto (jC rfl) ?_
 refine .to (A:=sl ed 2 (.slice (some ⟨b11,0,none⟩) v.ay.toNat v.ay.toNat) (List.replicate v.ay.toNat ((Value.slice none 0 0:Value),(⟨0,[]⟩:gg)))) .auto (jC rfl) ?_
 refine .to (A:=sl cj 1 (.slice (some ⟨b14,0,none⟩) v.conds.toNat v.conds.toNat) (List.replicate v.conds.toNat ((Value.slice none 0 0:Value),([]:List dc)))) .auto (jC rfl) ?_
 refine .to (A:=sl cj 1 (.slice (some ⟨b22,0,none⟩) v.aT.length v.aT.length) (List.replicate v.aT.length ((Value.slice none 0 0:Value),([]:List Int)))) .auto (jC rfl) ?_
 refine .to (A:=sl cM 1 (.slice (some ⟨b25,0,none⟩) v.blocks.toNat v.blocks.toNat) (List.replicate v.blocks.toNat 0)) .auto (jC rfl) ?_
 refine .to (A:=eI ed 2 eh (.slice (some ⟨b11,0,none⟩) v.ay.toNat v.ay.toNat) (List.replicate v.ay.toNat ⟨0,[]⟩)) .auto (wL Hg) ?_
 refine .to (A:=eI cj 1 lC (.slice (some ⟨b14,0,none⟩) v.conds.toNat v.conds.toNat) (List.replicate v.conds.toNat [])) .auto (wL Hh) ?_
 refine .to (A:=eI cj 1 jQ (.slice (some ⟨b22,0,none⟩) v.aT.length v.aT.length) (List.replicate v.aT.length [])) .auto (wL Hi) ?_
 refine .to (A:=eI dO 4 dP (.slice none 0 0) []) (Bs:=[]) .nil Hf ?_
 refine .to (A:=sl dY 4 (.slice none 0 0) []) (Bs:=[]) .nil Fh ?_
 refine .to (A:=sl dp 6 (.slice none 0 0) []) (Bs:=[]) .nil Fh ?_
 refine .da (X:=Nat×Value) [4,28,29,30,31,32,33,34,35,36,37,38,39,40,41,42,43,44,45,46,47,48,49] (fun z=>v.aC.length-z.1) (fun z=>z.1≤v.aC.length) (fun z=>[(4,some (.int .i64 (z.1:Int)))]) (fun z=>[cp b27 ⟨v,z.2⟩ (Bm v.p ((v.aC.take z.1).map qP)),arr b1 0 (eg v),A,F]) (0,.slice none 0 0) ?_ ?_ ?_ ?_
 ·exact Nat.zero_le _
 ·exact⟨rfl,trivial⟩
 ·exact fun w s=>aK.kept .auto w s
 rintro⟨k,u⟩ hk
 simp only at hk
 have htl:((v.aC.take k).map qP).length≤4:=by rw[List.length_map,List.length_take];omega
 refine JD 10 (fun h32=>?_) fun h32=>?_
 ·refine .fr (A:=cp b27 ⟨v,u⟩ (Bm v.p (((v.aC.take k).map qP)))) .auto bB ?_
  refine .o1 (C:=eI dO 4 dP u ((v.aC.take k).map qP)) .auto rfl ?_
  rintro xs hxs
  have hxl:xs.length≤4:=by rw[← List.length_map (f:=(·.2)),hxs];exact htl
  refine J 4 ?_
  refine .draw [arr b27 317 [u],arr b1 0 (eg v),A] [0,0,0,0,0,1,1,1,1,1,1,2,2,1,1,3] rfl (by kernel_rfl) ?_
  refine J 8 ?_
  obtain⟨x,hx⟩:=aB (show k<v.aC.length by omega)
  refine .p (.ix k rfl rfl rfl (by omega)) ?_
  refine J 1 ?_
  refine .p (.iv (fun v1=>[v1,(.slice none 0 0),(.slice none 0 0),(.slice none 0 0)]) rfl (by kernel_rfl)) ?_
  refine .d2 rfl Kept.auto (af.gN 140 rfl rfl (by kernel_rfl)) (by rintro _ _ ⟨b46,rfl,rfl⟩;exact Kept.auto) ?_
  rintro _ _ ⟨b46,rfl,rfl⟩
  refine .d2 rfl Kept.auto (af.fb (enc:=dO) (k:=4) (((Value.slice none 0 0:Value),(Value.slice none 0 0:Value),(Value.slice none 0 0:Value)),qP x) rfl underlying59 underlying59 typeInfo140 rfl rfl rfl (by decide) rfl rfl rfl .auto rfl .auto (by omega) rfl) (by rintro _ _ ⟨v47,rfl,rfl⟩;exact Kept.auto) ?_
  rintro _ _ ⟨v47,rfl,rfl⟩
  refine J 2 ?_
  refine .d3 rfl (af.m6 sizeOf59 rfl rfl rfl) ?_
  rintro _ _ ⟨rfl,rfl⟩
  refine J 8 ?_
  refine .to (A:=eI dO 4 dP v47 (((v.aC.take k).map qP)++[qP x])) (Bs:=[sl dO 4 v47 (xs++[(((Value.slice none 0 0:Value),(Value.slice none 0 0:Value),(Value.slice none 0 0:Value)),qP x)]),bb dP xs]) .auto (Fg hxs Hj) ?_
  rw[Fi hx]
  refine .bq (k+1,v47) .auto rfl ?_ ?_ ?_ ?_
  ·show v.aC.length-(k+1)<v.aC.length-k;omega
  ·show k+1≤_;omega
  ·exact⟨rfl,trivial⟩
  ·exact fun w s=>aK.kept .auto w s
 ·refine J 8 ?_
  obtain rfl:k=v.aC.length:=by omega
  rw[List.take_length]
  refine .c call68 rfl (uv (b:=b27) (v:=⟨v,u⟩) (s:=(Bm v.p (v.aC.map qP))) (f:=0) (arg:=0)) fun _ _=>?_
  refine J 9 ?_
  rw[Hc]
  refine .aI rfl rfl fun w s=>⟨(b27,u),?_,trivial,aq .auto s⟩
  rfl
end Go.SLYtefdijgllbkmfaaGreat
