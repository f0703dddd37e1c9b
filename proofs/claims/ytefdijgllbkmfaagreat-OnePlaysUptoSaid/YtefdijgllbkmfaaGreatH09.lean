/- Walks of functions, and what they compute. Conditions: none, this text proves no statement. -/
import Derived.Test.YtefdijgllbkmfaaGreatH08
import Derived.Test.YtefdijgllbkmfaaGreatH03
import Derived.MapKept
import Derived.Laws.NewFold
namespace Go.SLYtefdijgllbkmfaaGreat
open Go Go.RowKit
variable{p0:eZ}
theorem K9{s:Spc}{w:Int}(h:kZ (fun m:dB=>dp w m.wait) s.ag.aF=0):nG s w:=fun x hx y hy e=>by
 have h1:=dj (f:=fun m:dB=>dp w m.wait) hx
 have h2:0<dp w x.wait:=List.countP_pos_iff.2 ⟨y,hy,by simp[EI,e]⟩
 omega
theorem CU{w:Int}{l:List dh}:(l.map (·.who)).count w=dp w l:=by
 unfold dp List.count;rw[List.countP_map];rfl
theorem RA.lk{a:RA}{u:RT}:(a.aj u).t=u:=dF
theorem RA.fU{a:RA}{u v:RT}:(a.aj u).aj v=a.aj v:=by
 unfold RA.aj RSp.aj;simp only[oZ]
theorem RA.rj{a:RA}:a.aj a.t=a:=by
 unfold RA.aj RSp.aj RA.t RSp.t;simp only[Fm]
theorem RA.FB{a:RA}{u:RT}(h:u.handle=a.t.handle){x y e:Int}{f:Bool}:(a.aj u).say x y e f=(a.say x y e f).aj u:=by
 unfold RA.say;rw[RA.lk,h];rfl
theorem jw.pc{L:Nat}{t:bo}{u:RT}(h:jw L t u){x y:Int}(e:y=x):jw L {t with pc:=x } {u with pc:=y }:=⟨h.us,h.h,h.w,h.f,e,h.r,h.v,h.d,h.j,h.o,h.i,h.fl⟩
theorem w8.pc{u:RT}(h:w8 u){x:Int}(hx:0≤x∧x≤1000000):w8 {u with pc:=x }:=⟨h.r,h.i,h.j,hx,h.v⟩
section
variable{k:Nat}{s0:Spc}{d:Dng}{t:bo}{a:RA}
theorem aW.ra(h:aW p0 d a)(S:St k s0 d t):a.t.eX a.i.a=d.a:=by rw[h.i,(h.th S.ht).eX S.I.a];unfold Dng.a;rw[ck S.ht]
theorem aW.rb(h:aW p0 d a)(S:St k s0 d t):a.t.eX a.i.b=d.b:=by rw[h.i,(h.th S.ht).eX S.I.b];unfold Dng.b;rw[ck S.ht]
/-! signals -/
theorem z6{g:Gates}{c ch op:Int}{row:List dh}(hg:cE g.bn c=some row)(hop:op=28∨op=29){a:RA}(ha:a.i.op=op) :
  g.signal c ch (decide (op=29))=((sigRun (ft a row ch) g.aF []).2,0,{g with aF:=(sigRun (ft a row ch) g.aF []).1,bn:=g.bn.set c.toNat (pe a row ch) }):=by
 unfold Gates.signal
 rw[hg]
 simp only
 rcases hop with rfl | rfl
 ·rw[if_neg (by decide),if_neg (by decide)]
  by_cases e:0<row.length
  ·have h1:ft a row ch=[row.getD (pick ch row.length) ⟨0,0⟩]:=by unfold ft;rw[if_pos ⟨ha,e⟩]
   have h2:pe a row ch=row.eraseIdx (pick ch row.length):=by unfold pe;rw[if_pos ⟨ha,e⟩]
   rw[show min row.length 1=1 from by omega,yF e,h1,h2]
  ·have h0:row=[]:=List.eq_nil_of_length_eq_zero (by omega)
   subst h0
   have h1:ft a [] ch=[]:=by unfold ft;split <;> simp_all
   have h2:pe a [] ch=[]:=by unfold pe;split <;> simp_all
   rw[h1,h2];rfl
 ·rw[if_pos (by decide),if_pos (by decide),qI]
  have h1:ft a row ch=row:=by unfold ft;rw[if_neg (by rw[ha];rintro⟨h,_⟩;exact absurd h (by decide))]
  have h2:pe a row ch=[]:=by unfold pe;rw[if_neg (by rw[ha];rintro⟨h,_⟩;exact absurd h (by decide))]
  rw[h1,h2]
theorem FC{a:RA}{row:List dh}{ch:Int}{w:dh}(h:w∈ft a row ch):w∈row:=by
 unfold ft at h
 split at h
 ·rename_i hc
  rw[List.mem_singleton] at h;subst h
  exact List.mem_of_getElem? (getD_some (fc hc.2))
 ·exact h
theorem aW.signal(S:St k s0 d t)(h:aW p0 d a){c:Int}(hc:c=d.choice)(hop:d.i.op=28∨d.i.op=29)(h1:d.i.n<(d.s.ag.bn.length:Int)) :
  aW p0 (((d.aZ (d.s.ag.signal d.i.n d.choice (decide (d.i.op=29))).2.2).pass d.i.n 0 (d.s.ag.signal d.i.n d.choice (decide (d.i.op=29))).2.1).j8 (d.s.ag.signal d.i.n d.choice (decide (d.i.op=29))).1) (a.signal d.i.n.toNat c):=by
 subst hc
 have hIn:=S.I.n
 obtain⟨row,hr,hg⟩:=cp (l:=d.s.ag.bn) (i:=d.i.n) ⟨hIn.1,h1⟩
 have hrm:=List.mem_of_getElem? hr
 have hsc:=(xU (c:=d.i.n) (ch:=d.choice) (all:=decide (d.i.op=29)) S.h.ok.gt).2
 rw[z6 hg hop (a:=a) (by rw[h.i])] at hsc ⊢
 simp only at hsc ⊢
 rw[uF,h.s.cd,bI hr]
 have hcnt:∀ w∈row,1≤kZ (dp w.who) d.s.ag.bn:=fun w hw=>by
  have e1:=dj (f:=dp w.who) hrm
  have e2:0<dp w.who row:=List.countP_pos_iff.2 ⟨w,hw,by simp[EI]⟩
  omega
 have hlive:∀ w∈row,Wt d.s w:=fun w hw=>by
  have e1:=hcnt w hw
  obtain⟨b0,b1,u,b2,b3⟩:=S.live (w:=w.who) (by unfold gN cG;omega)
  have e2:=S.one w.who
  have e3:=S.h.ok.gt.cm row hrm w hw
  exact⟨by omega,b0,⟨u,b2,b3⟩,K9 (by unfold gN cG at e2;omega)⟩
 have hne:∀ w∈row,w.who.toNat≠d.n:=fun w hw=>by
  have e1:=hcnt w hw
  exact(S.live (w:=w.who) (by unfold gN cG;omega)).2.1
 have hO:∀ w∈ft a row d.choice,w∈row:=fun w hw=>FC hw
 have hnd:((ft a row d.choice).map (·.who)).Nodup:=by
  have hrow:(row.map (·.who)).Nodup:=List.nodup_iff_count.2 (fun w=>by
   rw[CU]
   have e1:=dj (f:=dp w) hrm
   have e2:=S.one w
   unfold gN cG at e2;omega)
  unfold ft;split
  ·simp
  ·exact hrow
 generalize hout:ft a row d.choice=out at *
 generalize hrest:pe a row d.choice=rest at *
 have hA:aW p0 ((d.aZ {d.s.ag with bn:=d.s.ag.bn.set d.i.n.toNat rest }).pass d.i.n 0 0) (mT a d.i.n.toNat d.choice):=by
  have h2:=(h.bn (l:=d.s.ag.bn.set d.i.n.toNat rest)).pass (t:=t) (x:=d.i.n) (y:=0) (e:=0) S.ht (by decide)
  have e:mT a d.i.n.toNat d.choice=(a.w {a.s with bn:=d.s.ag.bn.set d.i.n.toNat rest }).done d.i.n 0 0:=by
   unfold mT;rw[h.s.cd,bI hr,hrest,h.i];rfl
  rw[e];exact h2
 have hT:∀ {m:Nat} {u:bo},m≠d.n→d.s.thr[m]?=some (some u)→((d.aZ {d.s.ag with bn:=d.s.ag.bn.set d.i.n.toNat rest }).pass d.i.n 0 0).s.thr[m]?=some (some u):=fun hm hu=>by
  unfold Dng.pass
  exact cr (s:=((d.aZ _).tell _ _ _ _).s) hu (Ne.symm hm)
 have hWt:∀ w∈out,Wt ((d.aZ {d.s.ag with bn:=d.s.ag.bn.set d.i.n.toNat rest }).pass d.i.n 0 0).s w:=fun w hw=>by
  have e:=hlive w (hO w hw)
  obtain⟨u,hu,hi⟩:=e.l
  exact⟨e.m,e.o,⟨u,hT (hne w (hO w hw)) hu,hi⟩,e.n⟩
 have h3:=aW.sigs out hA hWt hnd
 refine Eq.mp ?_ h3
 congr 1
 have hml:=S.h.ok.gt.m
 have hlen:(sigRun out d.s.ag.aF []).1.length=d.s.dK.aB.toNat:=BD.trans hml
 have hWin:∀ w,w∈((sigRun out d.s.ag.aF []).1.take d.s.dK.aB.toNat).flatMap (fun m=>m.wait.map (·.who))↔qJ (sigRun out d.s.ag.aF []).1 w:=fun w=>by
  rw[List.take_of_length_le (by omega),List.mem_flatMap]
  exact⟨fun⟨x,hx,hw⟩=>by obtain⟨y,hy,e⟩:=List.mem_map.1 hw;exact⟨x,hx,y,hy,e⟩,fun⟨x,hx,y,hy,e⟩=>⟨x,hx,List.mem_map.2 ⟨y,hy,e⟩⟩⟩
 refine(wP out _ (((sigRun out d.s.ag.aF []).1.take d.s.dK.aB.toNat).flatMap (fun m=>m.wait.map (·.who))) hWt hnd (fun w hw=>?_) (fun w hw=>?_) (fun w hw hin=>?_) (fun w hw=>?_)).trans rfl
 ·rcases zZ ((hWin w).1 hw) with ⟨x,hx,y,hy,e⟩ | ⟨z,hz,e⟩
  ·obtain⟨u,hu,_⟩:=h.s.mw x hx y hy
   rw[← e];exact(fa hu).1
  ·rw[← e];exact(hlive z (hO z hz)).o
 ·rcases FA (l:=out) (ms:=d.s.ag.aF) (fun w hw=>(hlive w (hO w hw)).m) w hw with e | e
  ·exact .inl e
  ·exact .inr ((hWin _).2 e)
 ·have e1:=hsc w
  have e2:0<(sigRun out d.s.ag.aF []).2.count w:=List.count_pos_iff.2 hw
  have e3:=S.one w
  unfold gN at e3
  have e4:=mm (s:={d.s with ag:={d.s.ag with aF:=(sigRun out d.s.ag.aF []).1,bn:=d.s.ag.bn.set d.i.n.toNat rest } }) (w:=w) (by simp only;omega)
  obtain⟨x,hx,y,hy,e⟩:=(hWin w).1 hin
  exact e4 x hx y hy e
 ·rcases zZ ((hWin w).1 hw) with ⟨x,hx,y,hy,e⟩ | ⟨z,hz,e⟩
  ·obtain⟨u,hu,hw1⟩:=h.s.mw x hx y hy
   rw[e] at hu
   obtain⟨c0,c1⟩:=fa hu
   refine .inl ⟨u,hT (fun e=>?_) c1,hw1⟩
   rw[e,S.ht] at c1;cases c1;rw[S.hw] at hw1;cases hw1
  ·exact .inr ⟨z,hz,e⟩
/-! pipes, the disk, sleep -/
theorem sV{l:List (Int×Int)}{n v m:Int}:cF (mapSet l n v) m=if m=n then some v else cF l m:=by
 induction l with
 | nil =>
  unfold mapSet cF
  by_cases e:m=n
  ·subst e;simp
  ·rw[if_neg e];simp;exact fun h=>e h.symm
 | cons p l ih =>
  unfold mapSet
  by_cases e:p.1=n
  ·rw[if_pos e]
   unfold cF
   by_cases e2:m=n
   ·subst e2;simp
   ·rw[if_neg e2,List.find?_cons_of_neg (by simp only[decide_eq_true_eq];exact fun h=>e2 h.symm),List.find?_cons_of_neg (by simp only[decide_eq_true_eq];exact fun h=>e2 (h.symm.trans e))]
  ·rw[if_neg e]
   unfold cF at ih ⊢
   by_cases e2:p.1=m
   ·rw[List.find?_cons_of_pos (by simpa using e2),List.find?_cons_of_pos (by simpa using e2),if_neg (fun h=>e (e2.trans h))]
   ·rw[List.find?_cons_of_neg (by simpa using e2),List.find?_cons_of_neg (by simpa using e2)];exact ih
theorem aW.oC(h:aW p0 d a){i:Nat}{u:Tub}(hu:(u.words.length:Int)≤u.room):aW p0 (d.dP i u) (a.w (a.s.oC i u)) :=
 ⟨⟨h.s.pg,h.s.tk,h.s.no,h.s.th,h.s.T,h.s.me,h.s.mx,h.s.cd,h.s.sm,h.s.sw,(by show a.s.jv.set i u=d.s.bA.set i u;rw[h.s.pp]),h.s.bk,h.s.ak,h.s.nw,h.s.tl,h.s.tp,h.s.rc,fun x hx=>by
  rcases List.mem_or_eq_of_mem_set hx with hx | rfl
  ·exact h.s.tr x hx
  ·exact hu,h.s.ow,h.s.mw⟩,h.n,h.i,h.e,h.l⟩
theorem St.BF(S:St k s0 d t){u:Tub}(hu:u∈d.s.bA){w:Int}(hw:0<cU w u):nG d.s w∧0≤w∧w.toNat≠d.n∧ ∃ v,d.s.thr[w.toNat]?=some (some v)∧(-1≤v.into∧v.into<8):=by
 have e1:cU w u≤cT d.s.bA w:=dj (f:=cU w) hu
 have e2:=S.one w
 unfold gN at e2
 obtain⟨b0,b1,v,b2,b3⟩:=S.live (w:=w) (by unfold gN;omega)
 exact⟨mm (by omega),b0,b1,v,b2,b3⟩
theorem aW.putP(S:St k s0 d t)(h:aW p0 d a)(ht:d.i.n<(d.s.bA.length:Int)){x:Int}(hx:x=d.a):aW p0 d.put (a.putP x):=by
 subst hx
 obtain⟨h1,h2,h3⟩:=S.bc ht
 have hmem:=List.mem_of_getElem? h1
 have hu:a.s.jv[a.i.n.toNat]?=some d.bc:=by rw[h.s.pp,h.i];exact h1
 have htr:=h.s.tr _ hmem
 have hp:∀ {g:Tub} {m:Nat} {v:bo},m≠d.n→d.s.thr[m]?=some (some v)→((d.dP d.i.n.toNat g).pass d.i.n d.a 0).s.thr[m]?=some (some v):=fun hm hv=>by
  unfold Dng.pass;exact cr (s:=((d.dP _ _).tell _ _ _ _).s) hv (Ne.symm hm)
 unfold Dng.put
 simp only
 cases hg:d.bc.bC with
 | cons w r =>
  rw[ou h3 hg]
  rw[if_neg (by simp),if_pos rfl,uK hu (by rw[hg];simp) hg,h.i]
  obtain⟨c1,c0,c2,v,c3,c4⟩:=S.BF hmem (w:=w) (by unfold cU;rw[hg,eI,jf rfl];omega)
  have h4:=(h.oC (i:=d.i.n.toNat) (u:={d.bc with bC:=r }) htr).pass (x:=d.i.n) (y:=d.a) (e:=0) (t:=t) S.ht (by decide)
  exact h4.dZ (n:=w.toNat) (hp c2 c3) c4 (by rw[show((w.toNat:Nat):Int)=w from by omega];exact c1) S.a
 | nil =>
  by_cases hr:(d.bc.words.length:Int)<d.bc.room
  ·rw[lV h3 hg hr]
   rw[if_neg (by simp),if_neg (by simp),yz hu (by rintro⟨_,e⟩;omega) hg,h.i]
   exact(h.oC (i:=d.i.n.toNat) (u:={d.bc with words:=d.bc.words++[d.a] }) (by show((d.bc.words++[d.a]).length:Int)≤d.bc.room;rw[List.length_append,List.length_singleton];omega)).pass (x:=d.i.n) (y:=d.a) (e:=0) (t:=t) S.ht (by decide)
  ·rw[lW h3 hg hr]
   rw[if_pos rfl,uJ hu ⟨by rw[hg];rfl,by omega⟩,h.i,h.n]
   exact(h.oC (i:=d.i.n.toNat) (u:={d.bc with bP:=d.bc.bP++[⟨d.n,d.a⟩] }) htr).block (t:=t) S.ht (into := -1) ⟨by decide,by decide⟩ rfl (.inl S.Fz)
theorem aW.getP(S:St k s0 d t)(h:aW p0 d a)(ht:d.i.n<(d.s.bA.length:Int)):aW p0 d.get a.getP:=by
 obtain⟨h1,h2,h3⟩:=S.bc ht
 have hIa:=S.I.a
 have hmem:=List.mem_of_getElem? h1
 have hu:a.s.jv[a.i.n.toNat]?=some d.bc:=by rw[h.s.pp,h.i];exact h1
 have htr:=h.s.tr _ hmem
 unfold Dng.get
 simp only
 cases hw:d.bc.words with
 | nil =>
  rw[get_none h3 hw,if_pos rfl,uL hu hw,h.i,h.n]
  exact(h.oC (i:=d.i.n.toNat) (u:={d.bc with bC:=d.bc.bC++[(d.n:Int)] }) htr).block (t:=t) S.ht (by omega) rfl (.inl S.Fz)
 | cons x r =>
  have hx:fq x:=h2.w x (by rw[hw];exact List.mem_cons_self)
  have hlr:(r.length:Int)+1≤d.bc.room:=by rw[hw,List.length_cons] at htr;omega
  have key:∀ u:Tub,(u.words.length:Int)≤u.room→aW p0 (((d.dP d.i.n.toNat u).aj (t.put d.i.a x)).pass d.i.n x 0) (((a.w (a.s.oC d.i.n.toNat u)).aj (a.t.put d.i.a x)).done d.i.n x 0):=fun u hu=>by
   have h4:=(h.oC (i:=d.i.n.toNat) hu).put (t:=t) (i:=d.i.a) (v:=x) S.ht hIa hx
   exact h4.pass (t:=t.put d.i.a x) (bW S.ht) (by decide)
  cases hp:d.bc.bP with
  | nil =>
   rw[my h3 hw hp,if_neg (by simp),if_neg (by simp),BA hu hw hp]
   rw[show(d.dP d.i.n.toNat {d.bc with words:=r }).t=t from ck S.ht]
   unfold RA.yX
   rw[h.i]
   exact key {d.bc with words:=r } (by show(r.length:Int)≤d.bc.room;omega)
  | cons y q =>
   rw[mz h3 hw hp,if_neg (by simp),if_pos rfl,uM hu hw hp]
   rw[show(d.dP d.i.n.toNat {d.bc with words:=r++[y.x],bP:=q }).t=t from ck S.ht]
   obtain⟨c1,c0,c2,v,c3,c4⟩:=S.BF hmem (w:=y.who) (by unfold cU;rw[hp,uk,jf rfl];omega)
   have h5:=key {d.bc with words:=r++[y.x],bP:=q } (by show((r++[y.x]).length:Int)≤d.bc.room;rw[List.length_append,List.length_singleton];omega)
   have e:((a.yX d.bc x r).w ((a.yX d.bc x r).s.oC a.i.n.toNat {d.bc with words:=r++[y.x],bP:=q }))=((a.w (a.s.oC d.i.n.toNat {d.bc with words:=r++[y.x],bP:=q })).aj (a.t.put d.i.a x)).done d.i.n x 0:=by
    unfold RA.yX
    rw[h.i]
    unfold RA.done RA.say RA.aj RA.w RSp.oC RSp.aj
    simp only[List.set_set]
    rfl
   rw[e]
   refine h5.dZ (n:=y.who.toNat) (u:=v) ?_ c4 (by rw[show((y.who.toNat:Nat):Int)=y.who from by omega];exact c1) ⟨by decide,by decide⟩
   unfold Dng.pass
   exact cr (s:=(((d.dP _ _).aj _).tell _ _ _ _).s) (cr (s:=(d.dP _ _).s) c3 (Ne.symm c2)) (Ne.symm c2)
theorem aW.aO(S:St k s0 d t)(h:aW p0 d a){b y i i':Int}(hb:0≤b)(hi : -1≤i∧i<8)(hi':i'=i+1):aW p0 (d.ask b y i) (a.aO b y i'):=by
 have hbl:=S.h.ok.dk.l
 unfold Dng.ask
 by_cases e:(d.s.aO.blocks.length:Int)≤b
 ·rw[wN (by rw[h.s.bk];exact e)]
  split
  ·have e1:d.s.aO.ask ⟨d.n,b,decide (d.i.op=34),y⟩=(1,d.s.aO):=by unfold jC.ask;rw[if_pos (.inr e)]
   simp only
   rw[e1,if_pos (by simp)]
   exact h.pass (e:=1) S.ht (by decide)
  ·exact h.pass S.ht (by decide)
 ·rw[wO (by rw[h.s.bk];exact e),if_pos (by omega)]
  have hz:cD d.s.aO d.n=0:=by have:=S.zero;unfold gN at this;omega
  have hno:d.s.aO.wait.any (fun x=>decide (x.who=(d.n:Int)))=false:=by
   cases hh:d.s.aO.wait.any (fun x=>decide (x.who=(d.n:Int))) with
   | false=>rfl
   | true =>
    obtain⟨x,hx,hx2⟩:=List.any_eq_true.1 hh
    have:0<cD d.s.aO d.n:=List.countP_pos_iff.2 ⟨x,hx,hx2⟩
    omega
  have e1:d.s.aO.ask ⟨d.n,b,decide (d.i.op=34),y⟩=(0,{d.s.aO with wait:=d.s.aO.wait++[⟨d.n,b,decide (d.i.op=34),y⟩] }):=by
   unfold jC.ask;rw[if_neg (by rintro(h | h);exact absurd hb (by show ¬ 0≤b;exact Int.not_le.2 h);exact e h),if_neg (by rw[hno];simp)]
  simp only
  rw[e1,if_neg (by simp),h.i,h.n]
  have h1:aW p0 (d.dC {d.s.aO with wait:=d.s.aO.wait++[⟨d.n,b,decide (d.i.op=34),y⟩] }) (a.w {a.s with ask:=a.s.ask++[⟨d.n,b,decide (d.i.op=34),y⟩] }) :=
   ⟨⟨h.s.pg,h.s.tk,h.s.no,h.s.th,h.s.T,h.s.me,h.s.mx,h.s.cd,h.s.sm,h.s.sw,h.s.pp,h.s.bk,(by show a.s.ask++_=d.s.aO.wait++_;rw[h.s.ak]),h.s.nw,h.s.tl,h.s.tp,h.s.rc,h.s.tr,h.s.ow,h.s.mw⟩,h.n,h.i,h.e,h.l⟩
  exact h1.block (t:=t) S.ht hi hi' (.inl S.Fz)
theorem aW.sleep(S:St k s0 d t)(h:aW p0 d a){x:Int}(hx:x=d.a):aW p0 d.sleep (a.sleep x):=by
 subst hx
 have ha:=S.a
 unfold Dng.sleep
 simp only
 by_cases e:d.a=0
 ·rw[if_pos e,BB e];exact h.pass S.ht (by decide)
 ·rw[if_neg e]
  by_cases e2:1099511627776<d.a
  ·rw[if_pos e2,uN e e2];exact h.pass S.ht (by decide)
  ·rw[if_neg e2,sQ e e2 rfl]
   have hz:cL d.s.aA d.n=0:=by have:=S.zero;unfold gN at this;omega
   have e3:(d.s.aA.sleep d.n d.a).2 = {d.s.aA with dY:=mapSet d.s.aA.dY d.n (min (d.s.aA.now+d.a) 1099511627776) }:=by
    have h0:=ha.1
    unfold j6.sleep
    rw[if_neg (by omega),l4 hz,if_neg (by simp)]
   rw[e3]
   have h1:aW p0 (d.rW {d.s.aA with dY:=mapSet d.s.aA.dY d.n (min (d.s.aA.now+d.a) 1099511627776) }) (a.w {a.s with til:=dU a.s.til a.n (min (a.s.now+d.a) 1099511627776+1) }) :=
    ⟨⟨h.s.pg,h.s.tk,h.s.no,h.s.th,h.s.T,h.s.me,h.s.mx,h.s.cd,h.s.sm,h.s.sw,h.s.pp,h.s.bk,h.s.ak,h.s.nw,(fun m=>by
     show dU a.s.til a.n (min (a.s.now+d.a) 1099511627776+1) m=JT (cF (mapSet d.s.aA.dY d.n (min (d.s.aA.now+d.a) 1099511627776)) m)
     rw[sV,h.n,h.s.nw]
     by_cases em:m=d.n
     ·subst em;rw[dF,if_pos rfl];rfl
     ·rw[jk em,if_neg (by omega)];exact h.s.tl m),(fun m v e=>by
     have e:cF (mapSet d.s.aA.dY d.n (min (d.s.aA.now+d.a) 1099511627776)) m=some v:=e
     rw[sV] at e
     have hw:=S.h.ok.wl
     have h0:=ha.1
     split at e
     ·cases e;omega
     ·exact h.s.tp m v e),h.s.rc,h.s.tr,h.s.ow,h.s.mw⟩,h.n,h.i,h.e,h.l⟩
   exact h1.block (t:=t) S.ht (into := -1) ⟨by decide,by decide⟩ rfl (.inl S.Fz)
theorem aW.kernel(S:St k s0 d t)(h:aW p0 d a)(ht:d.i.op=35∨d.i.op=36→d.i.n<(d.s.bA.length:Int)){x y:Int}(hx:x=d.a)(hy:y=d.b):aW p0 d.kernel (a.kernel x y):=by
 have hi:=S.I.a
 have e:=h.i
 have hb:=S.b
 have ha:=S.a
 unfold Dng.kernel
 split
 ·rename_i c;rw[JK (by rw[e];exact c),hy];exact h.aO S hb.1 (by omega) (by rw[e])
 split
 ·rename_i c;rw[JL (by rw[e];exact c),hx,hy];exact h.aO S ha.1 (by decide) rfl
 split
 ·rename_i c;rw[Hw (by rw[e];exact c)];exact h.putP S (ht (.inl c)) hx
 split
 ·rename_i c;rw[KZ (by rw[e];exact c)];exact h.getP S (ht (.inr c))
 split
 ·rename_i c;rw[Fs (by rw[e];exact c)];exact h.sleep S hx
 ·rename_i c1 c2 c3 c4 c5
  rw[K0 (by rw[e];exact c1) (by rw[e];exact c2) (by rw[e];exact c3) (by rw[e];exact c4) (by rw[e];exact c5),hx]
  exact h.pass S.ht (by decide)
end
end Go.SLYtefdijgllbkmfaaGreat
namespace Go.SLYtefdijgllbkmfaaGreat
open Go Go.RowKit
variable{p0:eZ}
section
variable{k:Nat}{s0:Spc}{d:Dng}{t:bo}{a:RA}
theorem St.fin(S:St k s0 d t):¬t.av = -1→nG d.s t.av∧0≤t.av∧t.av.toNat≠d.n∧ ∃ u,d.s.thr[t.av.toNat]?=some (some u)∧(-1≤u.into∧u.into<8):=fun hj=>by
 have e1:1≤cJ d.s.thr t.av:=by
  have e2:=dj (f:=jn t.av) (List.mem_of_getElem? S.ht)
  rw[gu,if_pos ⟨rfl,hj⟩] at e2;exact e2
 have e2:=S.one t.av
 unfold gN at e2
 obtain⟨b0,b1,v,b2,b3⟩:=S.live (w:=t.av) (by unfold gN;omega)
 exact⟨mm (by omega),b0,b1,v,b2,b3⟩
theorem CV{s:Spc}{f arg:Int}{n:Nat}(hn:slotFree? s.table 0=some n)(hl:n<s.thr.length):(s.begin f arg).2.2.t n=mP f arg (dq ((s.table.getD n (false,0)).2+1) n):=by
 obtain⟨t1,h1,h2⟩:=pP (f:=f) (arg:=arg) hn hl
 rw[cW h1,h2]
theorem aW.spawn(S:St k s0 d t)(hk:k≤1000000)(h:aW p0 d a)(hf:d.i.n<(d.s.dK.funcs.length:Int))(hwk:d.out.aM=[]){y:Int}(hy:y=d.b):aW p0 d.spawn (a.spawn y):=by
 subst hy
 have hIa:=S.I.a
 have hIn:=S.I.n
 have hb:=S.b
 have hO:=S.h.ok
 unfold Dng.spawn
 simp only
 cases hfr:slotFree? d.s.table 0 with
 | none =>
  have e:d.s.begin d.i.n d.b=(0,2,d.s):=iY hfr
  have e2:a.s.begin a.i.n d.b=(-1,a.s):=by unfold RSp.begin;rw[h.s.IE hO,hfr]
  rw[e]
  simp only[show ¬((2:Int)=0) from by decide,if_false]
  rw[ck (d:={d with s:=d.s,out:=d.out }) S.ht]
  have e3:a.spawn d.b=(a.aj (a.t.put a.i.a 0)).done a.i.n 0 2:=by
   unfold RA.spawn;rw[e2];rfl
  rw[e3,h.i]
  have h1:=h.put (t:=t) (i:=d.i.a) (v:=0) S.ht hIa ⟨by decide,by decide⟩
  exact h1.pass (e:=2) (t:=t.put d.i.a 0) (bW S.ht) (by decide)
 | some n =>
  obtain⟨h16,r1,r2,r3,r4,r5⟩:=h.s.begin hO hk ⟨hIn.1,hf⟩ hb hfr
  have hne:d.n≠n:=fun e=>by rw[← e,S.ht] at r3;cases r3
  have e1:(d.s.begin d.i.n d.b).1=(n:Int):=by rw[dX hfr]
  have e2:(d.s.begin d.i.n d.b).2.1=0:=by rw[dX hfr]
  have hnl:n<d.s.thr.length:=(List.getElem?_eq_some_iff.1 r3).1
  have e3:=CV (f:=d.i.n) (arg:=d.b) hfr hnl
  have ht2:(d.s.begin d.i.n d.b).2.2.thr[d.n]?=some (some t):=by
   rw[dX hfr];show(d.s.thr.set n _)[d.n]?=_;rw[List.getElem?_set_ne (Ne.symm hne)];exact S.ht
  rw[e2,e1]
  simp only[if_true,Int.toNat_natCast]
  rw[e3,show(mP d.i.n d.b (dq ((d.s.table.getD n (false,0)).2+1) n)).handle=dq ((d.s.table.getD n (false,0)).2+1) n from rfl]
  generalize dq ((d.s.table.getD n (false,0)).2+1) n=hh at *
  have h1:aW p0 {d with s:=(d.s.begin d.i.n d.b).2.2,out:={d.out with aM:=d.out.aM++[(n:Int)] } } {a with s:=a.s.begun n d.i.n d.b,e:={a.e with aM:=[(n:Int)] } } :=
   ⟨r2,h.n,h.i,by show({a.e with aM:=[(n:Int)] }:iZ) = {d.out with aM:=d.out.aM++[(n:Int)] };rw[h.e,hwk];rfl,h.l⟩
  have e4:({d with s:=(d.s.begin d.i.n d.b).2.2,out:={d.out with aM:=d.out.aM++[(n:Int)] } }:Dng).t=t:=ck ht2
  rw[e4]
  have h2:=h1.put (t:=t) (i:=d.i.a) (v:=hh) ht2 hIa r5
  have h3:=h2.pass (x:=d.i.n) (y:=hh) (e:=0) (t:=t.put d.i.a hh) (bW ht2) (by decide)
  have e5:a.spawn d.b=((({a with s:=a.s.begun n d.i.n d.b,e:={a.e with aM:=[(n:Int)] } }:RA).aj (({a with s:=a.s.begun n d.i.n d.b,e:={a.e with aM:=[(n:Int)] } }:RA).t.put d.i.a hh)).done d.i.n hh 0):=by
   have r4':((a.s.begun n d.i.n d.b).t n).handle=hh:=r4
   obtain⟨az,an,ai,ae,al⟩:=a
   obtain rfl:ai=d.i:=h.i
   unfold RA.spawn
   simp only
   rw[r1]
   simp only[show ¬((n:Int)<0) from by omega,if_false,Int.toNat_natCast]
   have r4'':((az.begun n d.i.n d.b).t n).handle=hh:=r4'
   rw[r4'']
   try rfl
  rw[e5];exact h3
theorem nG.why{s:Spc}{r:RSp}(h:fh p0 s r){m:Nat}{u:bo}(hu:s.thr[m]?=some (some u))(hw:u.why≠1):nG s m:=fun x hx y hy e=>by
 obtain⟨t1,a1,a2⟩:=h.mw x hx y hy
 rw[e,ly hu] at a1;cases a1;exact hw a2
theorem aW.join(S:St k s0 d t)(h:aW p0 d a){y:Int}(hy:y=d.b):aW p0 d.join (a.join y):=by
 subst hy
 have hIa:=S.I.a
 have ho:=h.other S.h.ok (x:=d.b)
 unfold Dng.join
 simp only
 by_cases e:(d.other d.b).2=0
 ·rw[if_neg (fun h=>h e)]
  obtain⟨m,u,e1,hne,hu,hd,hj⟩:=jI S.h.ok e
  have hU:=h.s.th m u hu
  have hR:=h.s.T m
  have hOu:=S.h.ok.th m u hu
  have o1:(a.other d.b).1=(m:Int):=by rw[ho,e1]
  have o2:¬¬(a.other d.b).2=0:=by rw[ho];exact fun h=>h e
  rw[e1,cW hu]
  by_cases h9:u.why=9
  ·rw[if_pos h9,yo o2 o1 (by rw[hU.w];exact h9),ck S.ht,h.i,show(a.s.thr m).value=u.value from hU.v]
   have h1:=h.put (t:=t) (i:=d.i.a) (v:=u.value) S.ht hIa hOu.R.v
   have hu2:(d.aj (t.put d.i.a u.value)).s.thr[m]?=some (some u):=cr hu (Ne.symm hne)
   have h2:=h1.off hu2 (nG.why h1.s hu2 (by rw[h9];decide))
   exact h2.pass (e:=0) (t:=t.put d.i.a u.value) (oI (bW S.ht) hne) (by decide)
  ·rw[if_neg h9,uA o2 o1 (by rw[hU.w];exact h9),h.i,h.n]
   have h1:=h.s.aj hu (t':={u with av:=d.n }) (u':={a.s.t m with av:=(d.n:Int)+1 }) ⟨hU.us,hU.h,hU.w,hU.f,hU.p,hU.r,hU.v,hU.d,rfl,hU.o,hU.i,hU.fl⟩ ⟨hR.r,hR.i,by show 0≤(d.n:Int)+1∧(d.n:Int)+1≤16;have:=S.h.ok.lt ▸ (List.getElem?_eq_some_iff.1 S.ht).1;omega,hR.p,hR.v⟩ (.inl rfl)
   have h2:aW p0 {d with s:=d.s.aj m {u with av:=d.n } } ⟨a.s.aj m {a.s.t m with av:=(d.n:Int)+1 },d.n,d.i,a.e,a.late⟩:=⟨h1,rfl,rfl,h.e,h.l⟩
   exact h2.block (t:=t) (into:=d.i.a) (cr S.ht hne) (by omega) rfl (.inl S.Fz)
 ·rw[if_pos e,yn (by rw[ho];exact e),ho]
  exact h.pass S.ht km
theorem aW.cO(S:St k s0 d t)(h:aW p0 d a){x:Int}(hx:x=d.a):aW p0 d.cO (a.cO x):=by
 subst hx
 have ho:=h.other S.h.ok (x:=d.a)
 unfold Dng.cO
 simp only
 by_cases e:(d.other d.a).2=0
 ·rw[if_neg (fun h=>h e)]
  obtain⟨m,u,e1,hne,hu,hd,hj⟩:=jI S.h.ok e
  have hU:=h.s.th m u hu
  have hR:=h.s.T m
  have o1:(a.other d.a).1.toNat=m:=by rw[ho,e1];rfl
  have o2:(a.other d.a).2=0:=by rw[ho];exact e
  rw[e1,cW hu]
  unfold RA.cO
  simp only
  rw[o1,o2]
  by_cases h9:u.why=9
  ·rw[if_pos h9,if_pos ⟨rfl,by rw[show(a.s.t m).why=u.why from hU.w];exact h9⟩]
   exact(h.off hu (nG.why h.s hu (by rw[h9];decide))).pass (e:=0) (t:=t) (oI S.ht hne) (by decide)
  ·rw[if_neg h9,if_neg (by rintro⟨_,h⟩;exact h9 (by rw[← show(a.s.t m).why=u.why from hU.w];exact h)),if_pos rfl]
   have h1:=h.s.aj hu (t':={u with bq:=true }) (u':={a.s.t m with pA:=true }) ⟨hU.us,hU.h,hU.w,hU.f,hU.p,hU.r,hU.v,rfl,hU.j,hU.o,hU.i,hU.fl⟩ ⟨hR.r,hR.i,hR.j,hR.p,hR.v⟩ (.inl rfl)
   have h2:aW p0 {d with s:=d.s.aj m {u with bq:=true } } {a with s:=a.s.aj m {a.s.t m with pA:=true } }:=⟨h1,h.n,h.i,h.e,h.l⟩
   exact h2.pass (e:=0) (t:=t) (cr S.ht hne) (by decide)
 ·rw[if_pos e]
  unfold RA.cO
  simp only
  have o2:¬(a.other d.a).2=0:=by rw[ho];exact e
  rw[if_neg (fun h=>o2 h.1),if_neg o2,ho]
  exact h.pass S.ht km
structure qK(s:Spc)(i:Ins):Prop where
 c:1≤i.op∧i.op≤38
 f:i.op=20→i.n<(s.dK.funcs.length:Int)
 m:i.op=25∨i.op=26→i.n<(s.ag.aF.length:Int)
 w:i.op=27→i.c<(s.ag.aF.length:Int)∧i.n<(s.ag.bn.length:Int)
 g:i.op=28∨i.op=29→i.n<(s.ag.bn.length:Int)
 e:i.op=30∨i.op=31→i.n<(s.ag.cf.length:Int)
 p:i.op=35∨i.op=36→i.n<(s.bA.length:Int)
theorem aW.call(S:St k s0 d t)(hk:k≤1000000)(h:aW p0 d a)(hi:qK d.s d.i)(hwk:d.out.aM=[])(hop:20≤d.i.op){c:Int}(hc:c=d.choice):aW p0 d.call (a.call c):=by
 have e:=h.i
 have hIa:=S.I.a
 have hra:=h.ra S
 have hrb:=h.rb S
 have hT:=h.th S.ht
 unfold Dng.call
 split
 ·rename_i c1;rw[JN (by rw[e];exact c1)];exact h.spawn S hk (hi.f c1) hwk hrb
 split
 ·rename_i c1
  rw[K1 (by rw[e];exact c1),e,hT.h,ck S.ht]
  have h1:=h.put (t:=t) (i:=d.i.a) (v:=t.handle) S.ht hIa S.o.R.h
  exact h1.pass (e:=0) (t:=t.put d.i.a t.handle) (bW S.ht) (by decide)
 split
 ·rename_i c1
  rw[K2 (by rw[e];exact c1)]
  have h1:=h.pass (x:=0) (y:=0) (e:=0) S.ht (by decide)
  exact⟨h1.s,h1.n,h1.i,by show({a.e with yielded:=true }:iZ) = {d.out with yielded:=true };rw[h.e],h1.l⟩
 split
 ·rename_i c1;rw[K3 (by rw[e];exact c1)];exact h.join S hrb
 split
 ·rename_i c1;rw[Hz (by rw[e];exact c1)];exact h.cO S hra
 split
 ·rename_i c1
  rw[K4 (by rw[e];exact c1),hra]
  exact(h.say S.ht).fin (t:=t) S.ht S.Fz S.fin S.a
 split
 ·rename_i c1;rw[nA (by rw[e];omega)];exact h.mutex S hc c1 hi.m hi.w
 split
 ·rename_i c1
  rw[nA (by rw[e];omega),yy (by rw[e];omega) (by rw[e];omega) (by rw[e];omega),e]
  exact h.signal S hc c1 (hi.g c1)
 split
 ·rename_i c1
  rcases c1 with c1 | c1
  ·rw[JO (by rw[e];exact c1)];exact h.down S c1 (hi.e (.inl c1))
  ·rw[K5 (by rw[e];exact c1)];exact h.up S hc c1 (hi.e (.inr c1))
 ·rename_i c1 c2 c3 c4 c5 c6 c7 c8 c9
  rw[ID (by rw[e];omega)];exact h.kernel S hi.p hra hrb
/-! plain instructions -/
theorem yH{op y z:Int}:aH op y (if lQ op=true then 0 else z)=aH op y z:=by
 unfold lQ
 by_cases h2:op=2
 ·subst h2;rfl
 by_cases h14:op=14
 ·subst h14;rfl
 by_cases h15:op=15
 ·subst h15;rfl
 rw[if_neg (by simp[h2,h14,h15])]
theorem aW.plain(S:St k s0 d t)(h:aW p0 d a)(hpc:t.pc≤256)(_hi:qK d.s d.i)(_hop:d.i.op≤19):aW p0 d.plain a.plain:=by
 have e:=h.i
 have hI:=S.I
 have hra:=h.ra S
 have hrb:=h.rb S
 have hT:=h.th S.ht
 have hR:w8 a.t:=h.s.T a.n
 have hp0:=S.o.pc
 have hU1:jw d.s.dK.funcs.length {t with pc:=t.pc+1 } {a.t with pc:=a.t.pc+1 }:=hT.pc (by rw[hT.p])
 have hR1:w8 {a.t with pc:=a.t.pc+1 }:=hR.pc (by rw[hT.p];omega)
 have ha:d.t.hZ.eX d.i.a=d.a:=rfl
 have hb:d.t.hZ.eX d.i.b=d.b:=rfl
 have hfrm:∀ {f m},hY d.t.hZ d.s.mem d.i=some (f,m)→¬d.i.op=18→¬d.i.op=19→m=d.s.mem→d.plain=d.aj (t.lR f):=fun {f m} e1 n1 n2 e2=>by
  unfold Dng.plain;rw[e1];simp only;rw[if_neg n1,if_neg n2,e2,ck S.ht];rfl
 by_cases c16:d.i.op=16
 ·have e1:hY d.t.hZ d.s.mem d.i=some ({d.t.hZ with pc:=d.i.n },d.s.mem):=by unfold hY;rw[if_pos c16]
  have e2:a.plain=a.aj {a.t with pc:=a.i.n }:=by
   have e3:a.plain=(a.aj {a.t with pc:=a.t.pc+1 }).aj {(a.aj {a.t with pc:=a.t.pc+1 }).t with pc:=a.i.n }:=by
    unfold RA.plain;exact(if_neg (show ¬a.i.op=1 by rw[e];omega)).trans (if_pos (show a.i.op=16 by rw[e];exact c16))
   rw[e3,RA.fU,RA.lk]
  rw[hfrm e1 (by omega) (by omega) rfl,e2,e,ck S.ht]
  have hj:=hI.j (.inl c16)
  have hn:=hI.n
  exact h.aj (t:=t) S.ht (hT.pc rfl) (hR.pc ⟨hn.1,by omega⟩) (.inl rfl)
 by_cases c17:d.i.op=17
 ·have e1:hY d.t.hZ d.s.mem d.i=some ({d.t.hZ with pc:=if d.a=0 then d.i.n else d.t.hZ.pc+1 },d.s.mem):=by unfold hY;rw[if_neg c16,if_pos c17];rfl
  have e2:a.plain=a.aj {a.t with pc:=if d.a=0 then a.i.n else a.t.pc+1 }:=by
   have e3:a.plain=if a.t.eX a.i.a=0 then (a.aj {a.t with pc:=a.t.pc+1 }).aj {(a.aj {a.t with pc:=a.t.pc+1 }).t with pc:=a.i.n } else a.aj {a.t with pc:=a.t.pc+1 }:=by
    unfold RA.plain;exact(if_neg (show ¬a.i.op=1 by rw[e];omega)).trans ((if_neg (show ¬a.i.op=16 by rw[e];omega)).trans (if_pos (show a.i.op=17 by rw[e];exact c17)))
   rw[e3,hra]
   split
   ·rw[RA.fU,RA.lk]
   ·rfl
  rw[hfrm e1 (by omega) (by omega) rfl,e2,e,ck S.ht]
  have hj:=hI.j (.inr c17)
  have hn:=hI.n
  refine h.aj (t:=t) S.ht (hT.pc ?_) (hR.pc ?_) (.inl rfl)
  ·show(if d.a=0 then d.i.n else a.t.pc+1)=if d.a=0 then d.i.n else t.hZ.pc+1
   rw[hT.p];rfl
  ·have:=hT.p
   split
   ·exact⟨hn.1,by omega⟩
   ·omega
 by_cases c1:d.i.op=1
 ·have e1:hY d.t.hZ d.s.mem d.i=some ({d.t.hZ.put d.i.a d.i.n with pc:=d.t.hZ.pc+1 },d.s.mem):=by unfold hY;rw[if_neg c16,if_neg c17,if_pos c1]
  have e2:a.plain=a.aj (({a.t with pc:=a.t.pc+1 }:RT).put a.i.a a.i.n):=by
   have e3:a.plain=(a.aj {a.t with pc:=a.t.pc+1 }).aj ((a.aj {a.t with pc:=a.t.pc+1 }).t.put a.i.a a.i.n):=by
    unfold RA.plain;exact(if_pos (show a.i.op=1 by rw[e];exact c1))
   rw[e3,RA.fU,RA.lk]
  rw[hfrm e1 (by omega) (by omega) rfl,e2,e,ck S.ht]
  exact h.aj (t:=t) S.ht (hU1.put hI.a) (hR1.put hI.n) (.inl rfl)
 by_cases c18:d.i.op=18
 ·have hlt:a.s.mem.length=d.s.mem.length:=by rw[h.s.me]
  by_cases hm:d.b<(d.s.mem.length:Int)
  ·have e1:hY d.t.hZ d.s.mem d.i=some ({d.t.hZ.put d.i.a (d.s.mem.getD d.b.toNat 0) with pc:=d.t.hZ.pc+1 },d.s.mem):=by
    unfold hY;rw[if_neg c16,if_neg c17,if_neg c1,if_pos c18,if_pos (by rw[hb];exact hm)];rfl
   have hpl:d.plain=(d.tell d.b (d.s.mem.getD d.b.toNat 0) 0 true).aj (t.lR {d.t.hZ.put d.i.a (d.s.mem.getD d.b.toNat 0) with pc:=d.t.hZ.pc+1 }):=by
    unfold Dng.plain;rw[e1];simp only;rw[if_pos c18,ck S.ht];rfl
   have e3:a.plain=((a.aj {a.t with pc:=a.t.pc+1 }).aj ((a.aj {a.t with pc:=a.t.pc+1 }).t.put a.i.a (a.s.mem.getD (a.t.eX a.i.b).toNat 0))).say (a.t.eX a.i.b) (a.s.mem.getD (a.t.eX a.i.b).toNat 0) 0 true:=by
    unfold RA.plain;exact(if_neg (show ¬a.i.op=1 by rw[e];omega)).trans ((if_neg (show ¬a.i.op=16 by rw[e];omega)).trans ((if_neg (show ¬a.i.op=17 by rw[e];omega)).trans ((if_pos (show a.i.op=18 by rw[e];exact c18)).trans (if_neg (show ¬(a.s.mem.length:Int)≤a.t.eX a.i.b by rw[hrb,h.s.me];omega)))))
   rw[hpl,e3,RA.fU,RA.lk,RA.FB (u:=({a.t with pc:=a.t.pc+1 }:RT).put a.i.a (a.s.mem.getD (a.t.eX a.i.b).toNat 0)) rfl,hrb,h.s.me,e,ck S.ht]
   have hb0:=S.b.1
   have hW:fq (d.s.mem.getD d.b.toNat 0):=wq S.h.ok.me.2 (by omega)
   exact(h.say (t:=t) S.ht).aj (t:=t) S.ht (hU1.put hI.a) (hR1.put hW) (.inl rfl)
  ·have e1:hY d.t.hZ d.s.mem d.i=none:=by
    unfold hY;rw[if_neg c16,if_neg c17,if_neg c1,if_pos c18,if_neg (by rw[hb];exact hm)]
   have hpl:d.plain=(d.tell d.b 0 6 true).fin 18446744073709551615:=by
    unfold Dng.plain;rw[e1];simp only;rw[if_pos c18]
   have e3:a.plain=(a.aj {a.t with pc:=a.t.pc+1 }).fault (a.t.eX a.i.b) 0:=by
    unfold RA.plain;exact(if_neg (show ¬a.i.op=1 by rw[e];omega)).trans ((if_neg (show ¬a.i.op=16 by rw[e];omega)).trans ((if_neg (show ¬a.i.op=17 by rw[e];omega)).trans ((if_pos (show a.i.op=18 by rw[e];exact c18)).trans (if_pos (show(a.s.mem.length:Int)≤a.t.eX a.i.b by rw[hrb,h.s.me];omega)))))
   have e4:(a.aj {a.t with pc:=a.t.pc+1 }).aj {(a.aj {a.t with pc:=a.t.pc+1 }).t with pc:=(a.aj {a.t with pc:=a.t.pc+1 }).t.pc-1 }=a:=by
    rw[RA.fU,RA.lk,show({({a.t with pc:=a.t.pc+1 }:RT) with pc:=({a.t with pc:=a.t.pc+1 }:RT).pc-1 }:RT)=a.t from by show({a.t with pc:=a.t.pc+1-1 }:RT)=a.t;rw[Int.add_sub_cancel],RA.rj]
   rw[hpl,e3]
   unfold RA.fault
   rw[e4,hrb]
   exact(h.say (t:=t) S.ht).fin (t:=t) S.ht S.Fz S.fin ⟨by decide,by decide⟩
 by_cases c19:d.i.op=19
 ·by_cases hm:d.a<(d.s.mem.length:Int)
  ·have e1:hY d.t.hZ d.s.mem d.i=some ({d.t.hZ with pc:=d.t.hZ.pc+1 },d.s.mem.set d.a.toNat d.b):=by
    unfold hY;rw[if_neg c16,if_neg c17,if_neg c1,if_neg c18,if_pos c19,if_pos (by rw[ha];exact hm)];rfl
   have hpl:d.plain = {(d.tell d.a d.b 0 true).aj {t with pc:=t.pc+1 } with s:={((d.tell d.a d.b 0 true).aj {t with pc:=t.pc+1 }).s with mem:=d.s.mem.set d.a.toNat d.b } }:=by
    unfold Dng.plain;rw[e1];simp only;rw[if_neg c18,if_pos c19,ck S.ht];rfl
   have e3:a.plain=({a.aj {a.t with pc:=a.t.pc+1 } with s:={(a.aj {a.t with pc:=a.t.pc+1 }).s with mem:=a.s.mem.set (a.t.eX a.i.a).toNat (a.t.eX a.i.b) } }:RA).say (a.t.eX a.i.a) (a.t.eX a.i.b) 0 true:=by
    unfold RA.plain;exact(if_neg (show ¬a.i.op=1 by rw[e];omega)).trans ((if_neg (show ¬a.i.op=16 by rw[e];omega)).trans ((if_neg (show ¬a.i.op=17 by rw[e];omega)).trans ((if_neg (show ¬a.i.op=18 by rw[e];omega)).trans ((if_pos (show a.i.op=19 by rw[e];exact c19)).trans (if_neg (show ¬(a.s.mem.length:Int)≤a.t.eX a.i.a by rw[hra,h.s.me];omega))))))
   have h1:=(h.say (x:=d.a) (y:=d.b) (e:=0) (fin:=true) (t:=t) S.ht).aj (t:=t) S.ht hU1 hR1 (.inl rfl)
   have h2:aW p0 d.plain ({(a.say d.a d.b 0 true).aj {a.t with pc:=a.t.pc+1 } with s:={((a.say d.a d.b 0 true).aj {a.t with pc:=a.t.pc+1 }).s with mem:=a.s.mem.set d.a.toNat d.b } }:RA):=by
    rw[hpl]
    exact⟨⟨h1.s.pg,h1.s.tk,h1.s.no,h1.s.th,h1.s.T,(by show a.s.mem.set _ _=d.s.mem.set _ _;rw[h.s.me]),h1.s.mx,h1.s.cd,h1.s.sm,h1.s.sw,h1.s.pp,h1.s.bk,h1.s.ak,h1.s.nw,h1.s.tl,h1.s.tp,h1.s.rc,h1.s.tr,h1.s.ow,h1.s.mw⟩,h1.n,h1.i,h1.e,h1.l⟩
   have e5:a.plain=({(a.say d.a d.b 0 true).aj {a.t with pc:=a.t.pc+1 } with s:={((a.say d.a d.b 0 true).aj {a.t with pc:=a.t.pc+1 }).s with mem:=a.s.mem.set d.a.toNat d.b } }:RA):=by
    rw[e3,hra,hrb]
    unfold RA.say
    rw[show({a.aj {a.t with pc:=a.t.pc+1 } with s:={(a.aj {a.t with pc:=a.t.pc+1 }).s with mem:=a.s.mem.set d.a.toNat d.b } }:RA).t = {a.t with pc:=a.t.pc+1 } from by show dU a.s.thr a.n ({a.t with pc:=a.t.pc+1 }:RT) a.n=_;exact dF]
    rfl
   rw[e5];exact h2
  ·have e1:hY d.t.hZ d.s.mem d.i=none:=by
    unfold hY;rw[if_neg c16,if_neg c17,if_neg c1,if_neg c18,if_pos c19,if_neg (by rw[ha];exact hm)]
   have hpl:d.plain=(d.tell d.a d.b 6 true).fin 18446744073709551615:=by
    unfold Dng.plain;rw[e1];simp only;rw[if_neg c18]
   have e3:a.plain=(a.aj {a.t with pc:=a.t.pc+1 }).fault (a.t.eX a.i.a) (a.t.eX a.i.b):=by
    unfold RA.plain;exact(if_neg (show ¬a.i.op=1 by rw[e];omega)).trans ((if_neg (show ¬a.i.op=16 by rw[e];omega)).trans ((if_neg (show ¬a.i.op=17 by rw[e];omega)).trans ((if_neg (show ¬a.i.op=18 by rw[e];omega)).trans ((if_pos (show a.i.op=19 by rw[e];exact c19)).trans (if_pos (show(a.s.mem.length:Int)≤a.t.eX a.i.a by rw[hra,h.s.me];omega))))))
   have e4:(a.aj {a.t with pc:=a.t.pc+1 }).aj {(a.aj {a.t with pc:=a.t.pc+1 }).t with pc:=(a.aj {a.t with pc:=a.t.pc+1 }).t.pc-1 }=a:=by
    rw[RA.fU,RA.lk,show({({a.t with pc:=a.t.pc+1 }:RT) with pc:=({a.t with pc:=a.t.pc+1 }:RT).pc-1 }:RT)=a.t from by show({a.t with pc:=a.t.pc+1-1 }:RT)=a.t;rw[Int.add_sub_cancel],RA.rj]
   rw[hpl,e3]
   unfold RA.fault
   rw[e4,hra,hrb]
   exact(h.say (t:=t) S.ht).fin (t:=t) S.ht S.Fz S.fin ⟨by decide,by decide⟩
 ·have e1:hY d.t.hZ d.s.mem d.i=some ({d.t.hZ.put d.i.a (aH d.i.op d.b (t.eX d.i.c)) with pc:=d.t.hZ.pc+1 },d.s.mem):=by
   unfold hY;rw[if_neg c16,if_neg c17,if_neg c1,if_neg c18,if_neg c19,yH,hb,ck S.ht];rfl
  have e3:a.plain=(a.aj {a.t with pc:=a.t.pc+1 }).aj ((a.aj {a.t with pc:=a.t.pc+1 }).t.put a.i.a (aH a.i.op (a.t.eX a.i.b) ((a.aj {a.t with pc:=a.t.pc+1 }).t.eX a.i.c))):=by
   unfold RA.plain;exact(if_neg (show ¬a.i.op=1 by rw[e];omega)).trans ((if_neg (show ¬a.i.op=16 by rw[e];omega)).trans ((if_neg (show ¬a.i.op=17 by rw[e];omega)).trans ((if_neg (show ¬a.i.op=18 by rw[e];omega)).trans (if_neg (show ¬a.i.op=19 by rw[e];omega)))))
  have hrc:(a.aj {a.t with pc:=a.t.pc+1 }).t.eX a.i.c=t.eX d.i.c:=by rw[RA.lk,e];exact hT.eX hI.c
  rw[hfrm e1 c18 c19 rfl,e3,hrc,hrb,RA.fU,RA.lk,e,ck S.ht]
  have hW:fq (aH d.i.op d.b (t.eX d.i.c)):=A9 S.b (S.o.R.r _)
  exact h.aj (t:=t) S.ht (hU1.put hI.a) (hR1.put hW) (.inl rfl)
end
end Go.SLYtefdijgllbkmfaaGreat
namespace Go.SLYtefdijgllbkmfaaGreat
open Go Go.RowKit Go.MapKept
def sW(e:MapEntry):Int×Int:=(match e.key with | .int _ k=>k | _=>0,match e.val with | .int _ k=>k | _=>0)
theorem FD{es:List MapEntry}{c:Nat}{l:List (Int×Int)}(h:lx es c l):es.map sW=l∧ ∀ e∈es,e.key = .int .i64 (sW e).1∧e.val = .int .i64 (sW e).2:=by
 have h1:=h.1
 clear h
 induction es generalizing l with
 | nil =>
  cases l with
  | nil=>exact⟨rfl,fun e he=>by cases he⟩
  | cons p l=>cases h1
 | cons e es ih =>
  cases l with
  | nil=>cases h1
  | cons p l =>
   simp only[List.map_cons,List.cons.injEq,Prod.mk.injEq] at h1
   obtain⟨⟨hk,hv⟩,ht⟩:=h1
   obtain⟨i1,i2⟩:=ih ht
   have e1:sW e=p:=by unfold sW;rw[hk,hv]
   refine⟨by rw[List.map_cons,i1,e1],fun x hx=>?_⟩
   rcases List.mem_cons.1 hx with rfl | hx
   ·rw[e1];exact⟨hk,hv⟩
   ·exact i2 x hx
def findI(k:Int):List (Int×Int)→Nat→Option (Nat×Value)
 | [],_=>none
 | p::l,i=>if k=p.1 then some (i,.int .i64 p.2) else findI k l (i+1)
theorem pn{k:Int}:∀ {es:List MapEntry} {l:List (Int×Int)} {i:Nat},es.map (fun e=>(e.key,e.val))=l.map (fun p=>(Value.int .i64 p.1,Value.int .i64 p.2))→Instr.findNow (.int .i64) (.int .i64 k) es i=some (findI k l i)
 | [],[],_,_=>rfl
 | [],_::_,_,h=>by cases h
 | _::_,[],_,h=>by cases h
 | e::es,p::l,i,h=>by
  simp only[List.map_cons,List.cons.injEq,Prod.mk.injEq] at h
  obtain⟨⟨hk,hv⟩,ht⟩:=h
  unfold Instr.findNow findI
  rw[hk,hv]
  by_cases e:k=p.1
  ·subst e;simp[Instr.sameNow]
  ·simp only[Instr.sameNow,if_pos,if_neg e]
   rw[show(k == p.1)=false from by simpa using e]
   exact pn ht
theorem uY{k:Int}:∀ (l:List (Int×Int)) (i:Nat),(findI k l i).map (·.2)=(cF l k).map (Value.int .i64)
 | [],_=>rfl
 | p::l,i=>by
  unfold findI cF
  rw[List.find?_cons]
  by_cases e:k=p.1
  ·rw[if_pos e];simp[e]
  ·rw[if_neg e,show decide (p.1=k)=false from by simpa using fun h=>e h.symm]
   exact uY l (i+1)
theorem sX{k:Int}:∀ {l:List (Int×Int)} {i j:Nat} {v:Value},findI k l i=some (j,v)→ ∃ n v',j=i+n∧l[n]?=some (k,v')∧ ∀ v'',mapSet l k v''=l.set n (k,v'')
 | [],_,_,_,h=>by cases h
 | p::l,i,j,v,h=>by
  unfold findI at h
  by_cases e:k=p.1
  ·rw[if_pos e] at h;cases h
   exact⟨0,p.2,rfl,by rw[e];rfl,fun v''=>by rw[mapSet,if_pos e.symm];rfl⟩
  ·rw[if_neg e] at h
   obtain⟨n,v',h1,h2,h3⟩:=sX h
   exact⟨n+1,v',by omega,by simpa using h2,fun v''=>by rw[mapSet,if_neg (fun h=>e h.symm),h3];rfl⟩
theorem sY{k:Int}:∀ {l:List (Int×Int)} {i:Nat},findI k l i=none→(∀ p∈l,p.1≠k)∧ ∀ v,mapSet l k v=l++[(k,v)]
 | [],_,_=>⟨fun p hp=>(by cases hp),fun v=>rfl⟩
 | p::l,i,h=>by
  unfold findI at h
  by_cases e:k=p.1
  ·rw[if_pos e] at h;cases h
  ·rw[if_neg e] at h
   obtain⟨h1,h2⟩:=sY h
   refine⟨fun q hq=>?_,fun v=>by rw[mapSet,if_neg (fun h=>e h.symm),h2];rfl⟩
   rcases List.mem_cons.1 hq with rfl | hq
   ·exact fun h=>e h.symm
   ·exact h1 q hq
theorem mem_modify{α:Type}{l:List α}{n:Nat}{f:α→α}{x:α}(h:x∈l.modify n f):x∈l∨ ∃ y∈l,x=f y:=by
 induction l generalizing n with
 | nil=>simp at h
 | cons y l ih =>
  cases n with
  | zero =>
   rw[List.modify_zero_cons] at h
   rcases List.mem_cons.1 h with rfl | h
   ·exact .inr ⟨y,by simp,rfl⟩
   ·exact .inl (.tail _ h)
  | succ n =>
   rw[List.modify_succ_cons] at h
   rcases List.mem_cons.1 h with rfl | h
   ·exact .inl (by simp)
   ·rcases ih h with h | ⟨z,hz,rfl⟩
    ·exact .inl (.tail _ h)
    ·exact .inr ⟨z,.tail _ hz,rfl⟩
theorem z7{α β:Type}{l:List α}{n:Nat}{f:α→α}{g:α→β}(h:∀ x,g (f x)=g x):(l.modify n f).map g=l.map g:=by
 induction l generalizing n with
 | nil=>simp
 | cons y l ih =>
  cases n with
  | zero=>simp[h]
  | succ n=>simp[ih]
theorem sZ{α β:Type}{l:List α}{n:Nat}{f:α→α}{g:α→β}{b:β}(h:∀ x,g (f x)=b):(l.modify n f).map g=(l.map g).set n b:=by
 induction l generalizing n with
 | nil=>simp
 | cons y l ih =>
  cases n with
  | zero=>simp[h]
  | succ n=>simp[ih]
theorem HA{l:List (Int×Int)}{n:Nat}{k v v':Int}(h:l[n]?=some (k,v')):(l.set n (k,v)).map (·.1)=l.map (·.1):=by
 rw[List.map_set]
 exact eF (by rw[List.getElem?_map,h];rfl)
theorem JW{es:List MapEntry}{c n:Nat}{l:List (Int×Int)}{k v v':Int}(h:lx es c l)(hn:l[n]?=some (k,v')) :
  lx (es.modify n fun e=>{e with key:=.int .i64 k,val:=.int .i64 v }) c (l.set n (k,v)):=by
 obtain⟨h1,h2,h3,h4⟩:=h
 refine⟨?_,by rw[HA hn];exact h2,fun e he=>?_,?_⟩
 ·rw[sZ (f:=fun e:MapEntry=>{e with key:=.int .i64 k,val:=.int .i64 v }) (g:=fun e:MapEntry=>(e.key,e.val)) (b:=(Value.int .i64 k,Value.int .i64 v)) (fun _=>rfl),h1,List.map_set]
 ·rcases mem_modify he with he | ⟨y,hy,rfl⟩
  ·exact h3 e he
  ·exact h3 y hy
 ·rw[z7 (f:=fun e:MapEntry=>{e with key:=.int .i64 k,val:=.int .i64 v }) (g:=fun e:MapEntry=>e.born) (fun _=>rfl)];exact h4
theorem HB{es:List MapEntry}{c:Nat}{l:List (Int×Int)}{k v:Int}(h:lx es c l)(hn:∀ p∈l,p.1≠k) :
  lx (es++[{key:=.int .i64 k,val:=.int .i64 v,born:=c }]) (c+1) (l++[(k,v)]):=by
 obtain⟨h1,h2,h3,h4⟩:=h
 refine⟨by simp[h1],?_,fun e he=>?_,?_⟩
 ·rw[List.map_append,List.nodup_append]
  refine⟨h2,by simp,fun a ha b hb=>?_⟩
  obtain⟨p,hp,rfl⟩:=List.mem_map.1 ha
  simp only[List.map_cons,List.map_nil,List.mem_cons,List.not_mem_nil,or_false] at hb
  subst hb;exact hn p hp
 ·rcases List.mem_append.1 he with he | he
  ·have:=h3 e he;omega
  ·simp only[List.mem_cons,List.not_mem_nil,or_false] at he;subst he;exact Nat.lt_succ_self _
 ·rw[List.map_append,List.nodup_append]
  refine⟨h4,by simp,fun a ha b hb=>?_⟩
  obtain⟨e,he,rfl⟩:=List.mem_map.1 ha
  simp only[List.map_cons,List.map_nil,List.mem_cons,List.not_mem_nil,or_false] at hb
  subst hb;have:=h3 e he;omega
theorem JX{l:List (Int×Int)}{n:Nat}{k v:Int}(hd:(l.map (·.1)).Nodup)(h:l[n]?=some (k,v)):dT l k=l.eraseIdx n:=by
 induction l generalizing n with
 | nil=>simp at h
 | cons p l ih =>
  simp only[List.map_cons,List.nodup_cons] at hd
  cases n with
  | zero =>
   simp at h;subst h
   unfold dT
   rw[List.filter_cons,if_neg (by simp),List.eraseIdx_cons_zero,List.filter_eq_self]
   intro q hq
   have:q.1≠k:=fun e=>hd.1 (List.mem_map.2 ⟨q,hq,e⟩)
   simpa using this
  | succ n =>
   have hn:l[n]?=some (k,v):=by simpa using h
   have hm:k∈l.map (·.1):=List.mem_map.2 ⟨_,List.mem_of_getElem? hn,rfl⟩
   unfold dT
   rw[List.filter_cons,if_pos (by have:p.1≠k:=(fun e=>hd.1 (by rw[e];exact hm));simpa using this),List.eraseIdx_cons_succ]
   congr 1
   exact ih hd.2 hn
theorem JY{l:List (Int×Int)}{k:Int}(h:∀ p∈l,p.1≠k):dT l k=l:=by
 unfold dT
 rw[List.filter_eq_self]
 exact fun q hq=>by simpa using h q hq
theorem kF{α β:Type}(f:α→β):∀ (l:List α) (n:Nat),(l.eraseIdx n).map f=(l.map f).eraseIdx n
 | [],_=>rfl
 | x::l,0=>rfl
 | x::l,n+1=>by rw[List.eraseIdx_cons_succ,List.map_cons,List.map_cons,List.eraseIdx_cons_succ,kF f l n]
theorem JZ{es:List MapEntry}{c n:Nat}{l:List (Int×Int)}(h:lx es c l):lx (es.eraseIdx n) c (l.eraseIdx n):=by
 obtain⟨h1,h2,h3,h4⟩:=h
 refine⟨?_,?_,fun e he=>h3 e ((List.eraseIdx_sublist _ _).mem he),?_⟩
 ·rw[kF,kF,h1]
 ·rw[kF];exact h2.sublist (List.eraseIdx_sublist _ _)
 ·rw[kF];exact h4.sublist (List.eraseIdx_sublist _ _)
theorem FE{α:Type}(es:Array α)(x:α):(es.toList++[x]).toArray=es.push x:=by
 apply Array.ext'
 simp
theorem HC{α:Type}(es:Array α)(n:Nat)(f:α→α):(es.toList.modify n f).toArray=es.modify n f:=by
 apply Array.ext'
 simp
theorem CW{α:Type}(es:Array α)(n:Nat):(es.toList.eraseIdx n).toArray=es.eraseIdxIfInBounds n:=by
 apply Array.ext'
 simp
theorem ia{P:Program}{w:World}{r:Nat}{o:Obj}(hb:w.heap[r]?=some o)(hc:cellsB o=false:=by rfl):(getObj r).run P w = .ok o w:=by
 cases o with
 | cells=>exact absurd hc (by simp[cellsB])
 | _=>simp[getObj,Sem.run,hb]
theorem pq{P:Program}{w:World}{r:Nat}{o:Obj}(o':Obj)(hb:w.heap[r]?=some o)(hc:cellsB o=false:=by rfl):(setObj r o').run P w = .ok () {w with heap:=w.heap.setIfInBounds r o' }:=by
 cases o with
 | cells=>exact absurd hc (by simp[cellsB])
 | _=>simp[setObj,Sem.run,hb]
section
variable{P:Program}{W:World}{N:Nat}{L:List (Nat×Option Value)}{H R:List aa}{T:TypeId}{O:Array Oper}
theorem J0{m:Nat}{l:List (Int×Int)}(t:At H (m4 m l)){w:World}(s:Sat W w (seps H)):∃ es c,lx es c l∧w.heap[m]?=some (.map es.toArray c):=by
 obtain⟨R,s⟩:=t.sat s
 obtain⟨h,⟨h1,h2,⟨es,c,ho,a⟩,r,d,e'⟩,hin⟩:=s.own
 simp only[seps,aP] at a
 exact⟨es,c,ho,(jX (b:=m) (x:=.map es.toArray c) (R:=R) {s with own:=⟨h,⟨h1,h2,a,r,d,e'⟩,hin⟩ }).2.1⟩
theorem Y.La{t kt vt:TypeId}{x y:Operand}{m:Nat}{l:List (Int×Int)}{k:Int}(hu:P.underlying t=some (.map kt vt))(hk:P.underlying kt=some (.int .i64))(hz:∀ w,(zeroValue vt).run P w = .ok (.int .i64 0) w)(hx:ev L x=some (.map (some m)))(hy:ev L y=some (.int .i64 k))(ht:At H (m4 m l)) :
  Y P W N (.lookup t x y false) T L H (.int .i64 ((cF l k).getD 0)):=fun dst pos after guard a w ha hs=>by
 simp only[execOp,ha.eval hx,ha.eval hy]
 refine bJ ?_
 obtain⟨es,c,ho,hb⟩:=J0 ht hs
 have hf:=run_findKey (P:=P) (w:=w) hk (pn (k:=k) (i:=0) ho.1)
 have hc:=run_checkKey (P:=P) (w:=w) hk (k:=.int .i64 k) rfl (es.toArray.isEmpty) 9999
 have hg:=uY (k:=k) l 0
 unfold Instr.lookup
 simp only[Sem.run_bind,run_underlying hu,Result.andThen_ok,ia hb,Sem.run_pure,hc,hf]
 cases e:findI k l 0 with
 | none =>
  rw[e] at hg
  have:cF l k=none:=by simpa using hg.symm
  simp[hz,this]
 | some p =>
  rw[e] at hg
  cases hm:cF l k with
  | none=>rw[hm] at hg;cases hg
  | some v =>
   rw[hm] at hg
   have:p.2 = .int .i64 v:=by simpa using hg
   simp[this]
theorem af.IG{o:Oper}{m:Nat}{l l':List (Int×Int)}(hd:o.dst=none)(t:Take H (m4 m l) R)
  (h:∀ a w es c,Env N L a→w.heap[m]?=some (.map es c)→lx es.toList c l→ ∃ es' c',lx es' c' l'∧((execOp a.eval o).run P w = .ok .skip {w with heap:=w.heap.setIfInBounds m (.map es'.toArray c') }∨ ∃ v,(execOp a.eval o).run P w = .ok (.value v) {w with heap:=w.heap.setIfInBounds m (.map es'.toArray c') })) :
  af P W N o L H (fun L1 H1=>L1=L∧H1=m4 m l'::R):=fun a w ha hs Kp hK=>by
 rw[t.seps] at hs
 obtain⟨hp,⟨h1,h2,⟨es,c,ho,am⟩,r,d,e'⟩,hin⟩:=hs.own
 simp only[seps,aP] at am
 have hs2:Sat W w (sep (iT m (.map es.toArray c)) (seps R)):={hs with own:=⟨hp,⟨h1,h2,am,r,d,e'⟩,hin⟩ }
 obtain⟨es',c',ho',hr⟩:=h a w es.toArray c ha (jX hs2).2.1 (by simpa using ho)
 have hs3:=hs2.setObj (.map es'.toArray c') rfl
 have hs4:Sat W {w with heap:=w.heap.setIfInBounds m (.map es'.toArray c') } (seps (m4 m l'::R)) :=
  hs3.mono (aS (fun g b=>⟨es',c',ho',by simpa only[seps,aP] using b⟩) fun _ b=>b)
 unfold Oper.wp
 rcases hr with hr | ⟨v,hr⟩
 ·rw[hr]
  simp only[Oper.upon]
  rw[hd]
  exact hK _ _ ⟨rfl,rfl⟩ _ _ ⟨ha.size,ha.get,ha.defers⟩ hs4
 ·rw[hr]
  simp only[Oper.upon]
  rw[hd]
  exact hK _ _ ⟨rfl,rfl⟩ _ _ ⟨ha.size,ha.get,ha.defers⟩ hs4
theorem af.mapSet{t kt vt:TypeId}{x y z:Operand}{pos:String}{after:Array Edge}{guard:Option (Nat×Bool)}{m:Nat}{l:List (Int×Int)}{k v:Int}(hu:P.underlying t=some (.map kt vt))(hk:P.underlying kt=some (.int .i64))(hx:ev L x=some (.map (some m)))(hy:ev L y=some (.int .i64 k))(hz:ev L z=some (.int .i64 v))(ht:Take H (m4 m l) R) :
  af P W N ⟨none,.mapUpdate t x y z,T,pos,after,guard⟩ L H (fun L1 H1=>L1=L∧H1=m4 m (mapSet l k v)::R) :=
 af.IG rfl ht fun a w es c ha hb ho=>by
  have hf:=run_findKey (P:=P) (w:=w) hk (pn (k:=k) (i:=0) ho.1)
  have hc:=run_checkKey (P:=P) (w:=w) hk (k:=.int .i64 k) rfl false 9999
  cases e:findI k l 0 with
  | none =>
   obtain⟨h1,h2⟩:=sY e
   refine⟨es.toList++[{key:=.int .i64 k,val:=.int .i64 v,born:=c }],c+1,by rw[h2];exact HB ho h1,.inl ?_⟩
   rw[e] at hf
   simp only[execOp,ha.eval hx,ha.eval hy,ha.eval hz]
   show(Instr.mapUpdate t (.map (some m)) (.int .i64 k) (.int .i64 v) >>= fun _=>pure Next.skip).run P w=_
   simp only[Instr.mapUpdate,Sem.run_bind,run_underlying hu,Result.andThen_ok,ia hb,hc,hf,pq _ hb,Sem.run_pure,FE]
  | some p =>
   obtain⟨j,val⟩:=p
   obtain⟨n,v',hj,hn,h3⟩:=sX e
   obtain rfl:j=n:=by omega
   refine⟨es.toList.modify j fun e=>{e with key:=.int .i64 k,val:=.int .i64 v },c,by rw[h3];exact JW ho hn,.inl ?_⟩
   rw[e] at hf
   have hkey:((es[j]?).map (·.key)).getD (.int .i64 k) = .int .i64 k:=by
    have h1:=ho.1
    have:(es.toList.map fun e=>(e.key,e.val))[j]?=some (.int .i64 k,.int .i64 v'):=by rw[h1,List.getElem?_map,hn];rfl
    rw[List.getElem?_map] at this
    cases he:es.toList[j]? with
    | none=>rw[he] at this;cases this
    | some en =>
     rw[he] at this
     have h5:en.key = .int .i64 k:=by simpa using congrArg (fun o=>o.map Prod.fst) this
     rw[← Array.getElem?_toList,he]
     exact h5
   simp only[execOp,ha.eval hx,ha.eval hy,ha.eval hz]
   show(Instr.mapUpdate t (.map (some m)) (.int .i64 k) (.int .i64 v) >>= fun _=>pure Next.skip).run P w=_
   simp only[Instr.mapUpdate,Sem.run_bind,run_underlying hu,Result.andThen_ok,ia hb,hc,hf,hkey,run_keyThatStays (d:=.int .i64) (k:=.int .i64 k) rfl,pq _ hb,Sem.run_pure,HC]
theorem af.dT{t kt vt:TypeId}{ts:Array TypeId}{x y:Operand}{pos:String}{after:Array Edge}{guard:Option (Nat×Bool)}{m:Nat}{l:List (Int×Int)}{k:Int}(hu:P.underlying t=some (.map kt vt))(hk:P.underlying kt=some (.int .i64))(hx:ev L x=some (.map (some m)))(hy:ev L y=some (.int .i64 k))(ht:Take H (m4 m l) R)(hts:ts[0]?=some t) :
  af P W N ⟨none,.call ⟨.builtin .delete, #[x,y],ts⟩,T,pos,after,guard⟩ L H (fun L1 H1=>L1=L∧H1=m4 m (SLYtefdijgllbkmfaaGreat.dT l k)::R) :=
 af.IG rfl ht fun a w es c ha hb ho=>by
  have hf:=run_findKey (P:=P) (w:=w) hk (pn (k:=k) (i:=0) ho.1)
  have hc:=run_checkKey (P:=P) (w:=w) hk (k:=.int .i64 k) rfl es.isEmpty 9999
  have hrun:∀ o:Option (Nat×Value),Instr.findKey kt (.int .i64 k) es.toList=Instr.findKey kt (.int .i64 k) es.toList:=fun _=>rfl
  cases e:findI k l 0 with
  | none =>
   obtain⟨h1,h2⟩:=sY e
   refine⟨es.toList,c,by rw[JY h1];exact ho,.inr ⟨.tuple #[],?_⟩⟩
   rw[e] at hf
   simp[execOp,resolve,invoke,builtin,ha.eval hx,ha.eval hy,Builtin.delete_,hts,run_underlying hu,ia hb,hc,hf,pq _ hb]
  | some p =>
   obtain⟨j,val⟩:=p
   obtain⟨n,v',hj,hn,h3⟩:=sX e
   obtain rfl:j=n:=by omega
   refine⟨es.toList.eraseIdx j,c,by rw[JX ho.2.1 hn];exact JZ ho,.inr ⟨.tuple #[],?_⟩⟩
   rw[e] at hf
   simp[execOp,resolve,invoke,builtin,ha.eval hx,ha.eval hy,Builtin.delete_,hts,run_underlying hu,ia hb,hc,hf,pq _ hb,CW]
end
end Go.SLYtefdijgllbkmfaaGreat
namespace Go.SLYtefdijgllbkmfaaGreat
open Go Go.RowKit Go.MapKept
def IH(it m c:Nat)(seen:List MapEntry):aa:=iT it (.mapIter (some m) c (seen.map (·.born)).toArray c)
def nextA:Option MapEntry→Array Value
 | none => #[.bool false]
 | some e => #[.bool true,e.key,e.val]
def BG(o:Option MapEntry):Value:=.tuple (nextA o)
theorem J1(o:Option MapEntry):(nextA o)[0]?=some (.bool o.isSome):=by cases o <;> rfl
section
variable{P:Program}{W:World}{N:Nat}{L:List (Nat×Option Value)}{H R:List aa}{T:TypeId}{O:Array Oper}
theorem wQ{m:Nat}{x:Obj}(t:At H (iT m x)){w:World}(s:Sat W w (seps H)):w.heap[m]?=some x:=by
 obtain⟨R,s⟩:=t.sat s
 exact(jX s).2.1
theorem af.J2{t kt vt:TypeId}{x:Operand}{pos:String}{after:Array Edge}{guard:Option (Nat×Bool)}{d m c:Nat}{es:List MapEntry}(hN:Nat.blt d N=true)(hu:P.underlying t=some (.map kt vt))(hx:ev L x=some (.map (some m)))(ht:At H (iT m (.map es.toArray c))) :
  af P W N ⟨some d,.range t x,T,pos,after,guard⟩ L H (fun L1 H1=>∃ it,L1=(d,some (ptr it))::L∧H1=IH it m c []::H):=fun a w ha hs Kp hK=>by
 have hb:=wQ ht hs
 have hrun:(execOp a.eval ⟨some d,.range t x,T,pos,after,guard⟩).run P w = .ok (.value (ptr w.heap.size)) (w.alloc (.mapIter (some m) c #[] c)):=by
  simp only[execOp,ha.eval hx]
  show(Instr.range t (.map (some m)) >>= fun x=>pure (Next.value x)).run P w=_
  simp[Instr.range,run_underlying hu,ia hb]
 unfold Oper.wp
 rw[hrun]
 simp only[Oper.upon]
 exact hK _ _ ⟨w.heap.size,rfl,rfl⟩ _ _ (ha.put (Nat.blt_eq.mp hN) _) (hs.xa _ rfl)
def mn(es:Array MapEntry)(seen:Array Nat):Array MapEntry:=es.filter fun e => !seen.contains e.born
theorem FF{es:Array MapEntry}{seen:Array Nat}{c:Nat}(h:∀ e∈es.toList,e.born<c):(mn es seen).filter (fun e=>decide (e.born<c))=mn es seen:=by
 rw[Array.filter_eq_self]
 intro e he
 have:e∈es:=(Array.mem_filter.1 he).1
 simpa using h e (by simpa using this)
theorem FG{es:Array MapEntry}{seen:Array Nat}{c:Nat}(h:∀ e∈es.toList,e.born<c):(mn es seen).filter (fun e=>decide (e.born≥c)) = #[]:=by
 rw[Array.filter_eq_empty_iff]
 intro e he
 have:e∈es:=(Array.mem_filter.1 he).1
 have:=h e (by simpa using this)
 simp;omega
theorem choose_lt{n:Nat}(hn:0<n)(w:World):∃ i w',(choose (.mapNext n)).run P w = .ok i w'∧i<n∧(w'=w∨w'=w.drew):=by
 rw[run_choose_drew]
 by_cases h:n≤1
 ·exact⟨0,w,by simp[Question.forced,h],hn,.inl rfl⟩
 ·exact⟨(Question.mapNext n).cut (w.tape w.drawn (.mapNext n)),w.drew,by simp[Question.forced,h],Nat.mod_lt _ hn,.inr rfl⟩
def uZ(l:Array MapEntry):Array (Option MapEntry):=(if l.isEmpty=true then #[none] else #[])++(l ++ #[]).map some
def stepN(it m c:Nat)(sn:Array Nat):Option (Option MapEntry)→Sem Value
 | some (some e)=>do
  setObj it (.mapIter (some m) c (sn.push e.born) c)
  pure (.tuple #[.bool true,e.key,e.val])
 | some none=>pure (.tuple #[.bool false])
 | none => stuck "Next: no such candidate"
theorem FH{it m c:Nat}{es:Array MapEntry}{sn:Array Nat}{w:World}(hit:w.heap[it]?=some (.mapIter (some m) c sn c))(hbm:w.heap[m]?=some (.map es c))(hc:∀ e∈es.toList,e.born<c) :
  (Instr.next (ptr it) false T).run P w=((choose (.mapNext (uZ (mn es sn)).size)).run P w).andThen fun i w'=>(stepN it m c sn (uZ (mn es sn))[i]?).run P w':=by
 have hguard:(!sn.isEmpty && !es.isEmpty && es.all fun e=>decide (e.born≥c))=false:=by
  obtain⟨l⟩:=es
  cases l with
  | nil=>simp
  | cons e es =>
   have:=hc e (by simp)
   simp;intro _ _;omega
 have hold:=FF (seen:=sn) hc
 have hnew:=FG (seen:=sn) hc
 unfold mn at hold hnew
 unfold Instr.next
 simp only[Sem.run_bind,ia hit,Result.andThen_ok,ia hbm,hguard,Bool.false_eq_true,if_false]
 unfold mn
 rw[hold,hnew]
 show((choose (.mapNext (uZ (mn es sn)).size)).run P w).andThen _=_
 rfl
theorem Aa{s:Sem Value}{v:Value}{w w':World}(h:s.run P w = .ok v w'):(do pure (Next.value (← s)):Sem Next).run P w = .ok (.value v) w':=by
 simp[h]
theorem af.eE{x:Operand}{pos:String}{after:Array Edge}{guard:Option (Nat×Bool)}{d it m c:Nat}{es seen:List MapEntry}(hN:Nat.blt d N=true)(hx:ev L x=some (ptr it))(ht:Take H (IH it m c seen) R)(hm:At R (iT m (.map es.toArray c)))(hc:∀ e∈es,e.born<c) :
  af P W N ⟨some d,.next x false,T,pos,after,guard⟩ L H (fun L1 H1=>∃ o:Option MapEntry,((o=none→ ∀ e∈es,e.born∈seen.map (fun e=>e.born))∧ ∀ e,o=some e→e∈es∧¬e.born∈seen.map (fun e=>e.born))∧L1=(d,some (BG o))::L∧H1=IH it m c (seen++o.toList)::R):=fun a w ha hs Kp hK=>by
 rw[ht.seps] at hs
 obtain⟨sn,hsn⟩:∃ sn,sn=(seen.map (fun e=>e.born)).toArray:=⟨_,rfl⟩
 have hit:w.heap[it]?=some (.mapIter (some m) c sn c):=by rw[hsn];exact(jX (b:=it) (x:=.mapIter (some m) c (seen.map (·.born)).toArray c) hs).2.1
 have hbm:w.heap[m]?=some (.map es.toArray c):=wQ hm hs.right
 have hdone:∀ o:Option MapEntry,((o=none→ ∀ e∈es,e.born∈seen.map (fun e=>e.born))∧ ∀ e,o=some e→e∈es∧¬e.born∈seen.map (fun e=>e.born))→ ∀ w',(Instr.next (ptr it) false T).run P w = .ok (BG o) w'→Sat W w' (sep (IH it m c (seen++o.toList)) (seps R))→Oper.wp P ⟨some d,.next x false,T,pos,after,guard⟩ a w Kp QF:=fun o ho w' hr hs'=>by
  have h2:(execOp a.eval ⟨some d,.next x false,T,pos,after,guard⟩).run P w = .ok (.value (BG o)) w':=by
   simp only[execOp,ha.eval hx]
   exact Aa hr
  unfold Oper.wp
  rw[h2]
  simp only[Oper.upon]
  exact hK _ _ ⟨o,ho,rfl,rfl⟩ _ _ (ha.put (Nat.blt_eq.mp hN) _) hs'
 have hstart:=FH (P:=P) (T:=T) hit hbm (by simpa using hc)
 have hin:∀ e,e∈mn es.toArray sn↔e∈es∧¬e.born∈seen.map (fun e=>e.born):=fun e=>by
  unfold mn
  rw[Array.mem_filter,hsn]
  simp
 generalize hl:mn es.toArray sn=l at hstart hin
 by_cases he:l = #[]
 ·subst he
  refine hdone none ⟨fun _ e hem=>Decidable.byContradiction fun hn=>?_,fun e h=>(by cases h)⟩ w ?_ (by simpa using hs)
  ·have:=(hin e).2 ⟨hem,hn⟩
   simp at this
  ·rw[hstart]
   simp[Question.forced,BG,nextA,uZ,stepN]
 ·have hne:l.isEmpty=false:=by
   cases h:l.isEmpty
   ·rfl
   ·exact absurd (by simpa using h) he
  have hpos:0<l.size:=by
   rcases Nat.eq_zero_or_pos l.size with h | h
   ·exact absurd (Array.eq_empty_of_size_eq_zero h) he
   ·exact h
  have hcs:uZ l=l.map some:=by unfold uZ;rw[hne];simp
  rw[hcs,Array.size_map] at hstart
  obtain⟨i,w',hr,hi,hw⟩:=choose_lt (P:=P) hpos w
  have hei:(l.map some)[i]?=some (some l[i]):=by simp[hi]
  have hmem:=(hin l[i]).1 (Array.getElem_mem hi)
  have hs':Sat W w' (sep (IH it m c seen) (seps R)):=by
   rcases hw with rfl | rfl
   ·exact hs
   ·exact hs.drew
  have hit':w'.heap[it]?=some (.mapIter (some m) c sn c):=by rw[hsn];exact(jX (b:=it) (x:=.mapIter (some m) c (seen.map (·.born)).toArray c) hs').2.1
  refine hdone (some l[i]) ⟨fun h=>(by cases h),fun e h=>(by cases h;exact hmem)⟩ {w' with heap:=w'.heap.setIfInBounds it (.mapIter (some m) c (sn.push l[i].born) c) } ?_ ?_
  ·rw[hstart,hr]
   simp only[Result.andThen_ok,hei,stepN,Sem.run_bind,pq _ hit',Sem.run_pure]
   rfl
  ·have:=hs'.setObj (.mapIter (some m) c (sn.push l[i].born) c) rfl
   refine this.eq ?_
   unfold IH
   rw[hsn]
   congr 3
   simp
theorem Y.J3{x:Operand}{it m c:Nat}{es seen:List MapEntry}{e:MapEntry}(hx:ev L x=some (ptr it))(ht:At H (IH it m c (seen++[e])))(hm:At H (iT m (.map es.toArray c)))(he:e∈es)(hd:(es.map (·.born)).Nodup) :
  Y P W N (.entry x) T L H (.tuple #[e.key,e.val]):=fun dst pos after guard a w ha hs=>by
 simp only[execOp,ha.eval hx]
 refine bJ ?_
 have hit:=wQ ht hs
 have hbm:=wQ hm hs
 have hf:es.toArray.find? (·.born == e.born)=some e:=by
  rw[List.find?_toArray]
  clear hm hbm
  induction es with
  | nil=>cases he
  | cons y es ih =>
   simp only[List.map_cons,List.nodup_cons] at hd
   rw[List.find?_cons]
   rcases List.mem_cons.1 he with rfl | he'
   ·simp
   ·have:y.born≠e.born:=fun h=>hd.1 (by rw[h];exact List.mem_map_of_mem he')
    rw[show(y.born == e.born)=false from by simpa using this]
    exact ih he' hd.2
 unfold Instr.entry
 simp[ia hit,ia hbm,hf]
end
end Go.SLYtefdijgllbkmfaaGreat
namespace Go.SLYtefdijgllbkmfaaGreat
open Go Go.RowKit
theorem s4(x:Int):∀ l:List Int,(dH x l).Perm (x::l)
 | []=>.refl _
 | y::l=>by
  rw[dH]
  split
  ·exact .refl _
  ·exact((s4 x l).cons y).trans (.swap x y l)
theorem iS:∀ l:List Int,(gz l).Perm l
 | []=>.refl _
 | x::l=>(s4 x (gz l)).trans ((iS l).cons x)
theorem s5(x:Int):∀ {l:List Int},l.Pairwise (·≤ ·)→(dH x l).Pairwise (·≤ ·)
 | [],_=>by simp[dH]
 | y::l,h=>by
  rw[dH]
  have hy:=(List.pairwise_cons.1 h)
  split
  ·rename_i hx
   refine List.pairwise_cons.2 ⟨fun z hz=>?_,h⟩
   rcases List.mem_cons.1 hz with rfl | hz
   ·exact hx
   ·exact Int.le_trans hx (hy.1 z hz)
  ·rename_i hx
   refine List.pairwise_cons.2 ⟨fun z hz=>?_,s5 x hy.2⟩
   rcases List.mem_cons.1 ((s4 x l).mem_iff.1 hz) with rfl | hz
   ·omega
   ·exact hy.1 z hz
theorem iy:∀ l:List Int,(gz l).Pairwise (·≤ ·)
 | []=>.nil
 | x::l=>s5 x (iy l)
theorem qg{a b:List Int}(ha:a.Pairwise (·≤ ·))(hb:b.Pairwise (·≤ ·))(h:a.Perm b):a=b :=
 List.Perm.eq_of_pairwise (fun _ _ _ _ h1 h2=>Int.le_antisymm h1 h2) ha hb h
theorem Ab(l:List Int):l.mergeSort (fun x y=>decide (x≤y))=gz l:=by
 refine qg ?_ (iy l) ((List.mergeSort_perm l _).trans (iS l).symm)
 have:=List.pairwise_mergeSort (le:=fun x y:Int=>decide (x≤y)) (fun a b c h1 h2=>by simp only[decide_eq_true_eq] at *;omega) (fun a b=>by simp only[Bool.or_eq_true,decide_eq_true_eq];omega) l
 exact this.imp fun h=>by simpa using h
theorem wR{a b:List Int}(h:a.Perm b):gz a=gz b:=qg (iy a) (iy b) ((iS a).trans (h.trans (iS b).symm))
theorem kG(l:List Int):(gz l).length=l.length:=(iS l).length_eq
def kH(n:Int)(l:List MapEntry):List Int:=(l.filter fun e=>decide ((sW e).2≤n)).map fun e=>(sW e).1
theorem HD{n:Int}{l:List MapEntry}{e:MapEntry}(h:(sW e).2≤n):kH n (l++[e])=kH n l++[(sW e).1]:=by
 unfold kH;rw[List.filter_append];simp[h]
theorem J4{n:Int}{l:List MapEntry}{e:MapEntry}(h:¬(sW e).2≤n):kH n (l++[e])=kH n l:=by
 unfold kH;rw[List.filter_append];simp[h]
theorem HE(n:Int)(l:List MapEntry):(kH n l).length≤l.length:=by unfold kH;rw[List.length_map];exact List.length_filter_le _ _
structure iF(es seen:List MapEntry):Prop where
 nd:(seen.map fun e=>e.born).Nodup
 sub:∀ e∈seen,e∈es
theorem iF.zero(es:List MapEntry):iF es []:=⟨.nil,fun e h=>by cases h⟩
theorem iF.len{es seen:List MapEntry}(h:iF es seen):seen.length≤es.length:=by
 have:=List.Nodup.length_le_of_subset (l₂ := es.map fun e=>e.born) h.nd (fun b hb=>by
  obtain⟨e,he,rfl⟩:=List.mem_map.1 hb
  exact List.mem_map.2 ⟨e,h.sub e he,rfl⟩)
 simpa using this
theorem iF.next{es seen:List MapEntry}(h:iF es seen){e:MapEntry}(he:e∈es)(hn:¬e.born∈seen.map (fun e=>e.born)):iF es (seen++[e]):=by
 refine⟨?_,fun x hx=>?_⟩
 ·rw[List.map_append,List.nodup_append]
  refine⟨h.nd,by simp,fun a ha b hb=>?_⟩
  simp only[List.map_cons,List.map_nil,List.mem_cons,List.not_mem_nil,or_false] at hb
  subst hb
  exact fun e'=>hn (e' ▸ ha)
 ·rcases List.mem_append.1 hx with hx | hx
  ·exact h.sub x hx
  ·simp only[List.mem_cons,List.not_mem_nil,or_false] at hx;subst hx;exact he
theorem ln{α β:Type}{f:α→β}:∀ {l:List α},(l.map f).Nodup→l.Nodup
 | [],_=>.nil
 | x::l,h=>by
  simp only[List.map_cons,List.nodup_cons] at h
  exact List.nodup_cons.2 ⟨fun hx=>h.1 (List.mem_map_of_mem hx),ln h.2⟩
theorem iF.all{es seen:List MapEntry}(h:iF es seen)(hd:(es.map fun e=>e.born).Nodup)(ha:∀ e∈es,e.born∈seen.map (fun e=>e.born)):seen.Perm es:=by
 refine(List.perm_ext_iff_of_nodup (ln h.nd) (ln hd)).2 fun e=>⟨h.sub e,fun he=>?_⟩
 obtain⟨x,hx,hb⟩:=List.mem_map.1 (ha e he)
 have hxe:=h.sub x hx
 clear ha h
 have:x=e:=by
  induction es with
  | nil=>cases he
  | cons y es ih =>
   simp only[List.map_cons,List.nodup_cons] at hd
   rcases List.mem_cons.1 he with h1 | h1
   ·rcases List.mem_cons.1 hxe with h2 | h2
    ·rw[h1,h2]
    ·exact absurd (List.mem_map.2 ⟨x,h2,by rw[hb,h1]⟩) hd.1
   ·rcases List.mem_cons.1 hxe with h2 | h2
    ·exact absurd (List.mem_map.2 ⟨e,h1,by rw[← hb,h2]⟩) hd.1
    ·exact ih hd.2 h1 h2
 rwa [← this]
theorem BH{w:j6}{es seen:List MapEntry}{c:Nat}(ho:lx es c w.dY)(h:iF es seen)(ha:∀ e∈es,e.born∈seen.map (fun e=>e.born)):gz (kH (min (w.now+1) 1099511627776) seen)=w.due:=by
 have hp:=h.all ho.2.2.2 ha
 unfold j6.due
 refine wR ?_
 rw[← (FD ho).1,List.filter_map,List.map_map]
 exact(hp.filter _).map _
end Go.SLYtefdijgllbkmfaaGreat
namespace Go.SLYtefdijgllbkmfaaGreat
open Go Go.RowKit
variable{p0:eZ}
section
variable{k:Nat}{s:Spc}{r:RSp}{p q:List Int}
theorem Ok.cap(h:Ok k s p q):eg s.dK=true:=by
 have:=h.yW.1;unfold dD at this
 split at this
 ·assumption
 ·cases this
theorem Ok.snd(h:Ok k s p q){f:List Ins}(hf:f∈s.dK.funcs){i:Ins}(hi:i∈f):ez s.dK i=true:=by
 have:=h.yW.1;unfold dD at this
 rw[if_pos h.cap] at this
 split at this
 ·rename_i ha
  exact List.all_eq_true.1 (List.all_eq_true.1 ha f hf) i hi
 ·cases this
theorem Ok.ins(h:Ok k s p q){f:List Ins}(hf:f∈s.dK.funcs){i:Ins}(hi:i∈f):qK s i:=by
 have hs:=h.snd hf hi
 have hc:=h.cap
 unfold eg at hc
 simp only[Bool.and_eq_true,decide_eq_true_eq,within,List.all_eq_true] at hc
 obtain⟨⟨⟨⟨⟨⟨⟨⟨⟨⟨⟨c1,c2⟩,c3⟩,c4⟩,c5⟩,c6⟩,c7⟩,c8⟩,c9⟩,c10⟩,c11⟩,c12⟩:=hc
 have hg:=h.gt
 have hm:=hg.m
 have hcn:=hg.c
 have hsm:=hg.s
 have htb:=h.tb.1
 unfold ez at hs
 split at hs
 ·cases hs
 ·rename_i hcl
  simp only[Bool.and_eq_true] at hs
  obtain⟨⟨⟨-, -⟩,h3⟩,h4⟩:=hs
  have hop:1≤i.op∧i.op≤38:=by
   unfold cls at hcl
   split at hcl
   ·omega
   split at hcl
   ·omega
   split at hcl
   ·omega
   ·exact absurd rfl hcl
  have key:∀ {a:Int} {b:Bool} {n:Int},aR s.dK i.op=⟨a,b,n,false⟩→0≤n→i.n<n:=fun {a b n} e hn=>by
   rw[e] at h4
   unfold Form.below at h4
   dsimp only at h4
   rw[if_neg (by decide),if_neg (by omega)] at h4
   simp only[Bool.and_eq_true,decide_eq_true_eq] at h4
   exact h4.2
  refine⟨hop,fun ho=>?_,fun ho=>?_,fun ho=>?_,fun ho=>?_,fun ho=>?_,fun ho=>?_⟩
  ·exact key (a:=2) (b:=false) (n:=s.dK.funcs.length) (by unfold aR;repeat (first | rw[if_pos (by omega)] | rw[if_neg (by omega)])) (by omega)
  ·have:=key (a:=0) (b:=false) (n:=s.dK.aB) (by unfold aR;repeat (first | rw[if_pos (by omega)] | rw[if_neg (by omega)])) (by omega)
   omega
  ·have e:aR s.dK i.op=⟨0,true,s.dK.conds,false⟩:=by unfold aR;repeat (first | rw[if_pos (by omega)] | rw[if_neg (by omega)])
   have:=key e (by omega)
   rw[e] at h3
   dsimp only at h3
   rw[if_pos rfl] at h3
   simp only[Bool.and_eq_true,decide_eq_true_eq] at h3
   omega
  ·have:=key (a:=0) (b:=false) (n:=s.dK.conds) (by unfold aR;repeat (first | rw[if_pos (by omega)] | rw[if_neg (by omega)])) (by omega)
   omega
  ·have:=key (a:=0) (b:=false) (n:=s.dK.aU.length) (by unfold aR;repeat (first | rw[if_pos (by omega)] | rw[if_neg (by omega)])) (by omega)
   omega
  ·have:=key (a:=1) (b:=false) (n:=s.dK.aG.length) (by unfold aR;repeat (first | rw[if_pos (by omega)] | rw[if_neg (by omega)])) (by omega)
   omega
/-! a thread's step -/
theorem fh.next(h:fh p0 s r)(hO:Ok k s p q){n:Nat}{t:bo}(ht:s.thr[n]?=some (some t)):gE s.dK (r.t n)=eE s.dK t.hZ:=by
 have hT:=h.th n t ht
 have hf:=hT.fl
 have hp:=(hO.th n t ht).pc
 unfold gE eE
 rw[if_neg (by show ¬(t.fn<0∨t.pc<0);omega),show(r.t n).fn=t.fn from hT.f,show(r.t n).pc=t.pc from hT.p];rfl
theorem qK.of{s':Spc}{i:Ins}(h:qK s i)(e:s'.dK=s.dK)(e2:s'.ag=s.ag)(e3:s'.bA=s.bA):qK s' i:=⟨h.c,by rw[e];exact h.f,by rw[e2];exact h.m,by rw[e2];exact h.w,by rw[e2];exact h.g,by rw[e2];exact h.e,by rw[e3];exact h.p⟩
theorem fh.au(h:fh p0 s r){l:List Rec}:fh p0 {s with au:=l } {r with au:=l }:=⟨h.pg,h.tk,h.no,h.th,h.T,h.me,h.mx,h.cd,h.sm,h.sw,h.pp,h.bk,h.ak,h.nw,h.tl,h.tp,rfl,h.tr,h.ow,h.mw⟩
theorem aW.finish{d:Dng}{a:RA}(h:aW p0 d a):d.finish.1=a.e∧fh p0 d.finish.2 {a.s with au:=a.s.au++a.late }:=by
 refine⟨h.e.symm,?_⟩
 rw[h.s.rc,h.l]
 exact h.s.au
theorem FI{n:Nat}{t:bo}(ht:s.thr[n]?=some (some t)):s.at (n:Int)=some t:=ly ht
theorem fh.run(h:fh p0 s r)(hO:Ok k s [] [])(hR:ek s s.au)(hk:k≤1000000)(hr:s.au.length≤800000000){n:Nat}{t:bo}(ht:s.thr[n]?=some (some t))(hw:t.why=0){c:Int} :
  (s.run n c).1=(r.run s.dK n c).1∧(s.run n c).2.1=0∧fh p0 (s.run n c).2.2 (r.run s.dK n c).2:=by
 have hS:=hO.qP hk hr
 have hnx:=h.next hO ht
 have hw':¬t.why≠0:=fun e=>e hw
 have hst:∀ i:Ins,aW p0 (s.dM n i c) ⟨r,n,i,iZ.z,[]⟩:=fun i=>⟨h,rfl,rfl,rfl,rfl⟩
 rw[K6]
 have fin:∀ {z:Dng} {a:RA},aW p0 z a→eW s.dK r n c=a→s.run (n:Int) c=(z.finish.1,0,z.finish.2)→(s.run n c).1=((eW s.dK r n c).e,({(eW s.dK r n c).s with au:=(eW s.dK r n c).s.au++(eW s.dK r n c).late }:RSp)).1∧(s.run n c).2.1=0∧fh p0 (s.run n c).2.2 ((eW s.dK r n c).e,({(eW s.dK r n c).s with au:=(eW s.dK r n c).s.au++(eW s.dK r n c).late }:RSp)).2:=fun {z a} hz ea es=>by
  rw[ea,es]
  exact⟨hz.finish.1,rfl,hz.finish.2⟩
 have hp0:=(hO.th n t ht).pc
 cases hn:eE s.dK t.hZ with
 | none =>
  rw[hn] at hnx
  have hI:jb ⟨23,0,0,0,0⟩:=⟨by decide,by decide,by decide,by decide,by decide⟩
  have S:St k s (s.dM n ⟨23,0,0,0,0⟩ c) t:=⟨dO.start hO hR,ht,hw,rfl,rfl,hI,rfl⟩
  exact fin (((hst ⟨23,0,0,0,0⟩).say (t:=t) ht).fin (t:=t) ht S.Fz S.fin ⟨by decide,by decide⟩) (uR hnx) (wa (FI ht) hw' hn rfl)
 | some i =>
  rw[hn] at hnx
  obtain⟨hI,hIn,hIt⟩:=kn hS hn
  have hpc:t.pc≤256:=Bc hS hn
  have hin:qK s i:=by
   unfold eE at hn
   split at hn
   ·cases hn
   ·have hlt:=(List.getElem?_eq_some_iff.1 hn).1
    cases hf:s.dK.funcs[t.hZ.fn.toNat]? with
    | none=>rw[List.getD_eq_getElem?_getD,hf] at hlt;exact absurd hlt (Nat.not_lt_zero _)
    | some g =>
     rw[List.getD_eq_getElem?_getD,hf] at hn
     exact hO.ins (List.mem_of_getElem? hf) (List.mem_of_getElem? hn)
  have hop:=hin.c
  by_cases hc:cls i.op=1
  ·have h19:i.op≤19:=by
    unfold cls at hc
    split at hc
    ·omega
    split at hc
    ·cases hc
    split at hc <;> cases hc
   have S:St k s (s.dM n i c) t:=⟨dO.start hO hR,ht,hw,rfl,rfl,hI,rfl⟩
   exact fin ((hst i).plain S hpc hin h19) (sS hnx h19) (pQ (FI ht) hw' hn hc rfl)
  ·have h19:¬i.op≤19:=fun e=>hc (by unfold cls;rw[if_pos ⟨hop.1,e⟩])
   have ho:=hO.th n t ht
   have h1:dO k s ((s.dM n i c).aj {t with pc:=t.pc+1 }) [] []:=dO.own (dO.start hO hR) ht (t':={t with pc:=t.pc+1 }) ⟨ho.R.l,ho.R.r,ho.R.i,ho.R.v,ho.R.h⟩ (by have:=ho.pc;show 0≤t.pc+1∧t.pc+1≤257;omega) rfl rfl rfl rfl rfl
   have S:St k s ((s.dM n i c).aj {t with pc:=t.pc+1 }) {t with pc:=t.pc+1 }:=⟨h1,bW ht,hw,rfl,rfl,hI,rfl⟩
   have hT:=h.th n t ht
   have h2:=(hst i).aj (t:=t) (t':={t with pc:=t.pc+1 }) (u':={r.t n with pc:=(r.t n).pc+1 }) ht (hT.pc (by show(r.thr n).pc+1=t.pc+1;rw[hT.p])) ((h.T n).pc (by show 0≤(r.thr n).pc+1∧(r.thr n).pc+1≤1000000;rw[hT.p];omega)) (.inl rfl)
   exact fin (h2.call S hk (hin.of rfl rfl rfl) rfl (by show 20≤i.op;omega) rfl) (uT hnx h19) (sz (FI ht) hw' hn hc rfl)
/-! a request is done -/
theorem fh.done(h:fh p0 s r)(hO:Ok k s [] []){c:Int} :
  ((s.done c).2.1=3∧(s.done c).1=iZ.z∧(s.done c).2.2=s∧r.done c=(0,r))∨ ∃ w:Int,(0≤w∧w<16)∧(s.done c).2.1=0∧(s.done c).1=⟨[w],false,false,false⟩∧(r.done c).1=w+1∧fh p0 (s.done c).2.2 (r.done c).2:=by
 by_cases h0:s.aO.wait.length=0
 ·have e:s.aO.done c=(⟨0,0,false,0⟩,0,false,s.aO):=mA h0
  have e2:s.done c=(iZ.z,3,s):=lZ (by rw[e])
  rw[e2]
  exact .inl ⟨rfl,rfl,rfl,yD (by rw[h.ak];exact h0)⟩
 ·right
  have hp:=fc (t:=c) (n:=s.aO.wait.length) (by omega)
  have hx:s.aO.wait[pick c s.aO.wait.length]?=some (s.aO.wait.getD (pick c s.aO.wait.length) sd):=getD_some hp
  have hm:=List.mem_of_getElem? hx
  generalize hrq:s.aO.wait.getD (pick c s.aO.wait.length) sd=z at hx hm
  have hzw:=hO.dk.w z hm
  have hcd:1≤cD s.aO z.who:=List.countP_pos_iff.2 ⟨z,hm,by simp⟩
  have hb:=hO.oE z.who
  obtain⟨u,hu,hu0,hu9⟩:=gO (s:=s) (w:=z.who) (by simp at hb;unfold gN at hb;omega)
  obtain⟨b0,b1⟩:=fa hu
  have hle:=pT (s:=s) (w:=z.who)
  have hno:nG s z.who:=mm (by simp at hb;unfold gN at hb;omega)
  have hi:=(hO.th _ u b1).R.i
  have hrx:r.ask[pick c r.ask.length]?=some z:=by rw[h.ak];exact hx
  have hr0:¬r.ask.length=0:=by rw[h.ak];exact h0
  have fin:∀ {d':jC} {y:Int} {r':RSp},s.aO.done c=(z,y,true,d')→fh p0 {s with aO:=d' } r'→fq y→r.done c=(z.who+1,{r'.dn z.who.toNat y with au:=r.au++[(r.t z.who.toNat).dL y] })→r'.thr=r.thr→
    ∃ w:Int,(0≤w∧w<16)∧(s.done c).2.1=0∧(s.done c).1=⟨[w],false,false,false⟩∧(r.done c).1=w+1∧fh p0 (s.done c).2.2 (r.done c).2:=fun {d' y r'} e hs hy er et=>by
   have e2:=l1 (s:=s) (k:=c) (t:=u) (by rw[e]) (by rw[e];exact b1)
   rw[e] at e2
   rw[e2,er]
   refine⟨z.who,⟨b0,by have:=hO.lt ▸ (List.getElem?_eq_some_iff.1 b1).1;omega⟩,rfl,rfl,rfl,?_⟩
   have h1:=hs.aj (n:=z.who.toNat) (t:=u) (t':=u.cV y) (u':=(r'.t z.who.toNat).cV y) b1 ((hs.th _ u b1).cV hi) ((hs.T _).cV hy) (.inr (.inl (by rw[show((z.who.toNat:Nat):Int)=z.who from by omega];exact hno)))
   have h2:=h1.au (l:=s.au++[u.dL y])
   have e3:(r.t z.who.toNat).dL y=u.dL y:=(h.th _ u b1).dL
   show fh p0 _ {r'.dn z.who.toNat y with au:=r.au++[(r.t z.who.toNat).dL y] }
   rw[e3,h.rc]
   refine Eq.mp ?_ h2
   congr 1
   unfold Spc.tell Spc.dn
   rw[cW (s:={s with aO:=d' }) b1]
   rfl
  cases hwr:z.write with
  | true =>
   have e:s.aO.done c=(z,0,true,{s.aO with wait:=s.aO.wait.eraseIdx (pick c s.aO.wait.length),blocks:=s.aO.blocks.set z.block.toNat z.x }):=kU h0 hrq hwr
   refine fin e (r':={r.asked c with blk:=r.blk.set z.block.toNat z.x }) ⟨h.pg,h.tk,h.no,h.th,h.T,h.me,h.mx,h.cd,h.sm,h.sw,h.pp,(by show r.blk.set _ _=_;rw[h.bk]),(by show r.ask.eraseIdx (pick c r.ask.length)=_;rw[h.ak]),h.nw,h.tl,h.tp,h.rc,h.tr,h.ow,h.mw⟩ Gn (qH hr0 hrx hwr) rfl
  | false =>
   have e:s.aO.done c=(z,s.aO.blocks.getD z.block.toNat 0,true,{s.aO with wait:=s.aO.wait.eraseIdx (pick c s.aO.wait.length) }):=mB h0 hrq hwr
   have e2:=sT (k:=c) hr0 hrx hwr
   rw[h.bk] at e2
   exact fin e (r':=r.asked c) ⟨h.pg,h.tk,h.no,h.th,h.T,h.me,h.mx,h.cd,h.sm,h.sw,h.pp,h.bk,(by show r.ask.eraseIdx (pick c r.ask.length)=_;rw[h.ak]),h.nw,h.tl,h.tp,h.rc,h.tr,h.ow,h.mw⟩ (wq hO.dk.b (by omega)) e2 rfl
/-! a moment -/
def dueR(til:Nat→Int)(now:Int):Nat→Nat→List Int
 | 0,_=>[]
 | f+1,n=>if 0<til n∧til n-1≤now then (n:Int)::dueR til now f (n+1) else dueR til now f (n+1)
def pt(r:RSp):List Int→RSp
 | []=>r
 | n::l=>pt (r.kD n.toNat) l
theorem s6{t1 t2:Nat→Int}{now:Int}:∀ (f n:Nat),(∀ m,n≤m→t1 m=t2 m)→dueR t1 now f n=dueR t2 now f n
 | 0,_,_=>rfl
 | f+1,n,h=>by rw[dueR,dueR,h n (Nat.le_refl _),s6 f (n+1) (fun m hm=>h m (by omega))]
theorem s7:∀ (f n:Nat) (r:RSp) (out:List Int),rTick r f n out=(out++dueR r.til r.now f n,pt r (dueR r.til r.now f n))
 | 0,n,r,out=>by rw[rTick,dueR,List.append_nil];rfl
 | f+1,n,r,out=>by
  rw[rTick,dueR]
  by_cases c:0<r.til n∧r.til n-1≤r.now
  ·rw[if_pos c,if_pos c]
   have e:dueR (r.kD n).til (r.kD n).now f (n+1)=dueR r.til r.now f (n+1):=s6 f (n+1) (fun m hm=>jk (by omega))
   refine(s7 f (n+1) (r.kD n) (out++[(n:Int)])).trans ?_
   rw[e,List.append_assoc];rfl
  ·rw[if_neg c,if_neg c];exact s7 f (n+1) r out
theorem mM{til:Nat→Int}{now:Int}:∀ (f n:Nat), ∀ x∈dueR til now f n,(n:Int)≤x∧x<((n+f:Nat):Int)∧0<til x.toNat∧til x.toNat-1≤now
 | 0,_,x,h=>by cases h
 | f+1,n,x,h=>by
  rw[dueR] at h
  split at h
  ·rename_i c
   rcases List.mem_cons.1 h with rfl | h
   ·rw[Int.toNat_natCast];exact⟨by omega,by omega,c⟩
   ·have:=mM f (n+1) x h;exact⟨by omega,by omega,this.2.2⟩
  ·have:=mM f (n+1) x h;exact⟨by omega,by omega,this.2.2⟩
theorem iz{til:Nat→Int}{now:Int}:∀ (f n:Nat),(dueR til now f n).Pairwise (· < ·)
 | 0,_=>.nil
 | f+1,n=>by
  rw[dueR]
  split
  ·refine List.pairwise_cons.2 ⟨fun x hx=>?_,iz f (n+1)⟩
   have:=mM f (n+1) x hx;omega
  ·exact iz f (n+1)
theorem s8{til:Nat→Int}{now:Int}{m:Nat}(c:0<til m∧til m-1≤now):∀ (f n:Nat),n≤m→m<n+f→(m:Int)∈dueR til now f n
 | 0,n,a,b=>absurd b (by omega)
 | f+1,n,a,b=>by
  rw[dueR]
  by_cases e:n=m
  ·subst e;rw[if_pos c];exact List.mem_cons_self
  ·split
   ·exact List.mem_cons_of_mem _ (s8 c f (n+1) (by omega) (by omega))
   ·exact s8 c f (n+1) (by omega) (by omega)
theorem CX{l:List (Int×Int)}{b w:Int}(h:l.countP (fun x=>decide (x.1=w))≤1):(l.filter fun p=>decide (p.2≤b)).countP (fun x=>decide (x.1=w))=match cF l w with | none=>0 | some m=>if m≤b then 1 else 0:=by
 induction l with
 | nil=>rfl
 | cons p l ih =>
  rw[List.countP_cons] at h
  by_cases e:p.1=w
  ·rw[if_pos (by simpa using e)] at h
   have h0:l.countP (fun x=>decide (x.1=w))=0:=by omega
   have h1:(l.filter fun p=>decide (p.2≤b)).countP (fun x=>decide (x.1=w))=0:=Nat.le_zero.1 (h0 ▸ List.Sublist.countP_le List.filter_sublist)
   have hg:cF (p::l) w=some p.2:=by unfold cF;rw[List.find?_cons_of_pos (by simpa using e)];rfl
   rw[hg]
   simp only
   by_cases hb:p.2≤b
   ·rw[List.filter_cons_of_pos (by simpa using hb),List.countP_cons,h1,if_pos (by simpa using e),if_pos hb]
   ·rw[List.filter_cons_of_neg (by simpa using hb),h1,if_neg hb]
  ·rw[if_neg (by simpa using e)] at h
   have hg:cF (p::l) w=cF l w:=by unfold cF;rw[List.find?_cons_of_neg (by simpa using e)]
   rw[hg, ← ih (by omega)]
   by_cases hb:p.2≤b
   ·rw[List.filter_cons_of_pos (by simpa using hb),List.countP_cons,if_neg (by simpa using e)];rfl
   ·rw[List.filter_cons_of_neg (by simpa using hb)]
theorem s9{l:List (Int×Int)}{n m:Int}:cF (dT l n) m=if m=n then none else cF l m:=by
 induction l with
 | nil=>unfold dT cF;split <;> rfl
 | cons p l ih =>
  unfold dT at ih ⊢
  by_cases e:p.1=n
  ·rw[List.filter_cons_of_neg (by simp[e]),ih]
   split
   ·rfl
   ·rename_i hne
    unfold cF;rw[List.find?_cons_of_neg (by simp only[decide_eq_true_eq];exact fun h=>hne (h.symm.trans e))]
  ·rw[List.filter_cons_of_pos (by simp[e])]
   by_cases e2:p.1=m
   ·rw[if_neg (fun h=>e (e2.trans h))]
    unfold cF;rw[List.find?_cons_of_pos (by simpa using e2),List.find?_cons_of_pos (by simpa using e2)]
   ·have a1:cF (p::l.filter fun p => !decide (p.1=n)) m=cF (l.filter fun p => !decide (p.1=n)) m:=by unfold cF;rw[List.find?_cons_of_neg (by simpa using e2)]
    have a2:cF (p::l) m=cF l m:=by unfold cF;rw[List.find?_cons_of_neg (by simpa using e2)]
    rw[a1,a2,ih]
def Spc.kD(s:Spc)(n:Int):Spc:=(({s with aA:={s.aA with dY:=dT s.aA.dY n } }:Spc).dn n.toNat 0).tell ((s.t n.toNat).dL 0)
theorem fh.kD(h:fh p0 s r){n:Nat}{u:bo}(hu:s.thr[n]?=some (some u))(hi : -1≤u.into∧u.into<8)(hm:nG s n):fh p0 (s.kD n) (r.kD n):=by
 have h1:fh p0 {s with aA:={s.aA with dY:=dT s.aA.dY n } } {r with til:=dU r.til n 0 }:=⟨h.pg,h.tk,h.no,h.th,h.T,h.me,h.mx,h.cd,h.sm,h.sw,h.pp,h.bk,h.ak,h.nw,fun m=>by
  show dU r.til n 0 m=JT (cF (dT s.aA.dY n) m)
  rw[s9]
  by_cases e:m=n
  ·subst e;rw[dF,if_pos rfl];rfl
  ·rw[jk e,if_neg (by omega)];exact h.tl m,fun m v e=>by
  have e:cF (dT s.aA.dY n) m=some v:=e
  rw[s9] at e
  split at e
  ·cases e
  ·exact h.tp m v e,h.rc,h.tr,h.ow,h.mw⟩
 have h2:=h1.aj hu ((h.th n u hu).cV hi (y:=0)) ((h.T n).cV (y:=0) Gn) (.inr (.inl hm))
 have h3:=h2.au (l:=s.au++[u.dL 0])
 have e3:(r.t n).dL 0=u.dL 0:=(h.th n u hu).dL
 unfold Spc.kD RSp.kD
 rw[e3,h.rc,Int.toNat_natCast,cW hu]
 unfold Spc.dn
 have e4:({s with aA:={s.aA with dY:=dT s.aA.dY n } }:Spc).t n=u:=cW (s:={s with aA:={s.aA with dY:=dT s.aA.dY n } }) hu
 rw[e4]
 exact h3
theorem fh.FJ:∀ (l:List Int) {s:Spc} {r:RSp},fh p0 s r→(∀ n∈l,0≤n∧nG s n∧ ∃ u,s.thr[n.toNat]?=some (some u)∧(-1≤u.into∧u.into<8))→l.Nodup→
  fh p0 (di {s with aA:={s.aA with dY:=l.foldl dT s.aA.dY } } l) (pt r l)
 | [],s,r,h,_,_=>h
 | n::l,s,r,h,hl,hn=>by
  obtain⟨h0,hm,u,hu,hi⟩:=hl n List.mem_cons_self
  rw[List.nodup_cons] at hn
  obtain⟨m,rfl⟩:∃ m:Nat,n=(m:Int):=⟨n.toNat,by omega⟩
  rw[Int.toNat_natCast] at hu
  have h1:=h.kD hu hi hm
  have h2:=fh.FJ l h1 (fun v hv=>by
   obtain⟨v0,vm,w,hw,wi⟩:=hl v (List.mem_cons_of_mem _ hv)
   have hne:m≠v.toNat:=fun e=>hn.1 (by rw[show(m:Int)=v from by omega];exact hv)
   exact⟨v0,vm,w,cr (s:={s with aA:=_ }) hw hne,wi⟩) hn.2
  exact h2
theorem fh.tick(h:fh p0 s r)(hO:Ok k s [] []):s.tick.1=⟨r.tick.1,false,false,false⟩∧fh p0 s.tick.2 r.tick.2:=by
 have hbal:∀ w,gN s w=ed s w:=fun w=>by have:=hO.oE w;simpa using this
 have hone:∀ w,cL s.aA w≤1:=fun w=>by have h1:=hbal w;have h2:=pT (s:=s) (w:=w);unfold gN at h1;omega
 have hwl:=hO.wl
 have hnow:r.fg.now=min (s.aA.now+1) 1099511627776:=by
  show(if r.now<1099511627776 then r.now+1 else r.now)=_
  rw[h.nw];split <;> omega
 have hliv:∀ w,0<cL s.aA w→0≤w∧w<16∧nG s w∧ ∃ u,s.thr[w.toNat]?=some (some u)∧(-1≤u.into∧u.into<8):=fun w hw=>by
  have h1:=hbal w
  have h2:=pT (s:=s) (w:=w)
  obtain⟨u,hu,hu0,hu9⟩:=gO (s:=s) (w:=w) (by unfold gN at h1;omega)
  obtain⟨b0,b1⟩:=fa hu
  have:=hO.lt ▸ (List.getElem?_eq_some_iff.1 b1).1
  exact⟨b0,by omega,mm (by unfold gN at h1;omega),u,b1,(hO.th _ u b1).R.i⟩
 have hdue:s.aA.due=dueR r.til r.fg.now 16 0:=by
  unfold j6.due
  refine qg (iy _) ((iz 16 0).imp fun h=>Int.le_of_lt h) ((iS _).trans (List.perm_iff_count.2 fun w=>?_))
  have e1:((s.aA.dY.filter fun p=>decide (p.2≤min (s.aA.now+1) 1099511627776)).map (·.1)).count w=(s.aA.dY.filter fun p=>decide (p.2≤min (s.aA.now+1) 1099511627776)).countP (fun x=>decide (x.1=w)):=by
   unfold List.count;rw[List.countP_map];rfl
  rw[e1,CX (hone w)]
  have hnd:(dueR r.til r.fg.now 16 0).Nodup:=(iz 16 0).imp fun h=>Int.ne_of_lt h
  by_cases hw:0≤w∧w<16
  ·obtain⟨m,rfl⟩:∃ m:Nat,w=(m:Int):=⟨w.toNat,by omega⟩
   have htl:=h.tl m
   cases hg:cF s.aA.dY (m:Int) with
   | none =>
    simp only
    rw[hg] at htl
    refine(List.count_eq_zero.2 fun hin=>?_).symm
    have:=(mM 16 0 _ hin).2.2
    rw[Int.toNat_natCast,htl] at this
    exact absurd this.1 (by show ¬(0:Int)<0;decide)
   | some v =>
    simp only
    rw[hg] at htl
    have htl:r.til m=v+1:=htl
    have hv:=h.tp m v hg
    by_cases hb:v≤min (s.aA.now+1) 1099511627776
    ·rw[if_pos hb]
     have hin:=s8 (til:=r.til) (now:=r.fg.now) (m:=m) ⟨by omega,by rw[hnow];omega⟩ 16 0 (Nat.zero_le _) (by omega)
     have h1:=List.count_pos_iff.2 hin
     have h2:=List.nodup_iff_count.1 hnd (m:Int)
     omega
    ·rw[if_neg hb]
     refine(List.count_eq_zero.2 fun hin=>?_).symm
     have:=(mM 16 0 _ hin).2.2
     rw[Int.toNat_natCast,htl,hnow] at this
     omega
  ·have h0:cL s.aA w=0:=by
    cases hc:cL s.aA w with
    | zero=>rfl
    | succ j=>have:=hliv w (by omega);exact absurd ⟨this.1,this.2.1⟩ hw
   rw[l4 h0]
   simp only
   refine(List.count_eq_zero.2 fun hin=>?_).symm
   have:=mM 16 0 _ hin
   exact hw ⟨by omega,by omega⟩
 have ht:r.tick=(dueR r.til r.fg.now 16 0,pt r.fg (dueR r.til r.fg.now 16 0)):=by
  show rTick r.fg 16 0 []=_
  rw[s7,List.nil_append];rfl
 rw[ht, ← hdue]
 refine⟨rfl,?_⟩
 have h1:fh p0 {s with aA:={s.aA with now:=min (s.aA.now+1) 1099511627776 } } r.fg:=⟨h.pg,h.tk,h.no,h.th,h.T,h.me,h.mx,h.cd,h.sm,h.sw,h.pp,h.bk,h.ak,hnow,h.tl,h.tp,h.rc,h.tr,h.ow,h.mw⟩
 refine fh.FJ s.aA.due h1 (fun n hn=>?_) ?_
 ·obtain⟨y,hy,e⟩:=A6 hn
  have:=hliv n (List.countP_pos_iff.2 ⟨y,hy,by simpa using e⟩)
  exact⟨this.1,this.2.2⟩
 ·rw[hdue];exact(iz 16 0).imp fun h=>Int.ne_of_lt h
end
end Go.SLYtefdijgllbkmfaaGreat
namespace Go.SLYtefdijgllbkmfaaGreat
open Go Go.RowKit
variable{p0:eZ}
structure FK(p:eZ)(s:RSp)(n:Nat):Prop where
 lt:n<16
 T:fT s
 r:s.au.length≤800000000
 f:0≤(s.thr n).fn∧(s.thr n).fn<(p.funcs.length:Int)
 c:0≤(s.thr n).pc∧(s.thr n).pc≤900000
 l:p.funcs.length≤1000000∧ ∀ f∈p.funcs,f.length≤1000000
 m:s.mem.length≤1000000
 I:∀ i,gE p (s.t n)=some i→jb i
 C:∀ i,gE p (s.t n)=some i→¬i.op≤19→uG ((⟨s,n,i,iZ.z,[]⟩:RA).aj {s.t n with pc:=(s.t n).pc+1 })
section
variable{k:Nat}{s:Spc}{r:RSp}
theorem Ok.len(h:Ok k s [] []){α:Type}{f:α→Int}{l:List α}(hl:∀ w,l.countP (fun x=>decide (f x=w))≤gN s w):l.length≤16∧ ∀ x∈l,0≤f x∧f x<16:=by
 have hb:∀ w,gN s w=ed s w:=fun w=>by have:=h.oE w;simpa using this
 refine⟨oJ h.lt (fun w=>by rw[← hb];exact hl w),fun x hx=>?_⟩
 have h1:0<l.countP (fun y=>decide (f y=f x)):=List.countP_pos_iff.2 ⟨x,hx,by simp⟩
 obtain⟨b0,u,hu⟩:=kp (s:=s) (w:=f x) (by have:=hl (f x);have:=hb (f x);omega)
 have:=h.lt ▸ (List.getElem?_eq_some_iff.1 hu).1
 exact⟨b0,by omega⟩
theorem Ok.L6(h:Ok k s [] []){x:dB}(hx:x∈s.ag.aF):x.wait.length≤16∧ ∀ w∈x.wait,0≤w.who∧w.who<16:=h.len (f:=fun y:dh=>y.who) fun w=>by
 have h1:=dj (f:=fun m:dB=>dp w m.wait) hx
 have e:x.wait.countP (fun y=>decide (y.who=w))=dp w x.wait:=rfl
 unfold gN cG;omega
theorem Ok.L7(h:Ok k s [] []){x:List dh}(hx:x∈s.ag.bn):x.length≤16∧ ∀ w∈x,0≤w.who∧w.who<16:=h.len (f:=fun y:dh=>y.who) fun w=>by
 have h1:=dj (f:=dp w) hx
 have e:x.countP (fun y=>decide (y.who=w))=dp w x:=rfl
 unfold gN cG;omega
theorem Ok.L8(h:Ok k s [] []){x:jr}(hx:x∈s.ag.cf):x.wait.length≤16∧ ∀ w∈x.wait,0≤w.who∧w.who<16:=h.len (f:=fun y:dh=>y.who) fun w=>by
 have h1:=dj (f:=fun m:jr=>dp w m.wait) hx
 have e:x.wait.countP (fun y=>decide (y.who=w))=dp w x.wait:=rfl
 unfold gN cG;omega
theorem Ok.L9(h:Ok k s [] []){u:Tub}(hu:u∈s.bA):(u.bP.length≤16∧ ∀ w∈u.bP,0≤w.who∧w.who<16)∧u.bC.length≤16∧ ∀ w∈u.bC,0≤w∧w<16:=by
 have h1:∀ w,cU w u≤cT s.bA w:=fun w=>dj (f:=cU w) hu
 refine⟨h.len (f:=fun y:Ptr=>y.who) fun w=>?_,h.len (f:=fun y:Int=>y) fun w=>?_⟩
 ·have:=h1 w;unfold cU at this;unfold gN;omega
 ·have:=h1 w
  have e:u.bC.countP (fun y=>decide (y=w))=u.bC.count w:=rfl
  unfold cU at this;unfold gN;omega
theorem Ok.J5(h:Ok k s [] []):s.aO.wait.length≤16∧ ∀ w∈s.aO.wait,0≤w.who∧w.who<16:=h.len (f:=fun y:pE=>y.who) fun w=>by
 have e:s.aO.wait.countP (fun y=>decide (y.who=w))=cD s.aO w:=rfl
 unfold gN;omega
theorem Ok.Ma(h:Ok k s [] []):s.ag.aF.length≤4∧s.ag.bn.length≤4∧s.ag.cf.length≤4∧s.bA.length≤4∧s.mem.length≤64∧s.dK.funcs.length≤8∧ ∀ f∈s.dK.funcs,f.length≤256:=by
 have hc:=h.cap
 unfold eg at hc
 simp only[Bool.and_eq_true,decide_eq_true_eq,within,List.all_eq_true] at hc
 obtain⟨⟨⟨⟨⟨⟨⟨⟨⟨⟨⟨c1,c2⟩,c3⟩,c4⟩,c5⟩,c6⟩,c7⟩,c8⟩,c9⟩,c10⟩,c11⟩,c12⟩:=hc
 have hg:=h.gt
 have hm:=hg.m
 have hcn:=hg.c
 have hsm:=hg.s
 have htb:=h.tb.1
 have hme:=h.me.1
 exact⟨by omega,by omega,by omega,by omega,by omega,c2,c10⟩
theorem fh.Mb(h:fh p0 s r)(hO:Ok k s [] [])(hk:k≤1000000)(hr:s.au.length≤800000000){n:Nat}{t:bo}(ht:s.thr[n]?=some (some t)):FK s.dK r n:=by
 have hS:=hO.qP hk hr
 have hT:=h.th n t ht
 have hp0:=(hO.th n t ht).pc
 have hnx:=h.next hO ht
 have h16:n<16:=hO.lt ▸ (List.getElem?_eq_some_iff.1 ht).1
 obtain⟨k1,k2,k3,k4,k5,k6,k7⟩:=hO.Ma
 have hTp:=hT.p
 have hTf:=hT.f
 have hfl:=hT.fl
 refine⟨h16,h.T,by rw[h.rc];exact hr,by rw[hTf];exact hfl,by rw[hTp];omega,⟨by omega,fun f hf=>Nat.le_trans (k7 f hf) (by decide)⟩,by rw[h.me];omega,fun i hi=>?_,fun i hi hop=>?_⟩
 ·rw[hnx] at hi;exact(kn hS hi).1
 ·rw[hnx] at hi
  obtain⟨hI,hIn,hIt⟩:=kn hS hi
  have hin:qK s i:=by
   have hn:=hi
   unfold eE at hn
   split at hn
   ·cases hn
   ·have hlt:=(List.getElem?_eq_some_iff.1 hn).1
    cases hf:s.dK.funcs[t.hZ.fn.toNat]? with
    | none=>rw[List.getD_eq_getElem?_getD,hf] at hlt;exact absurd hlt (Nat.not_lt_zero _)
    | some g =>
     rw[List.getD_eq_getElem?_getD,hf] at hn
     exact hO.ins (List.mem_of_getElem? hf) (List.mem_of_getElem? hn)
  have hc:=hin.c
  have hcls:cls i.op≠1:=by unfold cls;rw[if_neg (by omega)];split <;> (try split) <;> decide
  have hmx:∀ x∈r.aF,x.wait.length≤16∧ ∀ w∈x.wait,0≤w∧w<16:=fun x hx=>by
   rw[h.mx] at hx
   obtain⟨y,hy,rfl⟩:=List.mem_map.1 hx
   obtain⟨a1,a2⟩:=hO.L6 hy
   refine⟨by show(y.wait.map (·.who)).length≤16;rw[List.length_map];exact a1,fun w hw=>?_⟩
   obtain⟨z,hz,rfl⟩:=List.mem_map.1 (show w∈y.wait.map (·.who) from hw)
   exact a2 z hz
  have hml:r.aF.length=s.ag.aF.length:=by rw[h.mx,List.length_map]
  have hcl:r.bn.length=s.ag.bn.length:=by rw[h.cd]
  have hsl:r.cf.length=s.ag.cf.length:=by rw[h.sm,List.length_map]
  have hpl:r.jv.length=s.bA.length:=by rw[h.pp]
  have hbl:=hO.dk.l
  have hnw:=hO.wl
  refine⟨h16,h.T.dU (n:=n) (t:={r.t n with pc:=(r.t n).pc+1 }) rfl ((h.T n).pc (by show 0≤(r.thr n).pc+1∧(r.thr n).pc+1≤1000000;rw[hTp];omega)),Nat.zero_le _,Nat.zero_le _,by show r.au.length≤_;rw[h.rc];omega,hI,hIn hcls,by show r.aF.length≤_;omega,fun x hx=>⟨Nat.le_trans (hmx x hx).1 (by decide),(hmx x hx).2⟩,by show r.bn.length≤_;omega,fun x hx=>?_,⟨by show r.cf.length≤_;omega,?_⟩,fun x hx=>?_,fun x hx=>?_,by show r.jv.length≤_;omega,fun u hu=>?_,by show r.blk.length≤_;rw[h.bk];omega,by show r.ask.length≤_;rw[h.ak];exact Nat.le_trans hO.J5.1 (by decide),by show 0≤r.now∧r.now≤_;rw[h.nw];exact hnw,fun o=>by show i.n<(r.aF.length:Int);rw[hml];exact hin.m o,fun o=>by show i.c<(r.aF.length:Int)∧i.n<(r.bn.length:Int);rw[hml,hcl];exact hin.w o,fun o=>by show i.n<(r.bn.length:Int);rw[hcl];exact hin.g o,fun o=>by show i.n<(r.cf.length:Int);rw[hsl];exact hin.e o,fun o=>by show i.n<(r.jv.length:Int);rw[hpl];exact hin.p o,by show 20≤i.op∧i.op≤38;omega⟩
  ·have hx:x∈r.bn:=hx
   rw[h.cd] at hx
   obtain⟨a1,a2⟩:=hO.L7 hx
   exact⟨Nat.le_trans a1 (by decide),fun w hw=>⟨a2 w hw,by show 0≤w.mutex∧w.mutex<(r.aF.length:Int);rw[hml];exact hO.gt.cm x hx w hw⟩⟩
  ·show r.sw.length=r.cf.length
   rw[h.sw,h.sm,List.length_map,List.length_map]
  ·have hx:x∈r.cf:=hx
   rw[h.sm] at hx
   obtain⟨y,hy,rfl⟩:=List.mem_map.1 hx
   exact hO.gt.sc y hy
  ·have hx:x∈r.sw:=hx
   rw[h.sw] at hx
   obtain⟨y,hy,rfl⟩:=List.mem_map.1 hx
   obtain⟨a1,a2⟩:=hO.L8 hy
   refine⟨by rw[List.length_map];exact Nat.le_trans a1 (by decide),fun w hw=>?_⟩
   obtain⟨z,hz,rfl⟩:=List.mem_map.1 hw
   exact a2 z hz
  ·have hu:u∈r.jv:=hu
   rw[h.pp] at hu
   obtain⟨⟨a1,a2⟩,a3,a4⟩:=hO.L9 hu
   have b:=hO.tb.2 u hu
   exact⟨Nat.le_trans b.l (by decide),Nat.le_trans a1 (by decide),Nat.le_trans a3 (by decide),b.w,a2,a4⟩
/-! what requests, moments, looks ask for -/
theorem fh.Lb(h:fh p0 s r)(hO:Ok k s [] []):r.ask.length≤1000000∧ ∀ q∈r.ask,(0≤q.who∧q.who<16)∧0≤q.block∧q.block<(r.blk.length:Int):=by
 rw[h.ak,h.bk]
 refine⟨Nat.le_trans hO.J5.1 (by decide),fun q hq=>⟨hO.J5.2 q hq,?_⟩⟩
 have:=hO.dk.w q hq;exact⟨this.1,this.2.1⟩
theorem fh.Mc(h:fh p0 s r):∀ m,0≤r.til m∧r.til m≤1099511627777:=fun m=>by
 rw[h.tl m]
 cases e:cF s.aA.dY (m:Int) with
 | none=>exact⟨Int.le_refl 0,(by decide:(0:Int)≤1099511627777)⟩
 | some v=>have:=h.tp m v e;show 0≤v+1∧v+1≤_;omega
theorem fh.Md(h:fh p0 s r)(hO:Ok k s [] []):0≤r.now∧r.now≤1099511627776:=by rw[h.nw];exact hO.wl
theorem fh.runs(h:fh p0 s r)(hO:Ok k s [] []){n:Int}:r.runs n=true↔ ∃ t,s.at n=some t∧t.why=0:=by
 unfold RSp.runs
 simp only[Bool.and_eq_true,decide_eq_true_eq]
 constructor
 ·rintro⟨⟨⟨h0,h1⟩,h2⟩,h3⟩
  obtain⟨o,ho⟩:=ay (show n.toNat<s.thr.length by rw[hO.lt];omega)
  cases o with
  | none=>rw[show(r.t n.toNat).used=false from h.no _ ho] at h2;cases h2
  | some t=>exact⟨t,by have:=ly ho;rwa [show((n.toNat:Nat):Int)=n from by omega] at this,by rw[← (h.th _ t ho).w];exact h3⟩
 ·rintro⟨t,ht,hw⟩
  obtain⟨h0,hat⟩:=fa ht
  have:=hO.lt ▸ (List.getElem?_eq_some_iff.1 hat).1
  exact⟨⟨⟨h0,by omega⟩,(h.th _ t hat).us⟩,by rw[← hw];exact(h.th _ t hat).w⟩
theorem ready_from:∀ (l:List (Option bo)) (n:Nat),readyFrom l n=(List.range l.length).flatMap fun i=>match l[i]? with | some (some t)=>if t.why=0 then [((n+i:Nat):Int)] else [] | _=>[]
 | [],n=>rfl
 | o::l,n=>by
  rw[List.length_cons,List.range_succ_eq_map,List.flatMap_cons,List.flatMap_map,List.getElem?_cons_zero]
  have ih:=ready_from l (n+1)
  have e:(List.range l.length).flatMap (fun i=>match (o::l)[i+1]? with | some (some t)=>if t.why=0 then [((n+(i+1):Nat):Int)] else [] | _=>[])=readyFrom l (n+1):=by
   rw[ih];congr 1;funext i;rw[List.getElem?_cons_succ,show n+(i+1)=n+1+i from by omega]
  cases o with
  | none=>exact e.symm
  | some t =>
   rw[readyFrom]
   simp only[Nat.add_zero]
   split
   ·exact congrArg ((n:Int) :: ·) e.symm
   ·exact e.symm
theorem u3(h:fh p0 s r)(hO:Ok k s [] []):∀ n,n≤16→rReady r n=(List.range n).flatMap fun i=>match s.thr[i]? with | some (some t)=>if t.why=0 then [((0+i:Nat):Int)] else [] | _=>[]
 | 0,_=>rfl
 | n+1,hn=>by
  rw[rReady,u3 h hO n (by omega),List.range_succ,List.flatMap_append]
  congr 1
  rw[List.flatMap_singleton]
  obtain⟨o,ho⟩:=ay (show n<s.thr.length by rw[hO.lt];omega)
  rw[ho]
  cases o with
  | none =>
   simp only
   rw[if_neg (fun e=>by obtain⟨t,ht,_⟩:=(h.runs hO).1 e;rw[jP,ho] at ht;cases ht)]
  | some t =>
   simp only[Nat.zero_add]
   by_cases hw:t.why=0
   ·rw[if_pos hw,if_pos ((h.runs hO).2 ⟨t,ly ho,hw⟩)]
   ·rw[if_neg hw,if_neg (fun e=>by obtain⟨t',ht,hw'⟩:=(h.runs hO).1 e;rw[ly ho] at ht;cases ht;exact hw hw')]
theorem fh.ready(h:fh p0 s r)(hO:Ok k s [] []):rReady r 16=s.ready:=by
 rw[u3 h hO 16 (Nat.le_refl _)]
 unfold Spc.ready
 rw[ready_from,hO.lt]
end
/-! a new space -/
theorem fh.new{p:eZ}(h:xP p):fh p (Spc.new p) (RSp.new p):=by
 have hcap:eg p=true:=by
  have:=h.1;unfold dD at this
  split at this
  ·assumption
  ·cases this
 have hc:=hcap
 unfold eg at hc
 simp only[Bool.and_eq_true,decide_eq_true_eq,within,List.all_eq_true] at hc
 obtain⟨⟨⟨⟨⟨⟨⟨⟨⟨⟨⟨c1,c2⟩,c3⟩,c4⟩,c5⟩,c6⟩,c7⟩,c8⟩,c9⟩,c10⟩,c11⟩,c12⟩:=hc
 have cl:∀ {n:Int},0≤n→n≤4→bb n 4=n:=fun a b=>by unfold bb;omega
 have hO:Ok 0 ⟨p,List.replicate 16 (false,0),List.replicate 16 none,List.replicate p.words.toNat 0,Gates.new p.aB p.conds p.aU,p.aG.map Tub.new,jC.new p.blocks,j6.new,[]⟩ [] []:=Ok.KQ h
 have z8:(0:Int)≤8:=by decide
 have h0:fh p ⟨p,List.replicate 16 (false,0),List.replicate 16 none,List.replicate p.words.toNat 0,Gates.new p.aB p.conds p.aU,p.aG.map Tub.new,jC.new p.blocks,j6.new,[]⟩
   ⟨fun _=>0,fun _=>Hq,List.replicate p.words.toNat 0,List.replicate p.aB.toNat ⟨0,[]⟩,List.replicate p.conds.toNat [],p.aU,List.replicate p.aU.length [],p.aG.map fun r=>⟨r,[],[],[]⟩,List.replicate p.blocks.toNat 0,[],0,fun _=>0,[]⟩:=by
  refine⟨rfl,fun n hn=>?_,fun n e=>rfl,fun n t ht=>?_,fun m=>⟨fun k=>⟨Int.le_refl 0,(by decide:(0:Int)≤18446744073709551615)⟩,⟨Int.le_refl 0,z8⟩,⟨Int.le_refl 0,(by decide:(0:Int)≤16)⟩,⟨Int.le_refl 0,(by decide:(0:Int)≤1000000)⟩,⟨Int.le_refl 0,(by decide:(0:Int)≤18446744073709551615)⟩⟩,rfl,?_,?_,?_,?_,?_,?_,rfl,rfl,fun n=>rfl,fun n m e=>(by cases e),rfl,fun u hu=>?_,fun x hx hh=>?_,fun x hx y hy=>?_⟩
  ·rw[List.getD_eq_getElem?_getD,List.getElem?_replicate,if_pos hn];rfl
  ·have ht:(List.replicate 16 (none:Option bo))[n]?=some (some t):=ht
   rw[List.getElem?_replicate] at ht
   split at ht <;> cases ht
  ·show List.replicate p.aB.toNat _=(List.replicate (bb p.aB 4).toNat _).map iM
   rw[List.map_replicate,cl (by omega) (by omega)];rfl
  ·show List.replicate p.conds.toNat _=List.replicate (bb p.conds 4).toNat _
   rw[cl (by omega) (by omega)]
  ·show p.aU=((p.aU.take 4).map fun n=>(⟨[],bb n 1048576⟩:jr)).map (·.count)
   rw[List.map_map,List.take_of_length_le (by omega)]
   refine(List.map_id _).symm.trans (List.map_congr_left fun x hx=>?_)
   have:=c11 x hx
   show x=bb x 1048576
   unfold bb;omega
  ·show List.replicate p.aU.length ([]:List Int)=((p.aU.take 4).map fun n=>(⟨[],bb n 1048576⟩:jr)).map fun x=>x.wait.map (·.who)
   rw[List.map_map,List.take_of_length_le (by omega)]
   exact(List.eq_replicate_iff.2 ⟨by rw[List.length_map],fun b hb=>by obtain⟨x,_,rfl⟩:=List.mem_map.1 hb;rfl⟩).symm
  ·show(p.aG.map fun r=>(⟨r,[],[],[]⟩:Tub))=p.aG.map Tub.new
   refine List.map_congr_left fun x hx=>?_
   have:=c12 x hx
   unfold Tub.new
   rw[show min (max x 1) 8=x from by omega]
  ·show List.replicate p.blocks.toNat (0:Int)=List.replicate (bb p.blocks 64).toNat 0
   rw[show bb p.blocks 64=p.blocks from by unfold bb;omega]
  ·obtain⟨n,hn,rfl⟩:=List.mem_map.1 (show u∈p.aG.map Tub.new from hu)
   show(0:Int)≤min (max n 1) 8;omega
  ·have hx:x∈List.replicate (bb p.aB 4).toNat (⟨[],false,0⟩:dB):=hx
   rw[(List.mem_replicate.1 hx).2] at hh;cases hh
  ·have hx:x∈List.replicate (bb p.aB 4).toNat (⟨[],false,0⟩:dB):=hx
   rw[(List.mem_replicate.1 hx).2] at hy;cases hy
 have hfr:slotFree? (List.replicate 16 (false,(0:Int))) 0=some 0:=rfl
 obtain⟨-,e,h1, -⟩:=h0.begin hO (by decide) (f:=0) (arg:=0) ⟨by decide,by show(0:Int)<(p.funcs.length:Int);omega⟩ Gn hfr
 unfold Spc.new RSp.new
 rw[e];exact h1
end Go.SLYtefdijgllbkmfaaGreat
namespace Go.SLYtefdijgllbkmfaaGreat
open Go Go.RowKit
variable{p0:eZ}
theorem Ac{ba b:Nat}{v:RV}{a:RA}(h1:a.e.aM=[])(h2:a.late=[]):∀ h,seps [arr ba 0 (lh b a (.slice none 0 0) (.slice none 0 0)),bV b v a.s] h→cB ba b v a h:=fun h e=>by
 refine⟨.slice none 0 0,.slice none 0 0,trivial,?_⟩
 show seps [arr ba 0 (lh b a (.slice none 0 0) (.slice none 0 0)),sl aL 1 (.slice none 0 0) a.e.aM,sl dr 6 (.slice none 0 0) a.late,bV b v a.s] h
 rw[h1,h2,jM,jM]
 simpa only[seps,fK,aP] using e
theorem FK.fs{v:bN}{s:RSp}{n:Nat}(h:FK v.p s n):v.fs.length≤1000000∧(0≤(s.thr n).fn∧(s.thr n).fn<(v.fs.length:Int))∧ ∀ f∈v.fs,f.2.length≤1000000:=by
 have e:v.p.funcs.length=v.fs.length:=List.length_map ..
 have h1:=h.l
 have h2:=h.f
 rw[e] at h1 h2
 exact⟨h1.1,h2,fun f hf=>h1.2 _ (List.mem_map_of_mem hf)⟩
def qS(s:RSp)(n:Nat)(i:Ins):RA:=⟨s,n,i,iZ.z,[]⟩
def HF(s:RSp)(n:Nat)(i:Ins):RA:=(qS s n i).aj {s.t n with pc:=(s.t n).pc+1 }
theorem BI{p:eZ}{s:RSp}{n:Nat}{c:Int}:s.run p n c=((eW p s n c).e,{(eW p s n c).s with au:=(eW p s n c).s.au++(eW p s n c).late }):=rfl
section
variable{P:Program}{W:World}{N:Nat}{Q:Exit→Act→World→Prop}{O:Array Oper}{L:List (Nat×Option Value)}{H K R:List aa}
theorem bQ.to{ks σ:List Nat}{A:aa}{Bs:List aa}(e:aK H Bs R)(hA:∀ h,seps Bs h→A h)(h:bQ P W N K O Q ks σ L (A::R)):bQ P W N K O Q ks σ L H:=by
 unfold bQ at h ⊢
 refine dW σ (fun E a w ⟨ha,hs⟩=>⟨ha,?_⟩) h
 refine hs.mono (aS (fun g hg=>?_) (fun _ x=>x))
 have h2:=e.ok g hg
 exact aS hA (fun _ x=>x) g h2
theorem af.HG{α:Type}{enc:α→List Value}{k:Nat}{x y:Operand}{t t2 e e2 ty:TypeId}{pos:String}{after:Array Edge}{guard:Option (Nat×Bool)}{d:Nat}{v u:Value}{xs ys:List α}{i:TypeInfo}{z:Value}(hN:Nat.blt d N=true)
  (hu:P.underlying t=some (.slice e)) (hu2:P.underlying t2=some (.slice e2)) (hi:∀ w,(typeInfo e).run P w = .ok i w) (hz:i.zero=some z) (hk:i.size=k) (hzs:z.cells.size=k) (hb:1≤i.bytes∧i.bytes≤4096)
  (hx:ev L x=some v) (hy:ev L y=some u) (ht:Take H (sl enc k v xs) R) (hr:Rd W H enc k u ys) (hlen:xs.length+ys.length≤1073741824) (hone:∀ y∈ys, ∀ c∈enc y,c.oneCell'=true) :
  af P W N ⟨some d,.call ⟨.builtin .append, #[x,y], #[t,t2]⟩,ty,pos,after,guard⟩ L H (fun L1 H1=>∃ x:Option Addr×Nat×Nat,L1=(d,some (.slice x.1 x.2.1 x.2.2))::L∧H1=sl enc k (.slice x.1 x.2.1 x.2.2) (xs++ys)::R):=fun a w ha hs Kp hK=>by
 have hrd:=hr w hs
 rw[ht.seps] at hs
 obtain⟨v',w',h1,h2⟩:=rG (P:=P) (ty:=ty) hu hu2 hi hz hk hzs hb hs hrd hlen hone
 have hrun:(execOp a.eval ⟨some d,.call ⟨.builtin .append, #[x,y], #[t,t2]⟩,ty,pos,after,guard⟩).run P w = .ok (.value v') w':=by
  simp[execOp,resolve,invoke,builtin,ha.eval hx,ha.eval hy,h1]
 obtain⟨o,n,c,rfl⟩:∃ o n c,v' = .slice o n c:=by
  obtain⟨⟨o,c,hv,_⟩,_⟩:=(Rd.sl (W:=W) (enc:=enc) (k:=k) (v:=v') (xs:=xs++ys) (H:=sl enc k v' (xs++ys)::R) .here) w' h2
  exact⟨_,_,_,hv⟩
 unfold Oper.wp
 rw[hrun]
 simp only[Oper.upon]
 exact hK _ _ ⟨(o,n,c),rfl,rfl⟩ _ _ (ha.put (Nat.blt_eq.mp hN) _) h2
theorem bQ.append{ks rest:List Nat}{j:Nat}{α:Type}{enc:α→List Value}{k:Nat}{x y:Operand}{t t2 e e2 ty:TypeId}{pos:String}{after:Array Edge}{d:Nat}{v u:Value}{xs ys:List α}{i:TypeInfo}{z:Value}
  (ho:O[j]?=some ⟨some d,.call ⟨.builtin .append, #[x,y], #[t,t2]⟩,ty,pos,after,none⟩) (hk:ks.getD j 1=2∨ks.getD j 1=3) (hN:Nat.blt d N=true) (hK:ks.getD j 1=2→ ∀ w,Sat W w (seps H)→Sat W w (seps K))
  (hu:P.underlying t=some (.slice e)) (hu2:P.underlying t2=some (.slice e2)) (hi:∀ w,(typeInfo e).run P w = .ok i w) (hz:i.zero=some z) (hk2:i.size=k) (hzs:z.cells.size=k) (hb:1≤i.bytes∧i.bytes≤4096)
  (hx:ev L x=some v) (hy:ev L y=some u) (ht:Take H (sl enc k v xs) R) (hr:Rd W H enc k u ys) (hlen:xs.length+ys.length≤1073741824) (hone:∀ y∈ys, ∀ c∈enc y,c.oneCell'=true)
  (hK':ks.getD j 1=2→ ∀ (q:Option Addr×Nat×Nat), ∀ w,Sat W w (seps (sl enc k (.slice q.1 q.2.1 q.2.2) (xs++ys)::R))→Sat W w (seps K)) (h:∀ (o:Option Addr) (n c:Nat),bQ P W N K O Q ks rest ((d,some (.slice o n c))::L) (sl enc k (.slice o n c) (xs++ys)::R)):bQ P W N K O Q ks (j::rest) L H :=
 bQ.d (X:=Option Addr×Nat×Nat) (Lx:=fun q=>(d,some (.slice q.1 q.2.1 q.2.2))::L) (Hx:=fun q=>sl enc k (.slice q.1 q.2.1 q.2.2) (xs++ys)::R) ho rfl hk hK (fun E=>af.HG hN hu hu2 hi hz hk2 hzs hb hx hy (ht.app E) (fun w s=>hr w (by rw[ah] at s;exact s.left)) hlen hone) hK' (fun q=>h q.1 q.2.1 q.2.2)
end
/-! looks -/
def Ad(t:RT):List Value:=[.int .u64 t.handle,.int .i64 t.why,.int .i64 t.fn,.int .i64 t.pc,.int .u64 (t.aq 0),.int .u64 (t.aq 1),.int .u64 (t.aq 2),.int .u64 (t.aq 3),.int .u64 (t.aq 4),.int .u64 (t.aq 5),.int .u64 (t.aq 6),.int .u64 (t.aq 7),.int .u64 t.value]
def RSp.seen(s:RSp)(n:Int):Bool:=decide (0≤n) && decide (n<16) && (s.t n.toNat).used
def RSp.look(s:RSp)(n:Int):List Value:=if s.seen n=true then Ad (s.t n.toNat) else Ad Hq
theorem fh.seen{k:Nat}{s:Spc}{r:RSp}(h:fh p0 s r)(hO:Ok k s [] []){n:Int}:r.seen n=(s.at n).isSome:=by
 unfold RSp.seen
 by_cases hn:0≤n∧n<16
 ·obtain⟨o,ho⟩:=ay (show n.toNat<s.thr.length by rw[hO.lt];omega)
  have e:s.at n=o:=by
   have:s.at ((n.toNat:Nat):Int)=(s.thr[n.toNat]?).getD none:=jP
   rw[show((n.toNat:Nat):Int)=n from by omega,ho] at this;exact this
  rw[e,decide_eq_true hn.1,decide_eq_true hn.2]
  cases o with
  | none=>rw[show(r.t n.toNat).used=false from h.no _ ho];rfl
  | some t=>rw[show(r.t n.toNat).used=true from(h.th _ t ho).us];rfl
 ·have e:s.at n=none:=by
   cases e:s.at n with
   | none=>rfl
   | some t=>obtain⟨h0,h1⟩:=fa e;have:=hO.lt ▸ (List.getElem?_eq_some_iff.1 h1).1;exact absurd ⟨h0,by omega⟩ hn
  rw[e]
  cases e:decide (0≤n) && decide (n<16) with
  | false=>rfl
  | true=>simp only[Bool.and_eq_true,decide_eq_true_eq] at e;exact absurd e hn
theorem fh.look{k:Nat}{s:Spc}{r:RSp}(h:fh p0 s r)(hO:Ok k s [] []){n:Int}:r.look n=mS ((s.at n).getD EG):=by
 unfold RSp.look
 rw[h.seen hO]
 cases e:s.at n with
 | none=>rfl
 | some t =>
  obtain⟨h0,h1⟩:=fa e
  have hT:=h.th _ t h1
  rw[if_pos (show(some t).isSome=true from rfl)]
  show Ad (r.thr n.toNat)=mS t
  unfold Ad mS
  rw[hT.h,hT.w,hT.f,hT.p,hT.v,hT.r];rfl
/-! a new space -/
def BJ(p:eZ)(l:List Tub):RSp:=⟨fun _=>0,fun _=>Hq,List.replicate p.words.toNat 0,List.replicate p.aB.toNat ⟨0,[]⟩,List.replicate p.conds.toNat [],p.aU,List.replicate p.aU.length [],l,List.replicate p.blocks.toNat 0,[],0,fun _=>0,[]⟩
theorem HH{p:eZ}:RSp.new p=((BJ p (p.aG.map fun r=>⟨r,[],[],[]⟩)).begin 0 0).2:=rfl
def HI(v:bN)(vm vM vC vS vW vB:Value):List Value:=eH v++(ny (fun _=>0)++(du (fun _=>Hq)++([vm]++([vM]++([vC]++([vS]++([vW]++([.slice none 0 0]++([vB]++([.slice none 0 0]++([.int .i64 0]++(p9 (fun _=>0)++[.slice none 0 0]))))))))))))
theorem HJ{b:Nat}{v:bN}{vm vM vC vS vW vB:Value}:∀ h,arr b 0 (HI v vm vM vC vS vW vB) h→seps [arr b 0 (eH v),arr b 8 (ny fun _=>0),arr b 24 (du fun _=>Hq),arr b 312 [vm],arr b 313 [vM],arr b 314 [vC],arr b 315 [vS],arr b 316 [vW],arr b 317 [.slice none 0 0],arr b 318 [vB],arr b 319 [.slice none 0 0],arr b 320 [.int .i64 0],arr b 321 (p9 fun _=>0),arr b 337 [.slice none 0 0]] h:=fun h a=>by
 have e1:(ny fun _=>0).length=16:=dA (k:=1) (fun _=>rfl) _ 16
 have e2:(du fun _=>Hq).length=288:=dA nz _ 16
 have e3:(p9 fun _=>0).length=16:=dA (k:=1) (fun _=>rfl) _ 16
 unfold HI at a
 rw[bR,bR,bR,bR,bR,bR,bR,bR,bR,bR,bR,bR,bR,e1,e2,e3] at a
 simp only[seps,aP]
 exact a
theorem yI{α:Type}{f:α→aa}:∀ (l:List α),(∀ x∈l,f x=emp)→aT f l=emp
 | [],_=>rfl
 | x::l,h=>by rw[iN,h x List.mem_cons_self,fK,yI l (fun y hy=>h y (List.mem_cons_of_mem _ hy))]
section
variable{β γ:Type}{enc:γ×β→List Value}{k:Nat}{inner:γ×β→aa}{v:Value}{l:List β}
theorem wS{g:γ}{m:β}{n:Nat}(hi:inner (g,m)=emp):∀ h,seps [sl enc k v (List.replicate n (g,m))] h→eG enc k inner v (List.replicate n m) h:=fun h a=>by
 refine⟨List.replicate n (g,m),by simp,?_⟩
 show seps [sl enc k v (List.replicate n (g,m)),aT inner (List.replicate n (g,m))] h
 rw[yI _ (fun x hx=>by rw[(List.mem_replicate.1 hx).2];exact hi)]
 simpa only[seps,aP,fK] using a
theorem FL{g:γ}{m:β}{xs:List (γ×β)}(hxs:xs.map (·.2)=l)(hi:inner (g,m)=emp):∀ h,seps [sl enc k v (xs++[(g,m)]),aT inner xs] h→eG enc k inner v (l++[m]) h:=fun h a=>by
 refine⟨xs++[(g,m)],by simp[hxs],?_⟩
 show seps [sl enc k v (xs++[(g,m)]),aT inner (xs++[(g,m)])] h
 rw[j7,hi,fK]
 exact a
theorem HK:∀ h,seps [] h→eG enc k inner (.slice none 0 0) ([]:List β) h:=fun h a=>by
 refine⟨[],rfl,?_⟩
 show seps [sl enc k (.slice none 0 0) [],aT inner []] h
 rw[jM,DT]
 simpa only[seps,aP,fK] using a
end
theorem FM{α:Type}{enc:α→List Value}{k:Nat}:∀ h,seps [] h→sl enc k (.slice none 0 0) ([]:List α) h:=fun h a=>by rw[jM];exact a
theorem HL:ej ((.slice none 0 0:Value),(⟨0,[]⟩:gp))=emp:=jM _ _
theorem HM:lH ((.slice none 0 0:Value),([]:List dh))=emp:=jM _ _
theorem HN:jV ((.slice none 0 0:Value),([]:List Int))=emp:=jM _ _
theorem HO{r:Int}:dS (((.slice none 0 0:Value),(.slice none 0 0:Value),(.slice none 0 0:Value)),(⟨r,[],[],[]⟩:Tub))=emp:=by
 show seps [sl bF 1 (.slice none 0 0) [],sl eP 2 (.slice none 0 0) [],sl aL 1 (.slice none 0 0) []]=emp
 rw[jM,jM,jM];simp only[seps,aP]
def qT(r:Int):Tub:=⟨r,[],[],[]⟩
theorem FN{l:List Int}{k:Nat}{x:Int}(h:l[k]?=some x):(l.take k).map qT++[qT x]=(l.take (k+1)).map qT:=by rw[cy h,List.map_append];rfl
end Go.SLYtefdijgllbkmfaaGreat
