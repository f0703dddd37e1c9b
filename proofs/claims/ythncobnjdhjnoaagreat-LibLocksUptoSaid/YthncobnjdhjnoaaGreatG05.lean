/- Walks of functions, and what they compute. Conditions: none, this text proves no statement. -/
import Derived.Test.YthncobnjdhjnoaaGreatG04
import Derived.Laws.StructEq
import Derived.Test.YthncobnjdhjnoaaGreatG01
import Derived.WalkKit
import Derived.ProofKit
import Derived.OpenShut
import Derived.JoinedCond
import Derived.Deep.Slices
import Derived.Carry
import Derived.Test.YthncobnjdhjnoaaGreatRows
import Derived.Test.YthncobnjdhjnoaaGreatG03
import Derived.Test.YthncobnjdhjnoaaGreatProg
import Derived.KernelRfl
namespace Go.SLYthncobnjdhjnoaaGreat
open Go Go.RowKit
theorem H7:fu 0:=⟨by decide,by decide⟩
theorem sO{l:List Int}{w:Int}(h:l.count w=0):l.contains w=false:=by
 cases e:l.contains w with
 | false=>rfl
 | true =>
  have:w∈l:=by simpa using e
  have:=List.count_pos_iff.2 this
  omega
theorem rB{u:Tub}{n:Int}(h:cU n u=0):u.waits n=false:=by
 unfold cU at h
 unfold Tub.waits
 rw[sO (by omega),Bool.false_or,List.any_eq_false]
 intro x hx e
 have:0<u.gw.countP fun x=>decide (x.who=n):=List.countP_pos_iff.2 ⟨x,hx,e⟩
 omega
theorem dW{l:List Int}{x w:Int}:(x::l).count w=l.count w+b2 (x=w):=by rw[List.count_cons];unfold b2;simp
theorem Ew{l:List Ptr}{a b w:Int}:(l++[(⟨a,b⟩:Ptr)]).countP (fun x:Ptr=>decide (x.who=w))=l.countP (fun x=>decide (x.who=w))+b2 (a=w):=by
 rw[List.countP_append];unfold b2;simp[List.countP_cons]
theorem B7{l:List Ptr}{x:Ptr}{w:Int}:(x::l).countP (fun x=>decide (x.who=w))=l.countP (fun x=>decide (x.who=w))+b2 (x.who=w):=by
 rw[List.countP_cons];unfold b2;simp
theorem I9{u:Tub}(h:G9 u){n x:Int}(hx:fu x)(hw:u.waits n=false):G9 (u.put n x).2.2.2∧ ∀ w,cU w (u.put n x).2.2.2+b2 ((u.put n x).2.2.1=true∧(u.put n x).2.1=w)=cU w u+b2 ((u.put n x).1=false∧n=w):=by
 cases hg:u.fZ with
 | cons a r =>
  rw[qo hw hg]
  refine⟨⟨h.r,h.l,h.w,h.p⟩,fun w=>?_⟩
  have e1:b2 (true=true∧a=w)=b2 (a=w):=by unfold b2;simp
  rw[dS (q:=true=false∧n=w) (by rintro⟨a, -⟩;cases a),e1]
  unfold cU
  rw[hg,dW];simp only;omega
 | nil =>
  by_cases hr:(u.words.length:Int)<u.room
  ·rw[nK hw hg hr]
   refine⟨⟨h.r,?_,?_,h.p⟩,fun w=>?_⟩
   ·have:=h.r;rw[List.length_append];simp only[List.length_cons,List.length_nil];omega
   ·intro y hy
    rcases List.mem_append.1 hy with hy | hy
    ·exact h.w y hy
    ·rw[List.mem_singleton] at hy;rw[hy];exact hx
   ·rw[dS (q:=true=false∧n=w) (by rintro⟨a, -⟩;cases a),dS (q:=false=true∧(0:Int)=w) (by rintro⟨a, -⟩;cases a)];rfl
  ·rw[nL hw hg hr]
   refine⟨⟨h.r,h.l,h.w,fun y hy=>?_⟩,fun w=>?_⟩
   ·rcases List.mem_append.1 hy with hy | hy
    ·exact h.p y hy
    ·rw[List.mem_singleton] at hy;rw[hy];exact hx
   ·have e1:b2 (false=false∧n=w)=b2 (n=w):=by unfold b2;simp
    rw[dS (q:=false=true∧(0:Int)=w) (by rintro⟨a, -⟩;cases a),e1]
    unfold cU
    rw[Ew];simp only;omega
theorem Ja{u:Tub}(h:G9 u){n:Int}(hw:u.waits n=false):G9 (u.get n).2.2.2.2∧fu (u.get n).1∧ ∀ w,cU w (u.get n).2.2.2.2+b2 ((u.get n).2.2.2.1=true∧(u.get n).2.2.1=w)=cU w u+b2 ((u.get n).2.1=false∧n=w):=by
 have n1:∀ w,b2 (true=false∧n=w)=0:=fun w=>dS (by rintro⟨a, -⟩;cases a)
 have n2:∀ w,b2 (false=true∧(0:Int)=w)=0:=fun w=>dS (by rintro⟨a, -⟩;cases a)
 cases hg:u.words with
 | nil =>
  rw[get_none hw hg]
  refine⟨⟨h.r,h.l,h.w,h.p⟩,H7,fun w=>?_⟩
  have e1:b2 (false=false∧n=w)=b2 (n=w):=by unfold b2;simp
  rw[n2,e1]
  unfold cU
  rw[List.count_append,mP];simp only;omega
 | cons x r =>
  have hwx:=h.w x (by rw[hg];exact List.mem_cons_self)
  have hwr:∀ y∈r,fu y:=fun y hy=>h.w y (by rw[hg];exact List.mem_cons_of_mem _ hy)
  have hl:=h.l
  rw[hg,List.length_cons] at hl
  cases hp:u.gw with
  | nil =>
   rw[nM hw hg hp]
   refine⟨⟨h.r,by show r.length≤8;omega,hwr,h.p⟩,hwx,fun w=>?_⟩
   rw[n1,n2];rfl
  | cons y q =>
   rw[nN hw hg hp]
   refine⟨⟨h.r,?_,?_,fun z hz=>h.p z (by rw[hp];exact List.mem_cons_of_mem _ hz)⟩,hwx,fun w=>?_⟩
   ·show(r++[y.x]).length≤8
    rw[List.length_append];simp only[List.length_cons,List.length_nil];omega
   ·intro z hz
    rcases List.mem_append.1 hz with hz | hz
    ·exact hwr z hz
    ·rw[List.mem_singleton] at hz;rw[hz];exact h.p y (by rw[hp];exact List.mem_cons_self)
   ·have e1:b2 (true=true∧y.who=w)=b2 (y.who=w):=by unfold b2;simp
    rw[n1,e1]
    unfold cU
    rw[hp,B7];simp only;omega
theorem H8{d:kW}{r:vZ}{w:Int}:cD {d with wait:=d.wait++[r] } w=cD d w+b2 (r.who=w):=by
 unfold cD;rw[List.countP_append];unfold b2;simp[List.countP_cons]
theorem Jb{d:kW}(h:zo d){r:vZ}(hx:fu r.x)(hw:cD d r.who=0):zo (d.ask r).2∧ ∀ w,cD (d.ask r).2 w=cD d w+b2 ((d.ask r).1=0∧r.who=w):=by
 cases hb:(decide (r.block<0) || decide ((d.blocks.length:Int)≤r.block)) with
 | true =>
  rw[AN hb]
  exact⟨h,fun w=>by rw[dS (fun h=>d1 h.1)];rfl⟩
 | false =>
  have hn:d.wait.any (fun x=>decide (x.who=r.who))=false:=by
   rw[List.any_eq_false]
   intro x hx e
   have:0<cD d r.who:=List.countP_pos_iff.2 ⟨x,hx,e⟩
   omega
  rw[D2 hb hn]
  refine⟨⟨h.l,h.b,fun y hy=>?_⟩,fun w=>?_⟩
  ·rcases List.mem_append.1 hy with hy | hy
   ·exact h.w y hy
   ·rw[List.mem_singleton] at hy
    subst hy
    simp only[Bool.or_eq_false_iff,decide_eq_false_iff_not] at hb
    exact⟨by omega,by show _<(d.blocks.length:Int);omega,hx⟩
  ·rw[H8]
   have e1:b2 ((0:Int)=0∧r.who=w)=b2 (r.who=w):=by unfold b2;simp
   rw[e1]
theorem H9{l:List (Int×Int)}{n v w:Int}(h:l.countP (fun x=>decide (x.1=n))=0):(mapSet l n v).countP (fun x=>decide (x.1=w))=l.countP (fun x=>decide (x.1=w))+b2 (n=w):=by
 induction l with
 | nil=>unfold mapSet b2;simp[List.countP_cons]
 | cons a l ih =>
  rw[List.countP_cons] at h
  have ha:¬a.1=n:=fun e=>by rw[if_pos (by simpa using e)] at h;omega
  unfold mapSet
  rw[if_neg ha,List.countP_cons,List.countP_cons,ih (by omega)]
  omega
theorem xD{l:List (Int×Int)}{n:Int}(h:l.countP (fun x=>decide (x.1=n))=0):kX l n=none:=by
 unfold kX
 rw[List.find?_eq_none.2]
 ·rfl
 ·intro x hx e
  have:0<l.countP (fun x=>decide (x.1=n)):=List.countP_pos_iff.2 ⟨x,hx,e⟩
  omega
theorem Gk{u:kK}(h:0≤u.now∧u.now≤1099511627776){n x:Int}(hx:1≤x∧x≤1099511627776)(hz:cL u n=0):(0≤(u.sleep n x).2.now∧(u.sleep n x).2.now≤1099511627776)∧ ∀ w,cL (u.sleep n x).2 w=cL u w+b2 (n=w):=by
 unfold kK.sleep
 rw[if_neg (by omega),xD hz,if_neg (by simp)]
 exact⟨h,fun w=>H9 hz⟩
section
variable{k:Nat}{s0:Spc}{d:Dng}{p q:List Int}{t:bA}
theorem St.bM(S:St k s0 d t)(ht:d.i.n<(d.s.bV.length:Int)):d.s.bV[d.i.n.toNat]?=some d.bM∧G9 d.bM∧d.bM.waits d.n=false:=by
 have hn:=S.I.n
 have h1:d.s.bV[d.i.n.toNat]?=some d.bM:=getD_some (by omega)
 have hm:=List.mem_of_getElem? h1
 refine⟨h1,S.h.ok.tb.2 _ hm,rB ?_⟩
 have h2:cU d.n d.bM≤cT d.s.bV d.n:=ee (f:=cU d.n) hm
 have:=S.zero
 unfold mj at this;omega
theorem St.put(S:St k s0 d t)(ht:d.i.n<(d.s.bV.length:Int)):de k s0 d.put [] []:=by
 obtain⟨h1,h2,h3⟩:=S.bM ht
 obtain⟨h4,h5⟩:=I9 h2 S.a h3
 unfold Dng.put
 simp only
 split
 ·rename_i hb
  have hg:(d.bM.put d.n d.a).2.2.1=false:=by
   cases hg:d.bM.fZ with
   | cons a r=>rw[qo h3 hg] at hb;cases hb
   | nil =>
    by_cases hr:(d.bM.words.length:Int)<d.bM.room
    ·rw[nK h3 hg hr] at hb;cases hb
    ·rw[nL h3 hg hr]
  have h6:=S.h.ek h1 h4 (p':=[]) (q':=[(d.n:Int)]) (fun w=>by
   have:=h5 w
   rw[dS (fun h=>by rw[hg] at h;exact absurd h.1 (by simp))] at this
   have e:b2 ((d.bM.put d.n d.a).1=false∧(d.n:Int)=w)=b2 ((d.n:Int)=w):=by unfold b2;simp[hb]
   rw[e] at this;rw[mP];simp;omega)
  exact h6.block S.ht S.hw S.hn S.hs S.he ⟨by decide,by decide⟩ (by decide)
 ·rename_i hb
  have hb:(d.bM.put d.n d.a).1=true:=by simpa using hb
  have h6:=S.h.ek h1 h4 (p':=if (d.bM.put d.n d.a).2.2.1=true then [(d.bM.put d.n d.a).2.1] else []) (q':=[]) (fun w=>by
   have:=h5 w
   rw[dS (q:=(d.bM.put d.n d.a).1=false∧_) (fun h=>by rw[hb] at h;exact absurd h.1 (by simp))] at this
   rw[xz];simp;omega)
  have h7:=h6.pass S.ht S.hw S.hn (x:=d.i.n) (y:=d.a) (e:=0) (by decide)
  split
  ·rename_i hg
   rw[if_pos hg] at h7
   exact(h7.cB (by simp) S.a (fun _=>⟨S.hs,S.he⟩)).qe (fun w=>by simp)
  ·rename_i hg
   rw[if_neg hg] at h7
   exact h7
theorem St.get(S:St k s0 d t)(ht:d.i.n<(d.s.bV.length:Int)):de k s0 d.get [] []:=by
 have ho:=S.o
 obtain⟨h1,h2,h3⟩:=S.bM ht
 obtain⟨h4,hW,h5⟩:=Ja h2 h3
 unfold Dng.get
 simp only
 split
 ·rename_i hb
  have hg:(d.bM.get d.n).2.2.2.1=false:=by
   cases hg:d.bM.words with
   | nil=>rw[get_none h3 hg]
   | cons x r =>
    cases hp:d.bM.gw with
    | nil=>rw[nM h3 hg hp]
    | cons y q=>rw[nN h3 hg hp] at hb;cases hb
  have h6:=S.h.ek h1 h4 (p':=[]) (q':=[(d.n:Int)]) (fun w=>by
   have:=h5 w
   rw[dS (fun h=>by rw[hg] at h;exact absurd h.1 (by simp))] at this
   have e:b2 ((d.bM.get d.n).2.1=false∧(d.n:Int)=w)=b2 ((d.n:Int)=w):=by unfold b2;simp[hb]
   rw[e] at this;rw[mP];simp;omega)
  exact h6.block S.ht S.hw S.hn S.hs S.he ⟨by decide,by decide⟩ (by have:=S.I.a;omega)
 ·rename_i hb
  have hb:(d.bM.get d.n).2.1=true:=by simpa using hb
  have h6:=S.h.ek h1 h4 (p':=if (d.bM.get d.n).2.2.2.1=true then [(d.bM.get d.n).2.2.1] else []) (q':=[]) (fun w=>by
   have:=h5 w
   rw[dS (q:=(d.bM.get d.n).2.1=false∧_) (fun h=>by rw[hb] at h;exact absurd h.1 (by simp))] at this
   rw[xz];simp;omega)
  rw[show(d.ek d.i.n.toNat (d.bM.get d.n).2.2.2.2).t=t from cP S.ht]
  have h8:=h6.own S.ht (t':=t.put d.i.a (d.bM.get d.n).1) (ho.R.put hW) ho.pc rfl rfl rfl rfl rfl
  have h7:=h8.pass (t:=t.put d.i.a (d.bM.get d.n).1) (cS S.ht) S.hw S.hn (x:=d.i.n) (y:=(d.bM.get d.n).1) (e:=0) (by decide)
  split
  ·rename_i hg
   rw[if_pos hg] at h7
   exact(h7.cB (by simp) ⟨by decide,by decide⟩ (fun _=>⟨S.hs,S.he⟩)).qe (fun w=>by simp)
  ·rename_i hg
   rw[if_neg hg] at h7
   exact h7
theorem St.ask(S:St k s0 d t){b y i:Int}(hy:fu y)(hi : -1≤i∧i<8):de k s0 (d.ask b y i) [] []:=by
 unfold Dng.ask
 simp only
 split
 ·have hz:cD d.s.cu d.n=0:=by have:=S.zero;unfold mj at this;omega
  obtain⟨h1,h2⟩:=Jb S.h.ok.dk (r:=⟨d.n,b,decide (d.i.op=34),y⟩) hy hz
  split
  ·rename_i he
   have h6:=S.h.cN h1 (p':=[]) (q':=[]) (fun w=>by rw[h2 w,dS (fun h=>he h.1)];rfl)
   exact h6.pass S.ht S.hw S.hn D7
  ·rename_i he
   have he:=Decidable.not_not.mp he
   have h6:=S.h.cN h1 (p':=[]) (q':=[(d.n:Int)]) (fun w=>by
    rw[h2 w,mP]
    have e:b2 ((d.s.cu.ask ⟨d.n,b,decide (d.i.op=34),y⟩).1=0∧(d.n:Int)=w)=b2 ((d.n:Int)=w):=by unfold b2;simp[he]
    simp only[e];simp)
   exact h6.block S.ht S.hw S.hn S.hs S.he ⟨by decide,by decide⟩ hi
 ·exact S.pass (by decide)
theorem St.sleep(S:St k s0 d t):de k s0 d.sleep [] []:=by
 have ha:=S.a
 unfold Dng.sleep
 simp only
 split
 ·exact S.pass (by decide)
 ·split
  ·exact S.pass (by decide)
  ·rename_i h0 h1
   have hz:cL d.s.aM d.n=0:=by have:=S.zero;unfold mj at this;omega
   obtain⟨h2,h3⟩:=Gk S.h.ok.wl (n:=d.n) (x:=d.a) ⟨by have:=ha.1;omega,by omega⟩ hz
   have h6:=S.h.td h2 (p':=[]) (q':=[(d.n:Int)]) (fun w=>by rw[h3 w,mP];simp)
   exact h6.block S.ht S.hw S.hn S.hs S.he ⟨by decide,by decide⟩ (by decide)
theorem St.kernel(S:St k s0 d t)(ht:d.i.op=35∨d.i.op=36→d.i.n<(d.s.bV.length:Int)):de k s0 d.kernel [] []:=by
 have hi:=S.I.a
 unfold Dng.kernel
 split
 ·exact S.ask ⟨by decide,by decide⟩ (by omega)
 split
 ·exact S.ask S.b (by decide)
 split
 ·exact S.put (ht (.inl ‹_›))
 split
 ·exact S.get (ht (.inr ‹_›))
 split
 ·exact S.sleep
 ·exact S.pass (by decide)
theorem de.more(h:de k s0 d p q){k':Nat}(hk:k≤k'):de k' s0 d p q:=⟨h.ok.more hk,h.rd,h.wk,h.rc,h.px⟩
theorem St.call(S:St k s0 d t)(hk:k≤1000000)(ht:d.i.op=35∨d.i.op=36→d.i.n<(d.s.bV.length:Int)):de (k+1) s0 d.call [] []:=by
 have ho:=S.o
 have up:∀ {e:Dng},de k s0 e [] []→de (k+1) s0 e [] []:=fun h=>h.more (Nat.le_succ _)
 unfold Dng.call
 simp only
 split
 ·exact S.spawn hk
 split
 ·rw[cP S.ht]
  have h1:=S.h.own S.ht (t':=t.put d.i.a t.handle) (ho.R.put ho.R.h) ho.pc rfl rfl rfl rfl rfl
  exact up (h1.pass (t:=t.put d.i.a t.handle) (cS S.ht) S.hw S.hn (by decide))
 split
 ·have h1:=S.pass (x:=0) (y:=0) (e:=0) (by decide)
  exact up ⟨h1.ok,h1.rd,h1.wk,h1.rc,h1.px⟩
 split
 ·exact up S.join
 split
 ·exact up S.fq
 split
 ·exact up (de.fin (d:=d.tell d.a 0 0 true) (S.h.tell S.ht S.hw S.hn) S.ht S.hw S.hs S.he S.a)
 split
 ·exact up S.mutex
 split
 ·exact up S.signal
 split
 ·exact up S.dU
 ·exact up (S.kernel ht)
end
end Go.SLYthncobnjdhjnoaaGreat
namespace Go.SLYthncobnjdhjnoaaGreat
open Go Go.RowKit
theorem Kw:∀ (n:Nat) (l:List Int),(∀ x∈l,0≤x∧x<(n:Int))→(∀ w,l.count w≤1)→l.length≤n
 | 0,l,h,_=>by
  cases l with
  | nil=>exact Nat.le_refl _
  | cons a l=>have:=h a List.mem_cons_self;omega
 | n+1,l,h,hc=>by
  have h1:=Kw n (l.filter fun x => !decide (x=(n:Int))) (fun x hx=>by
   obtain⟨a,b⟩:=List.mem_filter.1 hx
   have:=h x a
   have:¬x=(n:Int):=by simpa using b
   omega) (fun w=>Nat.le_trans (List.Sublist.count_le w List.filter_sublist) (hc w))
  have h2:=List.length_eq_countP_add_countP (fun x=>decide (x=(n:Int))) (l:=l)
  have h3:l.countP (fun x=>decide (x=(n:Int)))=l.count (n:Int):=by unfold List.count;congr 1
  rw[← List.countP_eq_length_filter] at h1
  have h4:=hc (n:Int)
  have h5:l.countP (fun x => !decide (x=(n:Int)))=l.countP (fun a=>decide ¬(decide (a=(n:Int)))=true):=by congr 1;funext x;simp
  omega
section
variable{k:Nat}{s:Spc}
theorem nV{α:Type}{f:α→Int}{l:List α}(hl:s.aA.length=16)(h:∀ w,l.countP (fun x=>decide (f x=w))≤dy s w):l.length≤16:=by
 have e:∀ w,(l.map f).count w=l.countP (fun x=>decide (f x=w)):=fun w=>by
  unfold List.count;rw[List.countP_map];congr 1
 have:=Kw 16 (l.map f) (fun x hx=>by
  obtain⟨y,hy,rfl⟩:=List.mem_map.1 hx
  have h1:0<l.countP (fun x=>decide (f x=f y)):=List.countP_pos_iff.2 ⟨y,hy,by simp⟩
  obtain⟨t,ht, -, -⟩:=iU (Nat.lt_of_lt_of_le h1 (h (f y)))
  obtain⟨h0,hat⟩:=hG ht
  have:=(List.getElem?_eq_some_iff.1 hat).1
  exact⟨h0,by omega⟩) (fun w=>by rw[e];exact Nat.le_trans (h w) Eh)
 rw[List.length_map] at this;exact this
theorem lj{w:Int}(h:0<dy s w):0≤w∧ ∃ u,s.aA[w.toNat]?=some (some u):=by
 obtain⟨t,ht, -, -⟩:=iU h
 exact⟨(hG ht).1,t,(hG ht).2⟩
theorem Ia{p:gD}(hc:((((((((((0<p.funcs.length∧p.funcs.length≤8)∧0≤p.words∧p.words≤64)∧0≤p.bm∧p.bm≤4)∧0≤p.conds∧p.conds≤4)∧0≤p.blocks∧p.blocks≤64)∧0≤p.prio∧p.prio≤7)∧p.sems.length≤4)∧p.pipes.length≤4)∧(p.funcs.all fun f=>decide (f.length≤256))=true)∧(p.sems.all fun n=>decide (0≤n) && decide (n≤1048576))=true)∧(p.pipes.all fun n=>decide (0<n) && (decide (0≤n) && decide (n≤8)))=true){op:Int}(h:¬op=1):(bJ p op).any=false∧(bJ p op).n≤1000:=by
 unfold bJ
 rw[if_neg h]
 repeat' split
 all_goals exact⟨rfl,by simp only;omega⟩
theorem Ex{p:gD}(hc:gn p=true){i:Ins}(h:gS p i=true)(hn:fu i.n):mi i∧(cls i.op≠1→i.n≤1099511627776)∧(i.op=35∨i.op=36→i.n<(p.pipes.length:Int)):=by
 unfold gn at hc
 simp only[Bool.and_eq_true,decide_eq_true_eq,within] at hc
 unfold gS at h
 split at h
 ·cases h
 ·rename_i hcl
  simp only[Bool.and_eq_true] at h
  obtain⟨⟨⟨h1,h2⟩,h3⟩,h4⟩:=h
  have hr:∀ {n:Int} {b:Bool},s8 n b=true→0≤n∧n<8:=fun h=>by
   simp[s8] at h;omega
  refine⟨⟨hr h1,hr h2,?_,hn,fun hj=>?_⟩,fun hc1=>?_,fun ho=>?_⟩
  ·split at h3
   ·simp at h3;omega
   ·exact hr h3
  ·unfold Form.below at h4
   rcases hj with hj | hj
   ·rw[show bJ p i.op=⟨0,false,257,false⟩ from by unfold bJ;repeat (first | rw[if_pos (by omega)] | rw[if_neg (by omega)])] at h4
    simp at h4;omega
   ·rw[show bJ p i.op=⟨1,false,257,false⟩ from by unfold bJ;repeat (first | rw[if_pos (by omega)] | rw[if_neg (by omega)])] at h4
    simp at h4;omega
  ·have hn1:¬i.op=1:=fun e=>hc1 (by unfold cls;rw[if_pos (by omega)])
   obtain⟨g1,g2⟩:=Ia hc hn1
   unfold Form.below at h4
   rw[g1] at h4
   simp at h4
   split at h4
   ·omega
   ·have:=(by simpa using h4:_∧_).2
    omega
  ·unfold Form.below at h4
   rw[show bJ p i.op=⟨1,false,p.pipes.length,false⟩ from by unfold bJ;repeat (first | rw[if_pos (by omega)] | rw[if_neg (by omega)])] at h4
   simp at h4
   exact h4.2
theorem Ok.bI(h:Ok k s [] [])(hk:k≤1000000)(hr:s.aB.length≤80000000):hD s:=by
 have hcap:gn s.eE=true:=by
  have:=h.A1.1;unfold c0 at this
  split at this
  ·assumption
  ·cases this
 have hall:∀ f∈s.eE.funcs, ∀ i∈f,gS s.eE i=true:=by
  have:=h.A1.1;unfold c0 at this
  rw[if_pos hcap] at this
  split at this
  ·rename_i ha
   intro f hf i hi
   have:=List.all_eq_true.1 (List.all_eq_true.1 ha f hf) i hi
   exact this
  ·cases this
 have hc:=hcap
 unfold gn at hc
 simp only[Bool.and_eq_true,decide_eq_true_eq,within,List.all_eq_true] at hc
 obtain⟨⟨⟨⟨⟨⟨⟨⟨⟨⟨⟨c1,c2⟩,c3⟩,c4⟩,c5⟩,c6⟩,c7⟩,c8⟩,c9⟩,c10⟩,c11⟩,c12⟩:=hc
 have hbal:∀ w,mj s w=dy s w:=fun w=>by have:=h.qe w;simpa using this
 have bG:∀ w,cG s.ak w≤dy s w:=fun w=>by have:=hbal w;unfold mj at this;omega
 have bU:∀ w,cT s.bV w≤dy s w:=fun w=>by have:=hbal w;unfold mj at this;omega
 have bD:∀ w,cD s.cu w≤dy s w:=fun w=>by have:=hbal w;unfold mj at this;omega
 have bL:∀ w,cL s.aM w≤dy s w:=fun w=>by have:=hbal w;unfold mj at this;omega
 have hm:∀ x∈s.ak.cR,x.wait.length≤16:=fun x hx=>nV (f:=fun y:eu=>y.who) h.lt fun w=>by
  have:=ee (f:=fun m:ei=>dn w m.wait) hx
  have:=bG w
  have e:x.wait.countP (fun y=>decide (y.who=w))=dn w x.wait:=rfl
  unfold cG at this;omega
 have hcn:∀ x∈s.ak.gp,x.length≤16:=fun x hx=>nV (f:=fun y:eu=>y.who) h.lt fun w=>by
  have:=ee (f:=dn w) hx
  have:=bG w
  have e:x.countP (fun y=>decide (y.who=w))=dn w x:=rfl
  unfold cG at this;omega
 have hsm:∀ x∈s.ak.dU,x.wait.length≤16:=fun x hx=>nV (f:=fun y:eu=>y.who) h.lt fun w=>by
  have:=ee (f:=fun m:jR=>dn w m.wait) hx
  have:=bG w
  have e:x.wait.countP (fun y=>decide (y.who=w))=dn w x.wait:=rfl
  unfold cG at this;omega
 have hug:∀ u∈s.bV, ∀ w,u.fZ.count w≤dy s w∧u.gw.countP (fun x=>decide (x.who=w))≤dy s w:=fun u hu w=>by
  have h1:cU w u≤cT s.bV w:=ee (f:=cU w) hu
  have h2:=bU w
  unfold cU at h1;exact⟨by omega,by omega⟩
 have hd16:s.cu.wait.length≤16:=nV (f:=fun r:vZ=>r.who) h.lt bD
 have hw16:s.aM.gx.length≤16:=nV (f:=fun r:Int×Int=>r.1) h.lt bL
 refine⟨h.lt,⟨by rw[h.ll];decide,fun o ho=>?_⟩,fun n t e=>⟨(h.th n t e).R,(h.th n t e).pc⟩,fun x m e=>tH (d:=⟨s,0,⟨0,0,0,0,0⟩,0,mh.z,[]⟩) h x m e,fun n e=>?_,fun n t ht hw hj=>?_,hr,by rw[h.me.1];omega,⟨by rw[h.gt.m];omega,by rw[h.gt.c];omega,by rw[h.gt.s];omega,fun x hx=>Nat.le_trans (hm x hx) (by decide),fun x hx=>Nat.le_trans (hcn x hx) (by decide),fun x hx=>Nat.le_trans (hsm x hx) (by decide)⟩,h.gt.sc,h.gt.cm,fun w hw=>lj ?_,by rw[h.gt.m];omega,⟨fun x hx=>Nat.le_trans (hm x hx) (by decide),fun x hx=>Nat.le_trans (hcn x hx) (by decide)⟩,fun f hf i hi=>?_,⟨by omega,fun f hf=>c10 f hf⟩,fun u hu=>?_,fun u hu=>⟨fun w hw=>lj ?_,fun x hx=>lj ?_⟩,fun u hu=>(h.tb.2 u hu).w,by omega,fun r hr=>?_,fun r hr=>lj ?_,h.wl,by omega,fun x hx=>lj ?_⟩
 ·have:=h.tk o ho;omega
 ·obtain⟨o,ho,hb⟩:∃ o,s.table[n]?=some o∧o.1=false:=by
   have hfr:∀ (l:List (Bool×Int)) (i n:Nat),slotFree? l i=some n→i≤n∧ ∃ o,l[n-i]?=some o∧o.1=false:=by
    intro l
    induction l with
    | nil=>intro i n h;cases h
    | cons o l ih =>
     intro i n h
     unfold slotFree? at h
     split at h
     ·obtain⟨a,o',b,c⟩:=ih (i+1) n h
      exact⟨by omega,o',by rw[show n-i=(n-(i+1))+1 from by omega];simpa using b,c⟩
     ·cases h;rename_i hb
      exact⟨Nat.le_refl _,o,by simp,by simpa using hb⟩
   obtain⟨-,o,ho,hb⟩:=hfr _ _ _ e
   exact⟨o,by simpa using ho,hb⟩
  have hn:n<16:=h.ll ▸ (List.getElem?_eq_some_iff.1 ho).1
  obtain⟨x,hx⟩:=al (show n<s.aA.length by rw[h.lt];exact hn)
  cases x with
  | none=>exact hx
  | some t =>
   have:=(h.us n hn).2 ⟨t,hx⟩
   rw[List.getD_eq_getElem?_getD,ho,show(Option.getD (some o) (false,(0:Int)))=o from rfl,hb] at this
   cases this
 ·have h1:1≤cJ s.aA t.av:=by
   have:jn t.av (some t)=1:=by rw[gf];exact if_pos ⟨rfl,hj⟩
   have h2:jn t.av (some t)≤cJ s.aA t.av:=ee (f:=jn t.av) (List.mem_of_getElem? ht)
   omega
  have h2:=hbal t.av
  obtain⟨u,hu,hu0,hu9⟩:=iU (s:=s) (w:=t.av) (by unfold mj at h2;omega)
  obtain⟨h0,hat⟩:=hG hu
  exact⟨h0,fun e=>by rw[e,ht] at hat;cases hat;exact hu0 hw,u,hat⟩
 ·refine Nat.lt_of_lt_of_le ?_ (bG w)
  unfold cG
  rcases hw with ⟨x,hx,y,hy,rfl⟩ | ⟨x,hx,y,hy,rfl⟩ | ⟨x,hx,y,hy,rfl⟩
  ·have h1:=ee (f:=fun m:ei=>dn y.who m.wait) hx
   have h2:0<dn y.who x.wait:=List.countP_pos_iff.2 ⟨y,hy,by simp[G8]⟩
   omega
  ·have h1:=ee (f:=dn y.who) hx
   have h2:0<dn y.who x:=List.countP_pos_iff.2 ⟨y,hy,by simp[G8]⟩
   omega
  ·have h1:=ee (f:=fun m:jR=>dn y.who m.wait) hx
   have h2:0<dn y.who x.wait:=List.countP_pos_iff.2 ⟨y,hy,by simp[G8]⟩
   omega
 ·have:=Ex hcap (hall f hf i hi) (h.A1.2 f hf i hi)
  rw[h.tb.1];exact this
 ·have h1:=h.tb.2 u hu
  exact⟨Nat.le_trans h1.l (by decide),Nat.le_trans (nV (f:=fun x:Ptr=>x.who) h.lt fun w=>(hug u hu w).2) (by decide),Nat.le_trans (nV (f:=fun x:Int=>x) h.lt fun w=>by
   have:=(hug u hu w).1
   have e:u.fZ.countP (fun x=>decide (x=w))=u.fZ.count w:=by unfold List.count;congr 1
   omega) (by decide)⟩
 ·exact Nat.lt_of_lt_of_le (List.count_pos_iff.2 hw) (hug u hu w).1
 ·exact Nat.lt_of_lt_of_le (List.countP_pos_iff.2 ⟨x,hx,by simp⟩) (hug u hu x.who).2
 ·have:=h.dk.w r hr;exact⟨this.1,this.2.1⟩
 ·exact Nat.lt_of_lt_of_le (List.countP_pos_iff.2 ⟨r,hr,by simp⟩) (bD r.who)
 ·exact Nat.lt_of_lt_of_le (List.countP_pos_iff.2 ⟨x,hx,by simp⟩) (bL x.1)
end
end Go.SLYthncobnjdhjnoaaGreat
namespace Go.SLYthncobnjdhjnoaaGreat
open Go Go.RowKit
section
variable{k:Nat}{s:Spc}
theorem de.start(h:Ok k s [] [])(hR:dD s s.aB){n:Nat}{i:Ins}{c:Int}:de k s (s.dp n i c) [] []:=⟨h,fun w=>by simp[Spc.dp,mh.z],fun w hw=>(by cases hw),by show dD s (s.aB++[]);rw[List.append_nil];exact hR,List.prefix_refl _⟩
theorem Ib{d:Dng}(h:de k s d [] []){n:Int}(hn:n=(d.n:Int)):Ok k d.finish.2 [] []∧(∀ w,dq d.finish.2 w+(if (d.finish.1.aK=true∨d.finish.1.ended=true)∧w=n then 1 else 0)=dq s w+d.finish.1.aw.count w)∧(∀ w∈d.finish.1.aw,dq s w=0)∧dD d.finish.2 d.finish.2.aB∧s.aB <+: d.finish.2.aB:=by
 subst hn
 exact⟨h.ok.aB _,h.rd,h.wk,h.rc.of rfl rfl,h.px.trans (List.prefix_append _ _)⟩
theorem B8(d:Dng)(a:List Int):(d.dc a).n=d.n:=by
 induction a generalizing d with
 | nil=>rfl
 | cons x l ih=>exact(ih _).trans rfl
theorem A2{d:Dng}{v:Int}:(d.fin v).n=d.n:=by
 unfold Dng.fin
 split
 ·rfl
 ·split <;> rfl
theorem Gl{d:Dng}:d.plain.n=d.n:=by
 unfold Dng.plain
 split
 ·simp only
  split
  ·rfl
  ·split <;> rfl
 ·split
  ·exact A2
  ·exact A2
theorem A3{d:Dng}{n:Int}{ok:Bool}:(d.given n ok).n=d.n:=by unfold Dng.given;split <;> rfl
theorem Hc{d:Dng}{b y i:Int}:(d.ask b y i).n=d.n:=by
 unfold Dng.ask
 simp only
 repeat' split
 all_goals rfl
theorem Ic{d:Dng}:d.call.n=d.n:=by
 unfold Dng.call
 simp only
 split
 ·rfl
 split
 ·rfl
 split
 ·rfl
 split
 ·unfold Dng.join;simp only;repeat' split
  all_goals rfl
 split
 ·unfold Dng.fq;simp only;repeat' split
  all_goals rfl
 split
 ·exact A2
 split
 ·unfold Dng.mutex;simp only;repeat' split
  all_goals first | rfl | exact A3
 split
 ·exact B8 _ _
 split
 ·unfold Dng.dU;simp only;repeat' split
  all_goals first | rfl | exact A3
 ·unfold Dng.kernel
  split
  ·exact Hc
  split
  ·exact Hc
  split
  ·unfold Dng.put;simp only;repeat' split
   all_goals rfl
  split
  ·unfold Dng.get;simp only;repeat' split
   all_goals rfl
  split
  ·unfold Dng.sleep;simp only;repeat' split
   all_goals rfl
  ·rfl
theorem Gm{s:Spc}(hO:hD s){f:gZ}{i:Ins}(e:dB s.eE f=some i):f.pc≤256:=by
 unfold dB at e
 split at e
 ·cases e
 ·have hlt:=(List.getElem?_eq_some_iff.1 e).1
  cases hf:s.eE.funcs[f.fn.toNat]? with
  | none=>rw[List.getD_eq_getElem?_getD,hf] at hlt;exact absurd hlt (Nat.not_lt_zero _)
  | some g =>
   rw[List.getD_eq_getElem?_getD,hf] at hlt
   have h1:f.pc.toNat<g.length:=hlt
   have h2:=hO.xC.2 g (List.mem_of_getElem? hf)
   omega
theorem Ok.run(h:Ok k s [] [])(hR:dD s s.aB)(hk:k≤1000000)(hr:s.aB.length≤80000000){n c:Int} :
  Ok (k+1) (s.run n c).2.2 [] []∧(∀ w,dq (s.run n c).2.2 w+(if ((s.run n c).1.aK=true∨(s.run n c).1.ended=true)∧w=n then 1 else 0)=dq s w+(s.run n c).1.aw.count w)∧
  ((s.run n c).2.1≠0→(s.run n c).2.2=s∧(s.run n c).1=mh.z)∧(s.run n c).2.2.aB.length≤s.aB.length+400002∧((s.run n c).2.1=0↔dq s n=1)∧(∀ w∈(s.run n c).1.aw,dq s w=0)∧dD (s.run n c).2.2 (s.run n c).2.2.aB∧s.aB <+: (s.run n c).2.2.aB:=by
 have hO:=h.bI hk hr
 have hup:Ok (k+1) s [] []:=h.more (Nat.le_succ _)
 cases hat:s.at n with
 | none =>
  rw[xl hat]
  refine⟨hup,fun w=>by simp[mh.z],fun _=>⟨rfl,rfl⟩,by simp only;omega,?_,fun w hw=>(by cases hw),hR,List.prefix_refl _⟩
  simp only
  unfold dq;rw[hat];simp[rO]
 | some t =>
  by_cases hw:t.cE≠0
  ·rw[xn hat hw]
   refine⟨hup,fun w=>by simp[mh.z],fun _=>⟨rfl,rfl⟩,by simp only;omega,?_,fun w hw=>(by cases hw),hR,List.prefix_refl _⟩
   simp only
   unfold dq;rw[hat,cZ,if_neg hw];simp
  ·have hw0:t.cE=0:=Decidable.not_not.mp hw
   obtain⟨h0,ht⟩:=hG hat
   obtain⟨m,rfl⟩:∃ m:Nat,n=(m:Int):=⟨n.toNat,by omega⟩
   rw[Int.toNat_natCast] at ht
   have hrd:dq s (m:Int)=1:=by unfold dq;rw[hat,cZ,if_pos hw0]
   have fin:∀ {z:Dng} {a b:Nat},de (k+1) s z [] []→z.n=m→dZ (s.dp m ⟨0,0,0,0,0⟩ c) z a b→a≤1→b≤400001→s.run (m:Int) c=(z.finish.1,0,z.finish.2)→
     Ok (k+1) (s.run (m:Int) c).2.2 [] []∧(∀ w,dq (s.run (m:Int) c).2.2 w+(if ((s.run (m:Int) c).1.aK=true∨(s.run (m:Int) c).1.ended=true)∧w=(m:Int) then 1 else 0)=dq s w+(s.run (m:Int) c).1.aw.count w)∧
     ((s.run (m:Int) c).2.1≠0→(s.run (m:Int) c).2.2=s∧(s.run (m:Int) c).1=mh.z)∧(s.run (m:Int) c).2.2.aB.length≤s.aB.length+400002∧((s.run (m:Int) c).2.1=0↔dq s (m:Int)=1)∧(∀ w∈(s.run (m:Int) c).1.aw,dq s w=0)∧dD (s.run (m:Int) c).2.2 (s.run (m:Int) c).2.2.aB∧s.aB <+: (s.run (m:Int) c).2.2.aB:=fun {z a b} hz hzn hg ha hb e=>by
    rw[e]
    obtain⟨g1,g2,g3,g4,g5⟩:=Ib hz (n:=(m:Int)) (by rw[hzn])
    refine⟨g1,g2,fun hne=>absurd rfl hne,?_,⟨fun _=>hrd,fun _=>rfl⟩,g3,g4,g5⟩
    show(z.s.aB++z.ends).length≤_
    rw[List.length_append]
    have h1:z.s.aB.length≤s.aB.length+a:=hg.1
    have h2:z.ends.length≤0+b:=hg.2
    omega
   cases hn:dB s.eE t.lU with
   | none =>
    have h1:de k s (((s.dp m ⟨23,0,0,0,0⟩ c).tell 0 0 0 true).fin 0) [] []:=de.fin (de.tell (de.start h hR) ht hw0 rfl) ht hw0 rfl rfl H7
    exact fin (h1.more (Nat.le_succ _)) A2 (cj (fN.trans jE) rfl rfl) (by decide) (by decide) (AW hat hw hn rfl)
   | some i =>
    obtain⟨hI,hIn,hIt⟩:=tE hO hn
    have hpc:=Gm hO hn
    have hpc:t.pc≤256:=hpc
    by_cases hc:cls i.op=1
    ·have S:St k s (s.dp m i c) t:=⟨de.start h hR,ht,hw0,rfl,rfl,hI,rfl⟩
     exact fin ((S.plain hpc).more (Nat.le_succ _)) Gl (cj mJ rfl rfl) (by decide) (by decide) (tF hat hw hn hc rfl)
    ·have ho:=h.th m t ht
     have h1:de k s ((s.dp m i c).aT {t with pc:=t.pc+1 }) [] []:=de.own (de.start h hR) ht (t':={t with pc:=t.pc+1 }) ⟨ho.R.l,ho.R.r,ho.R.i,ho.R.v,ho.R.h⟩ (by have:=ho.pc;show 0≤t.pc+1∧t.pc+1≤257;omega) rfl rfl rfl rfl rfl
     have S:St k s ((s.dp m i c).aT {t with pc:=t.pc+1 }) {t with pc:=t.pc+1 }:=⟨h1,cS ht,hw0,rfl,rfl,hI,rfl⟩
     exact fin (S.call hk hIt) Ic (cj (oS hO.zt.2) rfl rfl) (by decide) (by decide) (xo hat hw hn hc rfl)
/-! a request is done -/
theorem Ie{d:kW}(h:zo d){c:Int}(hd:(d.done c).2.2.1=true):zo (d.done c).2.2.2∧fu (d.done c).2.1∧ ∀ w,cD (d.done c).2.2.2 w+b2 ((d.done c).1.who=w)=cD d w:=by
 by_cases h0:d.wait.length=0
 ·rw[BY h0] at hd;cases hd
 ·have hp:=nA (t:=c) (n:=d.wait.length) (by omega)
  have hx:d.wait[pick c d.wait.length]?=some (d.wait.getD (pick c d.wait.length) BX):=getD_some hp
  have hm:=List.mem_of_getElem? hx
  generalize hr:d.wait.getD (pick c d.wait.length) BX=r at hx hm
  have hrw:=h.w r hm
  have hcn:∀ w,(d.wait.eraseIdx (pick c d.wait.length)).countP (fun r=>decide (r.who=w))+b2 (r.who=w)=d.wait.countP (fun r=>decide (r.who=w)):=fun w=>by
   have:=kl (P:=fun r:vZ=>decide (r.who=w)) hx
   unfold b2;simpa using this
  cases hw:r.write with
  | true =>
   rw[zd h0 hr hw]
   refine⟨⟨by simp only[List.length_set];exact h.l,fun x hx=>?_,fun y hy=>?_⟩,H7,fun w=>hcn w⟩
   ·rcases List.mem_or_eq_of_mem_set hx with hx | rfl
    ·exact h.b x hx
    ·exact hrw.2.2
   ·simp only[List.length_set];exact h.w y (List.mem_of_mem_eraseIdx hy)
  | false =>
   rw[BZ h0 hr hw]
   exact⟨⟨h.l,h.b,fun y hy=>h.w y (List.mem_of_mem_eraseIdx hy)⟩,Eu h.b (by omega),fun w=>hcn w⟩
theorem Ok.Jc(h:Ok k s [] [])(hR:dD s s.aB){c:Int} :
  Ok k (s.done c).2.2 [] []∧(∀ w,dq (s.done c).2.2 w+(if ((s.done c).1.aK=true∨(s.done c).1.ended=true) then 1 else 0)=dq s w+(s.done c).1.aw.count w)∧
  ((s.done c).2.1≠0→(s.done c).2.2=s∧(s.done c).1=mh.z)∧(s.done c).2.2.aB.length≤s.aB.length+1∧(s.done c).1.aK=false∧(s.done c).1.ended=false∧dD (s.done c).2.2 (s.done c).2.2.aB∧s.aB <+: (s.done c).2.2.aB:=by
 cases hd:(s.cu.done c).2.2.1 with
 | false =>
  rw[xw hd]
  exact⟨h,fun w=>by simp[mh.z],fun _=>⟨rfl,rfl⟩,by simp,rfl,rfl,hR,List.prefix_refl _⟩
 | true =>
  obtain⟨g1,g2,g3⟩:=Ie h.dk hd
  have h1:Ok k {s with cu:=(s.cu.done c).2.2.2 } [(s.cu.done c).1.who] []:=h.cu g1 (fun w=>by rw[mP];have:=g3 w;simp;omega)
  have hb:=h1.qe (s.cu.done c).1.who
  obtain⟨u,hu,hu0,hu9⟩:=iU (s:={s with cu:=(s.cu.done c).2.2.2 }) (w:=(s.cu.done c).1.who) (by simp at hb;omega)
  obtain⟨h0,hat⟩:=hG hu
  rw[xx hd hat]
  have h2:=h1.dx hu hu0 hu9 g2
  refine⟨(h2.H2 (p':=[]) (q':=[]) (fun w=>by simp)).aB _,fun w=>?_,fun hne=>absurd rfl hne,by simp[Spc.tell,Spc.dx,Spc.aT],rfl,rfl,?_,List.prefix_append _ _⟩
  rotate_left
  ·have hR1:dD {s with cu:=(s.cu.done c).2.2.2 } s.aB:=hR.of rfl rfl
   exact(hR1.dx h1 hu hu0 hu9 (y:=(s.cu.done c).2.1)).of rfl rfl
  show dq (({s with cu:=(s.cu.done c).2.2.2 }:Spc).dx (s.cu.done c).1.who.toNat (s.cu.done c).2.1) w+(if (false=true∨false=true) then 1 else 0)=dq s w+[(s.cu.done c).1.who].count w
  simp only[Bool.false_eq_true,or_self,if_false,Nat.add_zero]
  rw[nU hu,mP]
  have hs:∀ w,dq {s with cu:=(s.cu.done c).2.2.2 } w=dq s w:=fun w=>rfl
  by_cases e:w=(s.cu.done c).1.who
  ·have:dq s w=0:=by rw[← hs,e];unfold dq;rw[hu,cZ];exact if_neg hu0
   rw[if_pos e,km e.symm];omega
  ·rw[if_neg e,dS (fun h=>e h.symm),hs];rfl
/-! a moment -/
theorem xE(l:List Int)(w:Int):(fK l).count w=l.count w:=by
 have hi:∀ (a:Int) (m:List Int),(cM a m).count w=m.count w+b2 (a=w):=by
  intro a m
  induction m with
  | nil=>rw[show cM a []=[a] from rfl,mP];simp
  | cons b m ih =>
   unfold cM
   split
   ·rw[dW]
   ·rw[dW,ih,dW];omega
 induction l with
 | nil=>rfl
 | cons a l ih=>show(cM a (fK l)).count w=_;rw[hi,ih,dW]
theorem B9(l:List (Int×Int))(n w:Int):(fH l n).countP (fun x=>decide (x.1=w))=if w=n then 0 else l.countP (fun x=>decide (x.1=w)):=by
 unfold fH
 rw[List.countP_filter]
 by_cases e:w=n
 ·rw[if_pos e,List.countP_eq_zero]
  intro x hx
  simp[e]
 ·rw[if_neg e]
  apply List.countP_congr
  intro x hx
  simp only[Bool.and_eq_true,decide_eq_true_eq,Bool.not_eq_true',decide_eq_false_iff_not]
  exact⟨fun h=>h.1,fun h=>⟨h,fun h2=>e (h.symm.trans h2)⟩⟩
theorem rC:∀ (a:List Int) (l:List (Int×Int)) (w:Int),(a.foldl fH l).countP (fun x=>decide (x.1=w))=if w∈a then 0 else l.countP (fun x=>decide (x.1=w))
 | [],_,_=>by simp
 | n::a,l,w=>by
  rw[List.foldl_cons,rC a,B9]
  by_cases h:w∈a
  ·rw[if_pos h,if_pos (List.mem_cons_of_mem _ h)]
  ·rw[if_neg h]
   by_cases e:w=n
   ·rw[if_pos e,if_pos (by rw[e];exact List.mem_cons_self)]
   ·rw[if_neg e,if_neg (by simp[e,h])]
theorem Ig{u:kK}(h:0≤u.now∧u.now≤1099511627776)(hb:∀ w,cL u w≤1):(0≤u.tick.2.now∧u.tick.2.now≤1099511627776)∧ ∀ w,cL u.tick.2 w+u.due.count w=cL u w:=by
 refine⟨by show 0≤min (u.now+1) 1099511627776∧min (u.now+1) 1099511627776≤_;omega,fun w=>?_⟩
 have h1:cL u.tick.2 w=if w∈u.due then 0 else cL u w:=rC u.due u.gx w
 have h2:u.due.count w=(u.gx.filter fun p=>decide (p.2≤min (u.now+1) 1099511627776)).countP (fun x=>decide (x.1=w)):=by
  unfold kK.due;rw[xE];unfold List.count;rw[List.countP_map];congr 1
 have h3:(u.gx.filter fun p=>decide (p.2≤min (u.now+1) 1099511627776)).countP (fun x=>decide (x.1=w))≤cL u w:=List.Sublist.countP_le List.filter_sublist
 rw[h1]
 by_cases hm:w∈u.due
 ·have:=List.count_pos_iff.2 hm
  have:=hb w
  rw[if_pos hm];omega
 ·have:=List.count_eq_zero.2 hm
  rw[if_neg hm];omega
theorem Ok.ct:∀ (l:List Int) (s:Spc),Ok k s l []→dD s s.aB→Ok k (ct s l) [] []∧(∀ w,dq (ct s l) w=dq s w+l.count w)∧dD (ct s l) (ct s l).aB∧s.aB <+: (ct s l).aB
 | [],_,h,hR=>⟨h,fun w=>rfl,hR,List.prefix_refl _⟩
 | n::l,s,h,hR=>by
  have hb:=h.qe n
  rw[dW,km rfl] at hb
  obtain⟨u,hu,hu0,hu9⟩:=iU (s:=s) (w:=n) (by simp at hb;omega)
  have h1:=h.dx hu hu0 hu9 (y:=0) H7
  have h2:Ok k ((s.dx n.toNat 0).tell ((s.t n.toNat).jA 0)) l []:=(h1.H2 (fun w=>by rw[dW,dW];simp)).aB _
  have hR2:dD ((s.dx n.toNat 0).tell ((s.t n.toNat).jA 0)) ((s.dx n.toNat 0).tell ((s.t n.toNat).jA 0)).aB:=by
   show dD ((s.dx n.toNat 0).tell ((s.t n.toNat).jA 0)) (s.aB++[(s.t n.toNat).jA 0])
   rw[dC (hG hu).2]
   exact(hR.dx h hu hu0 hu9 (y:=0)).of rfl rfl
  obtain⟨h3,h4,h6,h7⟩:=Ok.ct l _ h2 hR2
  refine⟨h3,fun w=>(h4 w).trans ?_,h6,List.IsPrefix.trans (List.prefix_append _ _) h7⟩
  have h5:dq ((s.dx n.toNat 0).tell ((s.t n.toNat).jA 0)) w=dq (s.dx n.toNat 0) w:=rfl
  rw[h5,nU hu,dW]
  by_cases e:w=n
  ·have:dq s w=0:=by rw[e];unfold dq;rw[hu,cZ];exact if_neg hu0
   rw[if_pos e,km e.symm];omega
  ·rw[if_neg e,dS (fun h=>e h.symm)];omega
theorem Ok.Jd(h:Ok k s [] [])(hR:dD s s.aB) :
  Ok k s.tick.2 [] []∧(∀ w,dq s.tick.2 w=dq s w+s.tick.1.aw.count w)∧s.tick.2.aB.length≤s.aB.length+16∧s.tick.1.aK=false∧s.tick.1.ended=false∧dD s.tick.2 s.tick.2.aB∧s.aB <+: s.tick.2.aB:=by
 have hbal:∀ w,mj s w=dy s w:=fun w=>by have:=h.qe w;simpa using this
 have bL:∀ w,cL s.aM w≤dy s w:=fun w=>by have:=hbal w;unfold mj at this;omega
 obtain⟨g1,g2⟩:=Ig h.wl (fun w=>Nat.le_trans (bL w) Eh)
 have h1:Ok k {s with aM:=s.aM.tick.2 } s.aM.due []:=h.aM g1 (fun w=>by have:=g2 w;simp;omega)
 obtain⟨h2,h3,h4,h5⟩:=Ok.ct s.aM.due _ h1 (hR.of rfl rfl)
 refine⟨h2,fun w=>(h3 w).trans rfl,?_,rfl,rfl,h4,h5⟩
 show(Go.SLYthncobnjdhjnoaaGreat.ct _ s.aM.due).aB.length≤_
 rw[nS]
 have:=ry s.aM
 have:s.aM.gx.length≤16:=nV (f:=fun r:Int×Int=>r.1) h.lt bL
 show s.aB.length+_≤_
 omega
end
end Go.SLYthncobnjdhjnoaaGreat
namespace Go.SLYthncobnjdhjnoaaGreat
open Go Go.RowKit
theorem rD{α:Type}{f:α→Nat}{n:Nat}{x:α}(h:f x=0):lf f (List.replicate n x)=0:=oT (fun y hy=>by rw[(List.mem_replicate.1 hy).2];exact h)
theorem Ok.new{p:gD}(h:AX p):Ok 1 (Spc.new p) [] []:=by
 have hcap:gn p=true:=by
  have:=h.1;unfold c0 at this
  split at this
  ·assumption
  ·cases this
 have hc:=hcap
 unfold gn at hc
 simp only[Bool.and_eq_true,decide_eq_true_eq,within,List.all_eq_true] at hc
 obtain⟨⟨⟨⟨⟨⟨⟨⟨⟨⟨⟨c1,c2⟩,c3⟩,c4⟩,c5⟩,c6⟩,c7⟩,c8⟩,c9⟩,c10⟩,c11⟩,c12⟩:=hc
 have cl:∀ {n:Int},0≤n→n≤4→ay n 4=n:=fun a b=>by unfold ay;omega
 have h0:Ok 0 ⟨p,List.replicate 16 (false,0),List.replicate 16 none,List.replicate p.words.toNat 0,Gates.new p.bm p.conds p.sems,p.pipes.map Tub.new,kW.new p.blocks,kK.new,[]⟩ [] []:=by
  refine⟨h,by simp,by simp,fun o ho=>?_,fun n hn=>?_,fun n t ht=>?_,⟨by simp,fun x hx=>?_⟩,⟨?_,?_,?_,fun x hx=>?_,fun r hr w hw=>?_⟩,⟨by simp,fun u hu=>?_⟩,⟨?_,fun x hx=>?_,fun r hr=>?_⟩,(by show(0:Int)≤0∧(0:Int)≤1099511627776;decide),fun w=>?_⟩
  ·rw[(List.mem_replicate.1 ho).2];decide
  ·rw[List.getD_eq_getElem?_getD,List.getElem?_replicate,List.getElem?_replicate,if_pos hn,if_pos hn]
   exact⟨fun h=>(by cases h),fun⟨t,h⟩=>(by cases h)⟩
  ·have ht:(List.replicate 16 (none:Option bA))[n]?=some (some t):=ht
   rw[List.getElem?_replicate] at ht
   split at ht <;> cases ht
  ·rw[(List.mem_replicate.1 hx).2];exact H7
  ·show(List.replicate (ay p.bm 4).toNat _).length=_;rw[List.length_replicate,cl (by omega) (by omega)]
  ·show(List.replicate (ay p.conds 4).toNat _).length=_;rw[List.length_replicate,cl (by omega) (by omega)]
  ·show((p.sems.take 4).map _).length=p.sems.length;rw[List.length_map,List.length_take];omega
  ·obtain⟨n,hn,rfl⟩:=List.mem_map.1 (show x∈(p.sems.take 4).map fun n=>(⟨[],ay n 1048576⟩:jR) from hx)
   show 0≤ay n 1048576∧ay n 1048576≤1048576;unfold ay;omega
  ·have hr:r∈List.replicate (ay p.conds 4).toNat ([]:List eu):=hr
   rw[(List.mem_replicate.1 hr).2] at hw;cases hw
  ·obtain⟨n,hn,rfl⟩:=List.mem_map.1 (show u∈p.pipes.map Tub.new from hu)
   exact⟨by show min (max n 1) 8≤8;omega,by show 0≤8;decide,fun x hx=>(by cases hx),fun x hx=>(by cases hx)⟩
  ·show(List.replicate (ay p.blocks 64).toNat _).length≤64;rw[List.length_replicate];unfold ay;omega
  ·have hx:x∈List.replicate (ay p.blocks 64).toNat (0:Int):=hx
   rw[(List.mem_replicate.1 hx).2];exact H7
  ·cases hr
  ·have e1:cG (Gates.new p.bm p.conds p.sems) w=0:=by
    unfold cG Gates.new
    simp only
    rw[rD (f:=fun m:ei=>dn w m.wait) rfl,rD (f:=dn w) rfl,oT (fun x hx=>by
     obtain⟨n,hn,rfl⟩:=List.mem_map.1 hx;rfl)]
   have e2:cT (p.pipes.map Tub.new) w=0:=oT (fun x hx=>by obtain⟨n,hn,rfl⟩:=List.mem_map.1 hx;rfl)
   have e3:cJ (List.replicate 16 none) w=0:=rD rfl
   unfold mj dy
   simp only[e1,e2,e3]
   have e4:∀ (s:Spc),s.aA=List.replicate 16 none→s.at w=none:=fun s hs=>by
    unfold Spc.at aV
    split
    ·rfl
    ·rw[hs,List.getElem?_replicate];split <;> rfl
   rw[e4 _ rfl]
   rfl
 exact Ok.begin h0 (by decide) H7
theorem dD.new{p:gD}:dD (Spc.new p) (Spc.new p).aB:=by
 have e:(Spc.new p).aB=[]:=by unfold Spc.new;rw[iC]
 rw[e]
 refine⟨rz.nil,fun n t ht=>?_,fun r hr=>by cases hr⟩
 have hb:∀ (n:Nat) (t:bA),(Spc.new p).aA[n]?=some (some t)→bT t=0:=fun n t ht=>by
  unfold Spc.new at ht
  rw[eA (n:=0) rfl] at ht
  have ht:((List.replicate 16 (none:Option bA)).set 0 _)[n]?=some (some t):=ht
  by_cases e:0=n
  ·subst e;rw[List.getElem?_set_self (by simp)] at ht;cases ht;rfl
  ·rw[List.getElem?_set_ne e,List.getElem?_replicate] at ht
   split at ht <;> cases ht
 rw[hb n t ht];rfl
end Go.SLYthncobnjdhjnoaaGreat
namespace Go.SLYthncobnjdhjnoaaGreat
open Go Go.RowKit
def jj(k:Nat)(s:Spc):Prop:=Ok k s [] []∧s.aB.length≤400002 * k∧dD s s.aB
theorem jj.rec{k:Nat}{s:Spc}(h:jj k s)(hk:k≤190):s.aB.length≤80000000:=by have:=h.2.1;omega
theorem jj.bI{k:Nat}{s:Spc}(h:jj k s)(hk:k≤190):hD s:=h.1.bI (by omega) (h.rec hk)
theorem jj.run{k:Nat}{s:Spc}(h:jj k s)(hk:k≤190)(n c:Int):jj (k+1) (s.run n c).2.2:=by
 obtain⟨a, -, -,b, -, -,r, -⟩:=h.1.run h.2.2 (n:=n) (c:=c) (by omega) (h.rec hk)
 have:=h.2.1
 exact⟨a,by omega,r⟩
theorem jj.done{k:Nat}{s:Spc}(h:jj k s)(c:Int):jj (k+1) (s.done c).2.2:=by
 obtain⟨a, -, -,b, -, -,r, -⟩:=h.1.Jc h.2.2 (c:=c)
 have:=h.2.1
 exact⟨a.more (Nat.le_succ _),by omega,r⟩
theorem jj.tick{k:Nat}{s:Spc}(h:jj k s):jj (k+1) s.tick.2:=by
 obtain⟨a, -,b, -, -,r, -⟩:=h.1.Jd h.2.2
 have:=h.2.1
 exact⟨a.more (Nat.le_succ _),by omega,r⟩
theorem jj.new{p:gD}(h:AX p):jj 1 (Spc.new p):=⟨Ok.new h,by
 have:(Spc.new p).aB=[]:=by unfold Spc.new;rw[iC]
 rw[this];simp,dD.new⟩
/-! the laws' own fact -/
def Ih:List Ins:=[⟨20,1,0,0,1⟩,⟨21,2,1,0,0⟩,⟨38,2,0,0,0⟩]
def Ii:List Ins:=[⟨1,3,0,0,9⟩,⟨23,3,0,0,0⟩]
def KM:gD:=⟨[Ih,Ii],4,1,1,[0],[1],2,0⟩
def v8(b n:Nat):Value:=.slice (some ⟨b,0,none⟩) n n
def KN(x y z1 z2 z3:Nat):aW:=⟨v8 z1 2,[(v8 x 3,Ih),(v8 y 2,Ii)],4,1,1,v8 z2 1,[0],v8 z3 1,[1],2,0⟩
def K3(x y z1 z2 z3:Nat):aa:=seps [arr z1 0 [v8 x 3,v8 y 2],arr z2 0 [.int .i64 0],arr z3 0 [.int .i64 1],arr x 0 (rows dO Ih),arr y 0 (rows dO Ii)]
def J0:Spc:=Spc.new KM
def J1:Spc:=(J0.run 0 0).2.2
def J2:Spc:=(J1.run 0 0).2.2
def J3:Spc:=(J2.run 1 0).2.2
def KO:Spc:=(J3.run 1 0).2.2
def K4:List Rec:=[⟨65537,20,1,65538,0,true⟩,⟨65537,21,65538,0,0,false⟩,⟨65538,23,9,0,0,true⟩,⟨65537,21,0,9,0,true⟩]
def Kx:bA:=⟨0,2,[0,65538,9,0,0,0,0,0],65537,0,0,false, -1,21, -1⟩
deriving instance DecidableEq for bA
end Go.SLYthncobnjdhjnoaaGreat
namespace Go.SLYthncobnjdhjnoaaGreat
open Go Go.RowKit
structure Ij where
 fT:Int
 slot:Int
 choice:Int
def rE(x:Ij):List Value:=[.int .i64 x.fT,.int .i64 x.slot,.int .i64 x.choice]
def G3(s:Spc)(a:Ij):Spc:=if a.fT=0 then (s.run a.slot a.choice).2.2 else if a.fT=1 then (s.done a.choice).2.2 else s.tick.2
theorem jj.more{k:Nat}{s:Spc}(h:jj k s){k':Nat}(hk:k≤k'):jj k' s:=⟨h.1.more hk,by have:=h.2.1;omega,h.2.2⟩
theorem jj.same{k:Nat}{s:Spc}(h:jj k s)(hk:k≤190){n c:Int}(he:(s.run n c).2.1≠0):(s.run n c).2.2=s∧(s.run n c).1=mh.z:=(h.1.run h.2.2 (by omega) (h.rec hk)).2.2.1 he
theorem jj.lt{k:Nat}{s:Spc}(h:jj k s):s.aA.length=16:=h.1.lt
theorem kH:∀ (l:List (Option bA)) (k:Nat) (w:Int),(readyFrom l k).count w=if w<(k:Int) then 0 else rO ((l[w.toNat-k]?).getD none)
 | [],k,w=>by
  show([]:List Int).count w=_
  rw[List.count_nil];split
  ·rfl
  ·rfl
 | o::l,k,w=>by
  have ih:=kH l (k+1) w
  have key:∀ (n:Nat),(readyFrom l (k+1)).count w+n=(if w<(k:Int) then 0 else rO (((o::l)[w.toNat-k]?).getD none))↔(if w<((k+1:Nat):Int) then 0 else rO ((l[w.toNat-(k+1)]?).getD none))+n=(if w<(k:Int) then 0 else rO (((o::l)[w.toNat-k]?).getD none)):=fun n=>by rw[ih]
  have step:(if w<(k:Int) then 0 else rO (((o::l)[w.toNat-k]?).getD none))=(if w<((k+1:Nat):Int) then 0 else rO ((l[w.toNat-(k+1)]?).getD none))+if w=(k:Int) then rO o else 0:=by
   by_cases h1:w<(k:Int)
   ·rw[if_pos h1,if_pos (by omega),if_neg (by omega)]
   ·by_cases h2:w=(k:Int)
    ·subst h2
     rw[if_neg (by omega),if_pos (by omega),if_pos rfl,show((k:Int)).toNat-k=0 from by omega]
     show rO o=0+rO o
     omega
    ·rw[if_neg h1,if_neg (by omega),if_neg h2,show w.toNat-k=(w.toNat-(k+1))+1 from by omega]
     rfl
  cases o with
  | none =>
   show(readyFrom l (k+1)).count w=_
   rw[ih,step];split <;> simp[rO]
  | some t =>
   unfold readyFrom
   by_cases ht:t.cE=0
   ·rw[if_pos ht,dW,ih,step,cZ,if_pos ht]
    by_cases h2:w=(k:Int)
    ·rw[if_pos h2,km h2.symm]
    ·rw[if_neg h2,dS (fun h=>h2 h.symm)]
   ·rw[if_neg ht,ih,step,cZ,if_neg ht];split <;> simp
theorem fC:∀ (l:List (Option bA)) (k:Nat),(readyFrom l k).length≤l.length
 | [],_=>Nat.le_refl _
 | none::l,k=>Nat.le_trans (fC l (k+1)) (Nat.le_succ _)
 | some t::l,k=>by
  have:=fC l (k+1)
  unfold readyFrom;split <;> simp only[List.length_cons] <;> omega
theorem Ca{s:Spc}(h:s.aA.length=16):s.ready.length≤1000000000:=Nat.le_trans (fC _ _) (by rw[h];decide)
theorem ln(s:Spc)(w:Int):s.ready.count w=dq s w:=by
 unfold Spc.ready
 rw[kH]
 unfold dq Spc.at aV
 by_cases h:w<0
 ·rw[if_pos (by omega),if_pos h];rfl
 ·rw[if_neg (by omega),if_neg h,Nat.sub_zero]
theorem mem_ready{s:Spc}{w:Int}:w∈s.ready↔dq s w=1:=by
 rw[← List.count_pos_iff,ln]
 have:dq s w≤1:=by
  unfold dq rO
  split
  ·omega
  ·split <;> omega
 omega
theorem tI{s:Spc}{w:Int}:w ∉ s.ready↔dq s w=0:=by
 have h:=mem_ready (s:=s) (w:=w)
 have:dq s w≤1:=by
  unfold dq rO
  split
  ·omega
  ·split <;> omega
 by_cases hm:w∈s.ready
 ·have:=h.1 hm;exact⟨fun h2=>absurd hm h2,fun h2=>by omega⟩
 ·have:¬dq s w=1:=fun h2=>hm (h.2 h2)
  exact⟨fun _=>by omega,fun _=>hm⟩
theorem vu{a b:List Int}(h:∀ w,a.count w=b.count w):a.length=b.length:=(List.perm_iff_count.2 h).length_eq
structure Je(s s':Spc)(e:mh)(n:Int):Prop where
 a:∀ w∈e.aw,w ∉ s.ready∧w∈s'.ready
 g:(e.aK || e.ended)=true→n ∉ s'.ready
 l:s'.ready.length+(if (e.aK || e.ended)=true then 1 else 0)=s.ready.length+e.aw.length
theorem Gn{s s':Spc}{e:mh}{n:Int}(hr:∀ w,dq s' w+(if (e.aK=true∨e.ended=true)∧w=n then 1 else 0)=dq s w+e.aw.count w)(hw:∀ w∈e.aw,dq s w=0)(hn:(e.aK=true∨e.ended=true)→dq s n=1):Je s s' e n:=by
 have le1:∀ (s:Spc) w,dq s w≤1:=fun s w=>by
  unfold dq rO
  split
  ·omega
  ·split <;> omega
 refine⟨fun w h=>⟨tI.2 (hw w h),mem_ready.2 ?_⟩,fun h=>tI.2 ?_,?_⟩
 ·have h1:=hr w
  have h2:=List.count_pos_iff.2 h
  have h3:=hw w h
  have h4:=le1 s' w
  by_cases hb:(e.aK=true∨e.ended=true)∧w=n
  ·have:=hn hb.1;rw[← hb.2] at this;omega
  ·rw[if_neg hb] at h1;omega
 ·have hb:e.aK=true∨e.ended=true:=by simpa using h
  have h1:=hr n
  rw[if_pos ⟨hb,rfl⟩,hn hb] at h1
  by_cases hm:n∈e.aw
  ·have:=hw n hm;have:=hn hb;omega
  ·rw[List.count_eq_zero.2 hm] at h1;omega
 ·have key:=vu (a:=s'.ready++(if (e.aK || e.ended)=true then [n] else [])) (b:=s.ready++e.aw) (fun w=>by
   rw[List.count_append,List.count_append,ln,ln, ← hr w]
   congr 1
   by_cases hb:(e.aK || e.ended)=true
   ·rw[if_pos hb,mP]
    have hb2:e.aK=true∨e.ended=true:=by simpa using hb
    by_cases hwn:w=n
    ·rw[km hwn.symm,if_pos ⟨hb2,hwn⟩]
    ·rw[dS (fun h=>hwn h.symm),if_neg (fun h=>hwn h.2)]
   ·rw[if_neg hb,if_neg (fun h=>hb (by simpa using h.1))];rfl)
  rw[List.length_append,List.length_append] at key
  rw[← key]
  congr 1
  split <;> rfl
theorem jj.fL{k:Nat}{s:Spc}(h:jj k s)(hk:k≤190)(n c:Int):Je s (s.run n c).2.2 (s.run n c).1 n:=by
 obtain⟨-,h2,h3, -,h5,h6, -, -⟩:=h.1.run h.2.2 (n:=n) (c:=c) (by omega) (h.rec hk)
 refine Gn h2 h6 (fun hb=>?_)
 by_cases he:(s.run n c).2.1=0
 ·exact h5.1 he
 ·rw[(h3 he).2] at hb;rcases hb with hb | hb <;> cases hb
end Go.SLYthncobnjdhjnoaaGreat
namespace Go.SLYthncobnjdhjnoaaGreat
open Go Go.RowKit Go.ChangeAt Go.ChangeShapes Go.Deep
section
variable{H:Type}{enc:TypeId×Value→H}{P:Program}{W:World}{bulk:DataW H→Nat}
structure vx(bulk:DataW H→Nat):Prop where
 one:∀ d,1≤bulk d
 slice:∀ es sp,(es.map bulk).sum+1≤bulk (.slice es sp)
 agg:∀ ds,(ds.map bulk).sum≤bulk (.agg ds)
def eY(enc:TypeId×Value→H)(P:Program)(W:World)(bulk:DataW H→Nat)(t:TypeId){α:Type}(ea:α→List Value)(good:α→Nat→Prop):Prop :=
 ∀ fuel cs x,DataW.trod enc P W 0 (fun _=>true) true fuel t cs=some x→ ∃ a,cs=ea a∧good a (bulk x.1)
theorem eY.int{t:TypeId}{k:IntKind}(ht:P.underlying t=some (.int k)):eY enc P W bulk t (fun n:Int=>[.int k n]) (fun n _=>(Lit.int k n).wf=true):=fun fuel cs x h=>by
 obtain⟨n,rfl,_,hw⟩:=DataW.trod_int ht h
 exact⟨n,rfl,hw⟩
theorem eY.bool{t:TypeId}(ht:P.underlying t=some .bool):eY enc P W bulk t (fun b:Bool=>[.bool b]) (fun _ _=>True):=fun fuel cs x h=>by
 obtain⟨n,rfl,_⟩:=DataW.trod_bool ht h
 exact⟨n,rfl,trivial⟩
theorem A4{l:List (DataW H)}{d:DataW H}(h:d∈l):bulk d≤(l.map bulk).sum:=by
 induction l with
 | nil=>cases h
 | cons x r ih =>
  simp only[List.map_cons,List.sum_cons]
  cases List.mem_cons.1 h with
  | inl e=>subst e;omega
  | inr e=>have:=ih e;omega
theorem Gp(hb:vx bulk)(l:List (DataW H)):l.length≤(l.map bulk).sum:=by
 induction l with
 | nil=>simp
 | cons x r ih=>have:=hb.one x;simp only[List.map_cons,List.sum_cons,List.length_cons];omega
theorem eY.slice(hb:vx bulk){t e:TypeId}{k:Nat}{α:Type}{ea:α→List Value}{good:α→Nat→Prop}(ht:P.underlying t=some (.slice e))(hc:P.cellsOf e=k)(hk0:0<k)(hk:∀ a,(ea a).length=k)(he:eY enc P W bulk e ea good)
  (mono:∀ a m n,m≤n→good a m→good a n) :
  eY enc P W bulk t (fun p:Value×List α=>[p.1]) (fun p n=>gJ W ea k p.1 p.2∧p.2.length+1≤n∧ ∀ a∈p.2,good a n):=fun fuel cs x h=>by
 rcases open_slice ht h with ⟨rfl,rfl⟩ | ⟨a,len,cap,m,n,D,Pl,rfl,hb0,hl,hm,hmm,rfl,hx⟩
 ·refine⟨(.slice none 0 0,[]),rfl,⟨⟨none,0,rfl,Nat.le_refl _,fun _ e _=>by(cases e),fun _=>rfl⟩,fun x hx=>(by cases hx),fun i x hx=>by simp at hx⟩,?_,fun a ha=>by cases ha⟩
  exact hb.one _
 ·simp only[if_true] at hmm
  have hmm':=hmm.symm
  subst hmm'
  have each:∀ i,i<len→ ∃ q:Option α, ∃ y,q=some y∧W.cells? 0 (a.add (i * k)) k=some (ea y)∧good y (bulk (D i)):=fun i hi=>by
   obtain⟨cs',h1,h2⟩:=hx i (Nat.lt_of_lt_of_le hi hl)
   obtain⟨y,rfl,hg⟩:=he _ _ _ h2
   rw[hc] at h1
   exact⟨some y,y,rfl,h1,hg⟩
  obtain⟨f,hf⟩:=choose_lt each
  obtain⟨xs,hxs,hxl⟩:∃ xs:List α,(∀ i y,xs[i]?=some y→i<len∧f i=some y)∧xs.length=len:=by
   clear h hx each
   induction len with
   | zero=>exact⟨[],fun i y h=>by simp at h,rfl⟩
   | succ len ih =>
    obtain⟨xs,h1,h2⟩:=ih (by omega) (fun i hi=>hf i (by omega))
    obtain⟨y,hy,_⟩:=hf len (by omega)
    refine⟨xs++[y],fun i z hz=>?_,by simp[h2]⟩
    by_cases hi:i<xs.length
    ·rw[List.getElem?_append_left hi] at hz
     have:=h1 i z hz
     exact⟨by omega,this.2⟩
    ·rw[List.getElem?_append_right (by omega)] at hz
     have hi0:=(List.getElem?_eq_some_iff.1 hz).1
     simp at hi0
     obtain rfl:i=len:=by omega
     simp[h2] at hz
     subst hz
     exact⟨by omega,hy⟩
  have spot:xs≠[]→a.spot=none:=fun hne=>by
   have h0:0<len:=by rw[← hxl];exact List.length_pos_iff.2 hne
   obtain⟨y,_,hcs,_⟩:=hf 0 h0
   obtain⟨_,hlen,hcell⟩:=World.cells?_some hcs
   have h1:=hcell 0 hk0
   rw[List.getElem?_eq_getElem (by rw[hk];exact hk0)] at h1
   have:=World.cell?_spot h1
   simpa [Addr.add] using this
  have hlenb:len+1≤bulk (.slice ((List.range len).map D) ((List.range (cap-len)).map fun j=>D (len+j))):=by
   have h1:=hb.slice ((List.range len).map D) ((List.range (cap-len)).map fun j=>D (len+j))
   have h2:=Gp hb ((List.range len).map D)
   simp only[List.length_map,List.length_range] at h2
   omega
  refine⟨(.slice (some a) len cap,xs),rfl,⟨⟨some a,cap,by rw[hxl],(by rw[hxl];exact hl),fun b e hne=>by cases e;exact spot hne,fun e=>by cases e⟩,fun x _=>hk x,fun i x hi c u hu=>?_⟩,by rw[hxl];exact hlenb,fun y hy=>?_⟩
  ·obtain⟨hil,hfi⟩:=hxs i x hi
   obtain⟨y,hy,hcs,_⟩:=hf i hil
   rw[hfi] at hy
   cases hy
   obtain⟨_,hlen,hcell⟩:=World.cells?_some hcs
   have hck:=(List.getElem?_eq_some_iff.1 hu).1
   rw[hk] at hck
   have h1:=hcell c hck
   rw[hu] at h1
   have hs:=spot (by intro e;subst e;simp at hi)
   obtain⟨b,o,s⟩:=a
   simp only at hs
   subst hs
   rw[df,df] at h1
   exact h1
  ·obtain⟨i,hi⟩:=List.mem_iff_getElem?.1 hy
   obtain⟨hil,hfi⟩:=hxs i y hi
   obtain⟨z,hz,_,hg⟩:=hf i hil
   rw[hfi] at hz
   cases hz
   refine mono y _ _ ?_ hg
   have h1:=hb.slice ((List.range len).map D) ((List.range (cap-len)).map fun j=>D (len+j))
   have h2:bulk (D i)≤(((List.range len).map D).map bulk).sum:=A4 (List.mem_map.2 ⟨i,List.mem_range.2 hil,rfl⟩)
   exact Nat.le_trans h2 (Nat.le_trans (Nat.le_succ _) h1)
theorem iV(hb:vx bulk){t:TypeId}{fs:Array Field}{fuel:Nat}{cs:List Value}{x:DataW H×List MemPlace}(ht:P.underlying t=some (.struct fs))(hc:P.cellsOf t=fs.size)(ho:∀ (i:Nat) (f:Field),fs[i]?=some f→f.offset=i∧P.cellsOf f.type=1)
  (h:DataW.trod enc P W 0 (fun _=>true) true fuel t cs=some x) :
  cs.length=fs.size∧ ∀ (i:Nat) (f:Field),fs[i]?=some f→ ∃ v fuel y,cs[i]?=some v∧DataW.trod enc P W 0 (fun _=>true) true fuel f.type [v]=some y∧bulk y.1≤bulk x.1:=by
 obtain⟨xs,n,rfl,rfl,hl,hxl,hf⟩:=DataW.trod_struct ht h
 refine⟨hl.trans hc,fun i f hi=>?_⟩
 have hlt:=(Array.getElem?_eq_some_iff.1 hi).1
 have h1:=hf i f hi
 obtain⟨ho1,ho2⟩:=ho i f hi
 have hil:i<cs.length:=by omega
 rw[ho1,ho2,List.drop_eq_getElem_cons hil,List.take_succ_cons,List.take_zero,List.getElem?_eq_getElem (by omega)] at h1
 refine⟨cs[i],n,_,List.getElem?_eq_getElem hil,h1,?_⟩
 have h2:=hb.agg (xs.map (·.1))
 have h3:bulk (xs[i]'(by omega)).1≤((xs.map (·.1)).map bulk).sum:=A4 (List.mem_map.2 ⟨_,List.getElem_mem _,rfl⟩)
 exact Nat.le_trans h3 h2
/-! ### A law's end -/
theorem tJ(hl:laidOutB P=true){W W':World}(hb:Below W.heap.size W W'){sp:Nat→Bool} :
  ∀ {ts:List TypeId} {vs:List Value} {ds:List (DataW H)} {p:List MemPlace},ts.all (fun t=>P.readableRec t && decide (t<P.types.size))=true→DataW.TrodAll enc P W 0 (fun _=>true) true ts vs ds p→(∀ x∈p,x.block<W.heap.size)→(∀ x∈p,sp x.block=true)→
   DataW.TrodAll enc P W' 0 sp true ts vs ds p
 | [],[],[],_,_,h,_,_=>h
 | [],[],_::_,_,_,h,_,_=>h.elim
 | [],_::_,_,_,_,h,_,_=>h.elim
 | _::_,[],_,_,_,h,_,_=>h.elim
 | _::_,_::_,[],_,_,h,_,_=>h.elim
 | t::ts,v::vs,d::ds,ps,hr,h,hlt,hsp=>by
  obtain⟨p,q,h1,h2,rfl⟩:=h
  simp only[List.all_cons,Bool.and_eq_true,decide_eq_true_eq] at hr
  refine⟨p,q,WideElems.Trod_stays hl hr.1.1 hr.1.2 h1 (fun x hx=>hb.same (hlt x (by simp[hx]))) (fun x hx=>hsp x (by simp[hx])),?_,rfl⟩
  exact tJ hl hb (by simpa using hr.2) h2 (fun x hx=>hlt x (by simp[hx])) (fun x hx=>hsp x (by simp[hx]))
theorem lq{f:Func}{s:ChangeSpec}{apart fresh handsOn again:Bool}{W W':World}{args:Array Value}{ds gs:List (DataW H)}{before:List MemPlace}{tb:TypeId}
  (hl:laidOutB P=true) (hrd:f.params.toList.all (fun t=>P.readableRec t && decide (t<P.types.size))=true) (hv:s.vars=[]) (hr:f.resultTypes = #[tb]) (htb:P.underlying tb=some .bool)
  (hW:DataW.Whole enc P f.params.toList s.vars apart W args.toList ds gs before) (h1:(s.fn H ds).results=[.lit (.bool true)]) (h2:(s.fn H ds).args=ds) (h3:(s.fn H ds).vars=[])
  (hb:Below W.heap.size W W'):s.post enc P f apart fresh handsOn again W args (.bool true) W':=by
 have hlt:=fun p hp=>hW.lt p hp
 have hW':=hW
 obtain⟨p,q,hA,hV,rfl,hz,hn⟩:=hW'
 rw[hv] at hV
 obtain⟨rfl,rfl⟩:=trodVars_none hV
 have hres:∀ (b:Nat) (sp:Nat→Bool) (hd:Bool),DataW.TrodAll enc P W' b sp hd f.resultTypes.toList ((Value.bool true).resultList f.resultTypes.size) (s.fn H (ds++[])).results []:=fun b sp hd=>by
  rw[List.append_nil,h1,hr]
  exact trodAll_cons_mk (shut_bool htb _) trodAll_mk0
 have hargs:∀ sp:Nat→Bool,(∀ x∈p++[],sp x.block=true)→DataW.TrodAll enc P W' 0 sp true f.params.toList args.toList (s.fn H (ds++[])).args p:=fun sp hsp=>by
  rw[List.append_nil,h2]
  exact tJ hl hb hrd hA (fun x hx=>hlt x (by simp[hx])) (fun x hx=>hsp x (by simp[hx]))
 have hvars:∀ sp:Nat→Bool,DataW.TrodVars enc P W' sp s.vars (s.fn H (ds++[])).vars []:=fun sp=>by
  rw[List.append_nil,h3,hv];rfl
 have hold:∀ x∈p++[],(fun b=>decide (b<W.heap.size)) x.block=true:=fun x hx=>by simpa using hlt x hx
 refine⟨ds,[],p++[],[],p,[],hW,hres _ _ _,hargs _ hold,hvars _,World.keptBut_mono (fun x hx=>⟨hx,?_⟩) (hb.frame _),fun _=>?_⟩
 ·simp only[List.append_nil] at hx
  exact Or.inr (by simpa using hx)
 ·refine⟨ok_one hr rfl (okWide_bool_mk htb _),_,_,([]++p)++[],⟨[]++p,[],trodAll_append (hargs _ (fun _ _=>rfl)) (hres _ _ _),hvars _,rfl,?_,?_⟩,?_⟩
  ·intro b off hp
   have hp':MemPlace.cell b off∈p:=by simpa using hp
   have:=hz b off (by simp[hp'])
   rw[← this]
   exact hb.frozen (p:=⟨b,off,none⟩) (hlt (.cell b off) (by simp[hp']))
  ·intro ha
   simpa using hn ha
  ·intro x hx _
   simpa using hx
theorem Fn.done{f:FuncId}{args:List Value}{X:Type}{v:Value}(h:Fn P W f args [] X (fun _=>v) (fun _=>True) (fun _=>[])):Calls P f args.toArray W fun e w'=>e = .returned v∧Below W.heap.size W w' :=
 (h SLYthncobnjdhjnoaaGreat.emp W (by simpa only[seps,aH] using Sat.empty)).mono fun e w' ⟨x,he,_,hs⟩=>⟨he,hs.Hp⟩
end
end Go.SLYthncobnjdhjnoaaGreat
namespace Go.Proofs.YthncobnjdhjnoaaGreat
open Go Go.RowKit Go.ChangeShapes Go.WideShapes Go.ChangeAt Go.SLYthncobnjdhjnoaaGreat
/-! the bulk of what is read -/
theorem bulkAll_eq{H:Type}:∀ l:List (DataW H),Rows.uptoBulkAll l=(l.map Rows.uptoBulk).sum
 | []=>by simp[Rows.uptoBulkAll]
 | d::r=>by simp[Rows.uptoBulkAll,bulkAll_eq r]
theorem bulkOk{H:Type}:vx (Rows.uptoBulk (H:=H)) where
 one:=fun d=>by
  cases d with
  | lit l=>cases l <;> simp[Rows.uptoBulk]
  | nil=>simp[Rows.uptoBulk]
  | ptr d=>simp[Rows.uptoBulk]
  | slice elems spare=>simp[Rows.uptoBulk]
  | agg parts=>simp[Rows.uptoBulk]
  | iface t d=>simp[Rows.uptoBulk]
  | map entries=>simp[Rows.uptoBulk]
  | held h=>simp[Rows.uptoBulk]
 slice:=fun es sp=>by rw[← bulkAll_eq];simp only[Rows.uptoBulk];omega
 agg:=fun ds=>by rw[← bulkAll_eq];simp only[Rows.uptoBulk];omega
theorem bound{H:Type}{l:List (DataW H)}(hk:Rows.uptoSmall H l=true):(l.map Rows.uptoBulk).sum≤1048576:=by
 rw[← bulkAll_eq];simpa [Rows.uptoSmall] using hk
structure PrgAt(W:World)(v:aW)(n:Nat):Prop where
 fs:gJ W dP 1 v.fv v.fs
 ins:∀ x∈v.fs,gJ W dO 5 x.1 x.2
 sems:gJ W ar 1 v.sv v.sems
 pipes:gJ W ar 1 v.pv v.pipes
 fl:v.fs.length≤n
 sl:v.sems.length≤n
 pl:v.pipes.length≤n
 wo:∀ f∈v.p.funcs, ∀ i∈f,fu i.n
theorem PrgAt.rd{W:World}{v:aW}{n:Nat}(h:PrgAt W v n)(H:List aa):ez W H v:=⟨.old h.fs,fun x hx=>.old (h.ins x hx),.old h.sems,.old h.pipes⟩
section
variable{H:Type}{enc:TypeId×Value→H}{W:World}
theorem opensIns:eY enc Tryz.prog W Rows.uptoBulk 88 dO (fun i _=>fu i.n):=fun fuel cs x h=>by
 obtain⟨hl,hf⟩:=iV bulkOk Tryz.underlying88 (by kernel_rfl) (by
  intro i f hi
  match i,hi with
  | 0,hi=>cases hi;exact⟨rfl,by kernel_rfl⟩
  | 1,hi=>cases hi;exact⟨rfl,by kernel_rfl⟩
  | 2,hi=>cases hi;exact⟨rfl,by kernel_rfl⟩
  | 3,hi=>cases hi;exact⟨rfl,by kernel_rfl⟩
  | 4,hi=>cases hi;exact⟨rfl,by kernel_rfl⟩
  | n+5,hi=>simp at hi) h
 obtain⟨v0,n0,y0,e0,t0,_⟩:=hf 0 _ rfl
 obtain⟨v1,n1,y1,e1,t1,_⟩:=hf 1 _ rfl
 obtain⟨v2,n2,y2,e2,t2,_⟩:=hf 2 _ rfl
 obtain⟨v3,n3,y3,e3,t3,_⟩:=hf 3 _ rfl
 obtain⟨v4,n4,y4,e4,t4,_⟩:=hf 4 _ rfl
 obtain⟨a0,r0,_,_⟩:=DataW.trod_int Tryz.underlying3 t0
 obtain⟨a1,r1,_,_⟩:=DataW.trod_int Tryz.underlying3 t1
 obtain⟨a2,r2,_,_⟩:=DataW.trod_int Tryz.underlying3 t2
 obtain⟨a3,r3,_,_⟩:=DataW.trod_int Tryz.underlying3 t3
 obtain⟨a4,r4,_,w4⟩:=DataW.trod_int Tryz.underlying86 t4
 cases r0;cases r1;cases r2;cases r3;cases r4
 refine⟨⟨a0,a1,a2,a3,a4⟩,?_,bounds_u64 w4⟩
 match cs,hl with
 | [w0,w1,w2,w3,w4],_ =>
  simp at e0 e1 e2 e3 e4
  subst e0 e1 e2 e3 e4
  rfl
theorem opensCode:eY enc Tryz.prog W Rows.uptoBulk 89 (dP (α:=List Ins)) (fun p n=>gJ W dO 5 p.1 p.2∧p.2.length+1≤n∧ ∀ a∈p.2,fu a.n) :=
 eY.slice bulkOk Tryz.underlying89 (by kernel_rfl) (by decide) (fun _=>rfl) opensIns (fun _ _ _ _ h=>h)
theorem opensFuncs:eY enc Tryz.prog W Rows.uptoBulk 58 (fun p:Value×List (Value×List Ins)=>[p.1]) (fun p n=>gJ W dP 1 p.1 p.2∧p.2.length+1≤n∧ ∀ a∈p.2,gJ W dO 5 a.1 a.2∧a.2.length+1≤n∧ ∀ b∈a.2,fu b.n) :=
 eY.slice bulkOk Tryz.underlying58 (by kernel_rfl) (by decide) (fun _=>rfl) opensCode (fun _ _ _ hm h=>⟨h.1,Nat.le_trans h.2.1 hm,h.2.2⟩)
theorem opensInts:eY enc Tryz.prog W Rows.uptoBulk 33 (fun p:Value×List Int=>[p.1]) (fun p n=>gJ W ar 1 p.1 p.2∧p.2.length+1≤n∧ ∀ a∈p.2,True) :=
 eY.slice bulkOk Tryz.underlying33 (by kernel_rfl) (by decide) (fun _=>rfl) (fun fuel cs x h=>by
  obtain⟨n,rfl,_,_⟩:=DataW.trod_int Tryz.underlying3 h
  exact⟨n,rfl,trivial⟩) (fun _ _ _ _ _=>trivial)
theorem opensPrg:eY enc Tryz.prog W Rows.uptoBulk 60 fe (fun v n=>PrgAt W v n):=fun fuel cs x h=>by
 obtain⟨hl,hf⟩:=iV bulkOk Tryz.underlying60 (by kernel_rfl) (by
  intro i f hi
  match i,hi with
  | 0,hi=>cases hi;exact⟨rfl,by kernel_rfl⟩
  | 1,hi=>cases hi;exact⟨rfl,by kernel_rfl⟩
  | 2,hi=>cases hi;exact⟨rfl,by kernel_rfl⟩
  | 3,hi=>cases hi;exact⟨rfl,by kernel_rfl⟩
  | 4,hi=>cases hi;exact⟨rfl,by kernel_rfl⟩
  | 5,hi=>cases hi;exact⟨rfl,by kernel_rfl⟩
  | 6,hi=>cases hi;exact⟨rfl,by kernel_rfl⟩
  | 7,hi=>cases hi;exact⟨rfl,by kernel_rfl⟩
  | n+8,hi=>simp at hi) h
 obtain⟨v0,n0,y0,e0,t0,b0⟩:=hf 0 _ rfl
 obtain⟨v1,n1,y1,e1,t1,_⟩:=hf 1 _ rfl
 obtain⟨v2,n2,y2,e2,t2,_⟩:=hf 2 _ rfl
 obtain⟨v3,n3,y3,e3,t3,_⟩:=hf 3 _ rfl
 obtain⟨v4,n4,y4,e4,t4,b4⟩:=hf 4 _ rfl
 obtain⟨v5,n5,y5,e5,t5,b5⟩:=hf 5 _ rfl
 obtain⟨v6,n6,y6,e6,t6,_⟩:=hf 6 _ rfl
 obtain⟨v7,n7,y7,e7,t7,_⟩:=hf 7 _ rfl
 obtain⟨⟨fv,fs⟩,r0,f1,f2,f3⟩:=opensFuncs _ _ _ t0
 obtain⟨a1,r1,_,_⟩:=DataW.trod_int Tryz.underlying3 t1
 obtain⟨a2,r2,_,_⟩:=DataW.trod_int Tryz.underlying3 t2
 obtain⟨a3,r3,_,_⟩:=DataW.trod_int Tryz.underlying3 t3
 obtain⟨⟨sv,sems⟩,r4,s1,s2,_⟩:=opensInts _ _ _ t4
 obtain⟨⟨pv,pipes⟩,r5,p1,p2,_⟩:=opensInts _ _ _ t5
 obtain⟨a6,r6,_,_⟩:=DataW.trod_int Tryz.underlying3 t6
 obtain⟨a7,r7,_,_⟩:=DataW.trod_int Tryz.underlying3 t7
 cases r0;cases r1;cases r2;cases r3;cases r4;cases r5;cases r6;cases r7
 refine⟨⟨fv,fs,a1,a2,a3,sv,sems,pv,pipes,a6,a7⟩,?_,⟨f1,fun x hx=>(f3 x hx).1,s1,p1,?_,?_,?_,?_⟩⟩
 ·match cs,hl with
  | [w0,w1,w2,w3,w4,w5,w6,w7],_ =>
   simp at e0 e1 e2 e3 e4 e5 e6 e7
   subst e0 e1 e2 e3 e4 e5 e6 e7
   rfl
 ·exact Nat.le_trans (Nat.le_of_succ_le f2) b0
 ·exact Nat.le_trans (Nat.le_of_succ_le s2) b4
 ·exact Nat.le_trans (Nat.le_of_succ_le p2) b5
 ·intro f hf i hi
  obtain⟨q,hq,rfl⟩:=List.mem_map.1 hf
  exact(f3 q hq).2.2 i hi
theorem opensPrgs:eY enc Tryz.prog W Rows.uptoBulk 22 (fun p:Value×List aW=>[p.1]) (fun p n=>gJ W fe 8 p.1 p.2∧p.2.length+1≤n∧ ∀ a∈p.2,PrgAt W a n) :=
 eY.slice bulkOk Tryz.underlying22 (by kernel_rfl) (by decide) (fun _=>rfl) opensPrg (fun _ _ _ hm h=>⟨h.fs,h.ins,h.sems,h.pipes,Nat.le_trans h.fl hm,Nat.le_trans h.sl hm,Nat.le_trans h.pl hm,h.wo⟩)
theorem opensWha17:eY enc Tryz.prog W Rows.uptoBulk 30 rE (fun _ _=>True):=fun fuel cs x h=>by
 obtain⟨hl,hf⟩:=iV bulkOk Tryz.underlying30 (by kernel_rfl) (by
  intro i f hi
  match i,hi with
  | 0,hi=>cases hi;exact⟨rfl,by kernel_rfl⟩
  | 1,hi=>cases hi;exact⟨rfl,by kernel_rfl⟩
  | 2,hi=>cases hi;exact⟨rfl,by kernel_rfl⟩
  | n+3,hi=>simp at hi) h
 obtain⟨v0,n0,y0,e0,t0,_⟩:=hf 0 _ rfl
 obtain⟨v1,n1,y1,e1,t1,_⟩:=hf 1 _ rfl
 obtain⟨v2,n2,y2,e2,t2,_⟩:=hf 2 _ rfl
 obtain⟨a0,r0,_,_⟩:=DataW.trod_int Tryz.underlying3 t0
 obtain⟨a1,r1,_,_⟩:=DataW.trod_int Tryz.underlying3 t1
 obtain⟨a2,r2,_,_⟩:=DataW.trod_int Tryz.underlying3 t2
 cases r0;cases r1;cases r2
 refine⟨⟨a0,a1,a2⟩,?_,trivial⟩
 match cs,hl with
 | [w0,w1,w2],_ =>
  simp at e0 e1 e2
  subst e0 e1 e2
  rfl
theorem opensWhas17:eY enc Tryz.prog W Rows.uptoBulk 23 (fun p:Value×List Ij=>[p.1]) (fun p n=>gJ W rE 3 p.1 p.2∧p.2.length+1≤n∧ ∀ a∈p.2,True) :=
 eY.slice bulkOk Tryz.underlying23 (by kernel_rfl) (by decide) (fun _=>rfl) opensWha17 (fun _ _ _ _ _=>trivial)
theorem opensWha18:eY enc Tryz.prog W Rows.uptoBulk 52 rE (fun _ _=>True):=fun fuel cs x h=>by
 obtain⟨hl,hf⟩:=iV bulkOk Tryz.underlying52 (by kernel_rfl) (by
  intro i f hi
  match i,hi with
  | 0,hi=>cases hi;exact⟨rfl,by kernel_rfl⟩
  | 1,hi=>cases hi;exact⟨rfl,by kernel_rfl⟩
  | 2,hi=>cases hi;exact⟨rfl,by kernel_rfl⟩
  | n+3,hi=>simp at hi) h
 obtain⟨v0,n0,y0,e0,t0,_⟩:=hf 0 _ rfl
 obtain⟨v1,n1,y1,e1,t1,_⟩:=hf 1 _ rfl
 obtain⟨v2,n2,y2,e2,t2,_⟩:=hf 2 _ rfl
 obtain⟨a0,r0,_,_⟩:=DataW.trod_int Tryz.underlying3 t0
 obtain⟨a1,r1,_,_⟩:=DataW.trod_int Tryz.underlying3 t1
 obtain⟨a2,r2,_,_⟩:=DataW.trod_int Tryz.underlying3 t2
 cases r0;cases r1;cases r2
 refine⟨⟨a0,a1,a2⟩,?_,trivial⟩
 match cs,hl with
 | [w0,w1,w2],_ =>
  simp at e0 e1 e2
  subst e0 e1 e2
  rfl
theorem opensWhas18:eY enc Tryz.prog W Rows.uptoBulk 50 (fun p:Value×List Ij=>[p.1]) (fun p n=>gJ W rE 3 p.1 p.2∧p.2.length+1≤n∧ ∀ a∈p.2,True) :=
 eY.slice bulkOk Tryz.underlying50 (by kernel_rfl) (by decide) (fun _=>rfl) opensWha18 (fun _ _ _ _ _=>trivial)
end
theorem own:ownKnob Tryz.prog.godebug=none:=by kernel_rfl
theorem laid:laidOutB Tryz.prog=true:=by kernel_rfl
end Go.Proofs.YthncobnjdhjnoaaGreat
namespace Go.SLYthncobnjdhjnoaaGreat
open Go Go.RowKit
class jF(P:Program)(t:TypeId)(u:outParam TypeDesc):Prop where
 ok:P.underlying t=some u
class hY(P:Program)(t:TypeId)(k:outParam Nat):Prop where
 ok:∀ w,(sizeOf t).run P w = .ok k w
class One(P:Program)(t:TypeId):Prop where
 ok:∀ w,(isAgg t).run P w = .ok false w
class kn(P:Program)(t:TypeId):Prop where
 ok:∀ w,(isAgg t).run P w = .ok true w
class cV(P:Program)(S:TypeId)(f:Nat)(k:outParam Nat):Prop where
 ok:∀ (b o:Nat) (w:World),(Instr.fieldAt S (.pointer (some ⟨b,o,none⟩)) f).run P w = .ok (.pointer (some ⟨b,o+k,none⟩)) w
section
variable{P:Program}{W:World}{N:Nat}{Q:Exit→Act→World→Prop}{L:List (Nat×Option Value)}{H:List aa}{O:Array Oper}{T:TypeId}{K:List aa}{ks:List Nat}
theorem Y.o{S:TypeId}{f k:Nat}[h:cV P S f k]{x:Operand}{b o:Nat}(hx:ev L x=some (.pointer (some ⟨b,o,none⟩))):Y P W N (.fieldAddr S x f) T L H (.pointer (some ⟨b,o+k,none⟩)):=fun dst pos after guard a w ha hs=>by
 simp only[execOp,ha.eval hx]
 exact bF (h.ok b o w)
theorem Y.f{S:TypeId}{f k:Nat}[h:cV P S f k]{x:Operand}{b:Nat}(hx:ev L x=some (.pointer (some ⟨b,0,none⟩))):Y P W N (.fieldAddr S x f) T L H (.pointer (some ⟨b,k,none⟩)):=by
 have:=Y.o (P:=P) (W:=W) (N:=N) (H:=H) (T:=T) (S:=S) (f:=f) (k:=k) hx
 rwa [Nat.zero_add] at this
theorem Y.z{S:TypeId}{f:Nat}[h:cV P S f 0]{x:Operand}{b o:Nat}(hx:ev L x=some (.pointer (some ⟨b,o,none⟩))):Y P W N (.fieldAddr S x f) T L H (.pointer (some ⟨b,o,none⟩)):=Y.o (k:=0) hx
theorem Y.ld{x:Operand}{b o:Nat}{v:Value}[h:One P T]{T':TypeId}(hx:ev L x=some (.pointer (some ⟨b,o,none⟩)))(hc:Cell W H b o v):Y P W N (.load T x) T' L H v:=Y.load h.ok hx hc
theorem Y.l{x:Operand}{b i:Nat}{v:Value}{cs:List Value}[h:One P T]{T':TypeId}(hx:ev L x=some (.pointer (some ⟨b,i,none⟩)))[hh:bQ H b 0 cs](hc:cs[i]?=some v:=by rfl):Y P W N (.load T x) T' L H v:=Y.load h.ok hx (Cell.a hc)
theorem Y.lo{x:Operand}{b o i:Nat}{v:Value}{cs:List Value}[h:One P T]{T':TypeId}(hx:ev L x=some (.pointer (some ⟨b,o+i,none⟩)))[hh:bQ H b o cs](hc:cs[i]?=some v:=by rfl):Y P W N (.load T x) T' L H v:=Y.load h.ok hx (Cell.ao hc)
theorem Y.lz{x:Operand}{b o:Nat}{v:Value}{cs:List Value}[h:One P T]{T':TypeId}(hx:ev L x=some (.pointer (some ⟨b,o,none⟩)))[hh:bQ H b o cs](hc:cs[0]?=some v:=by rfl):Y P W N (.load T x) T' L H v:=Y.load h.ok hx (Cell.az hc)
theorem Y.lr{α:Type}{enc:α→List Value}{k i:Nat}{v u:Value}{xs:List α}{y:α}{x:Operand}[h:One P T]{T':TypeId}(hx:ev L x=some (.pointer (some ⟨blk v,dJ v+i * k,none⟩)))(hy:xs[i]?=some y)[hr:aG W H v enc k xs](hu:(enc y)[0]?=some u:=by rfl):Y P W N (.load T x) T' L H u:=Y.load h.ok hx (Cell.G0 hr.rd hy hu)
theorem Y.la{x:Operand}{b o k:Nat}{cs:List Value}[h:kn P T][z:hY P T k]{T':TypeId}(hx:ev L x=some (.pointer (some ⟨b,o,none⟩)))(hc:Cells W H b o cs)(hz:cs.length=k:=by rfl):Y P W N (.load T x) T' L H (.agg cs.toArray):=Y.Db h.ok hx hc (by rw[hz];exact z.ok)
theorem Y.lA{x:Operand}{b o k:Nat}{cs:List Value}[h:kn P T][z:hY P T k]{T':TypeId}(hx:ev L x=some (.pointer (some ⟨b,o,none⟩)))[hh:bQ H b o cs](hz:cs.length=k:=by rfl):Y P W N (.load T x) T' L H (.agg cs.toArray):=Y.la hx Cells.a hz
theorem Y.len{α:Type}{enc:α→List Value}{k:Nat}{x:Operand}{t e:TypeId}{v:Value}{xs:List α}[hu:jF P t (.slice e)](hx:ev L x=some v)[h:aG W H v enc k xs]:Y P W N (.call ⟨.builtin .len, #[x], #[t]⟩) T L H (.int .i64 (xs.length:Int)):=Y.C7 hu.ok hx h.rd
theorem Y.lens{x:Operand}{t e:TypeId}{p:Option Addr}{n c:Nat}[hu:jF P t (.slice e)](hx:ev L x=some (.slice p n c)):Y P W N (.call ⟨.builtin .len, #[x], #[t]⟩) T L H (.int .i64 n):=Y.wg hu.ok hx
theorem Y.ix{α:Type}{enc:α→List Value}{k:Nat}{x y:Operand}{t e:TypeId}{v:Value}{xs:List α}{kd:IntKind}{j:Int}(i:Nat)[hu:jF P t (.slice e)][hz:hY P e k](hx:ev L x=some v)(hy:ev L y=some (.int kd j))[h:aG W H v enc k xs](hj:j=(i:Int))(hi:i<xs.length):Y P W N (.indexAddr t x y) T L H (.pointer (some ⟨blk v,dJ v+i * k,none⟩)):=Y.sJ i hu.ok hz.ok hx hy h.rd hj hi
theorem Y.Ky{xT e yT:TypeId}{x y:Operand}{p:Option Addr}[hu:jF P xT (.pointer e)](hx:ev L x=some (.pointer p))(hy:ev L y=some (.pointer none)):Y P W N (.binOp .eql xT x y yT) T L H (.bool p.isNone):=Y.C3 hu.ok hx hy
theorem Y.J4{xT e yT:TypeId}{x y:Operand}{p:Option Addr}[hu:jF P xT (.pointer e)](hx:ev L x=some (.pointer p))(hy:ev L y=some (.pointer none)):Y P W N (.binOp .neq xT x y yT) T L H (.bool (!p.isNone)):=Y.Bm hu.ok hx hy
theorem aJ.p{op:Op}{pos:String}{after:Array Edge}{d:Nat}{rest:List Oper}{v:Value}(hy:Y P W N op T L H v)(k:aJ P W N O Q rest ((d,some v)::L) H)(hN:Nat.blt d N=true:=by rfl):aJ P W N O Q (⟨some d,op,T,pos,after,none⟩::rest) L H:=aJ.y hN hy k
theorem aJ.g{op:Op}{pos:String}{after:Array Edge}{d j t:Nat}{want:Bool}{rest:List Oper}{v:Value}(hy:Y P W N op T L H v)(k:aJ P W N O Q rest ((d,some v)::L) H)(hj:(O[j]?).bind (·.dst)=some t:=by rfl)(ht:look L t=some (.bool want):=by rfl)(hN:Nat.blt d N=true:=by rfl):aJ P W N O Q (⟨some d,op,T,pos,after,some (j,want)⟩::rest) L H:=aJ.yg hj ht hN hy k
theorem aJ.u{op:Op}{pos:String}{after:Array Edge}{d j t:Nat}{want:Bool}{rest:List Oper}{u:Value}(k:aJ P W N O Q rest ((d,some undef)::L) H)(hj:(O[j]?).bind (·.dst)=some t:=by rfl)(ht:look L t=some u:=by rfl)(hb:(boolOf u == some want)=false:=by rfl)(hN:Nat.blt d N=true:=by rfl):aJ P W N O Q (⟨some d,op,T,pos,after,some (j,want)⟩::rest) L H:=aJ.skip hj ht hb hN k
theorem ba.p{op:Op}{pos:String}{after:Array Edge}{d:Nat}{rest:List Oper}{v:Value}(hy:Y P W N op T L H v)(k:ba P W N K O Q ks rest ((d,some v)::L) H)(hN:Nat.blt d N=true:=by rfl):ba P W N K O Q (1::ks) (⟨some d,op,T,pos,after,none⟩::rest) L H:=ba.s hN hy k
theorem ba.q{op:Op}{pos:String}{after:Array Edge}{d:Nat}{rest:List Oper}{v:Value}(hy:Y P W N op T L K v)(k:ba P W N K O Q ks rest ((d,some v)::L) H)(hN:Nat.blt d N=true:=by rfl)(hK:∀ w,Sat W w (seps H)→Sat W w (seps K):=by exact Kept.auto):ba P W N K O Q (0::ks) (⟨some d,op,T,pos,after,none⟩::rest) L H:=ba.k hN hK hy k
theorem ba.g{op:Op}{pos:String}{after:Array Edge}{d j t:Nat}{want:Bool}{rest:List Oper}{v:Value}(hy:Y P W N op T L H v)(k:ba P W N K O Q ks rest ((d,some v)::L) H)(hj:(O[j]?).bind (·.dst)=some t:=by rfl)(ht:look L t=some (.bool want):=by rfl)(hN:Nat.blt d N=true:=by rfl):ba P W N K O Q (1::ks) (⟨some d,op,T,pos,after,some (j,want)⟩::rest) L H:=ba.sg hj ht hN hy k
theorem ba.h{op:Op}{pos:String}{after:Array Edge}{d j t:Nat}{want:Bool}{rest:List Oper}{v:Value}(hy:Y P W N op T L K v)(k:ba P W N K O Q ks rest ((d,some v)::L) H)(hj:(O[j]?).bind (·.dst)=some t:=by rfl)(ht:look L t=some (.bool want):=by rfl)(hN:Nat.blt d N=true:=by rfl)(hK:∀ w,Sat W w (seps H)→Sat W w (seps K):=by exact Kept.auto):ba P W N K O Q (0::ks) (⟨some d,op,T,pos,after,some (j,want)⟩::rest) L H:=ba.kg hj ht hN hK hy k
theorem ba.u{op:Op}{pos:String}{after:Array Edge}{d j t:Nat}{want:Bool}{rest:List Oper}{u:Value}(k:ba P W N K O Q ks rest ((d,some undef)::L) H)(hj:(O[j]?).bind (·.dst)=some t:=by rfl)(ht:look L t=some u:=by rfl)(hb:(boolOf u == some want)=false:=by rfl)(hN:Nat.blt d N=true:=by rfl)(hK:∀ w,Sat W w (seps H)→Sat W w (seps K):=by exact Kept.auto):ba P W N K O Q (0::ks) (⟨some d,op,T,pos,after,some (j,want)⟩::rest) L H:=ba.IL hj ht hb hN hK k
theorem ba.w{op:Op}{pos:String}{after:Array Edge}{d j t:Nat}{want:Bool}{rest:List Oper}{u:Value}(k:ba P W N K O Q ks rest ((d,some undef)::L) H)(hj:(O[j]?).bind (·.dst)=some t:=by rfl)(ht:look L t=some u:=by rfl)(hb:(boolOf u == some want)=false:=by rfl)(hN:Nat.blt d N=true:=by rfl):ba P W N K O Q (1::ks) (⟨some d,op,T,pos,after,some (j,want)⟩::rest) L H:=ba.IM hj ht hb hN k
end
end Go.SLYthncobnjdhjnoaaGreat
namespace Go.SLYthncobnjdhjnoaaGreat
open Go Go.RowKit
structure Cb where
 kind:Int
 space:Int
 af:Int
 choice:Int
deriving DecidableEq
def J5(x:Cb):List Value:=[.int .i64 x.kind,.int .i64 x.space,.int .i64 x.af,.int .i64 x.choice]
def KP(b:Nat)(l:List Spc):aa:=qa (fun _ (xs:List (Nat×Spc))=>xs.map (·.2)=l) fun v xs=>[arr b 0 [v],sl cX 1 v xs,aO (fun x=>fX x.1 x.2) xs]
def oDo(l:List Spc)(a:Cb):Int×List Spc :=
 if a.kind=3 then (0,l.map fun s=>s.tick.2) else
 match aV l a.space with
 | none=>(1,l)
 | some s =>
  if a.kind=1 then ((s.run a.af a.choice).2.1,l.set a.space.toNat (s.run a.af a.choice).2.2) else
  if a.kind=2 then ((s.done a.choice).2.1,l.set a.space.toNat (s.done a.choice).2.2) else (1,l)
def hM(k:Nat)(l:List Spc):Prop:=∀ s∈l,jj k s
theorem hM.act{k:Nat}{l:List Spc}(h:hM k l)(hk:k≤190)(a:Cb):hM (k+1) (oDo l a).2:=by
 have hm:∀ s∈l,jj (k+1) s:=fun s hs=>(h s hs).more (Nat.le_succ _)
 unfold oDo
 split
 ·intro s hs
  obtain⟨t,ht,rfl⟩:=List.mem_map.1 hs
  exact(h t ht).tick
 ·split
  ·exact hm
  ·rename_i s e
   have hs:=h s (List.mem_of_getElem? (dj e).2.2)
   split
   ·intro t ht
    rcases List.mem_or_eq_of_mem_set ht with ht | rfl
    ·exact hm t ht
    ·exact hs.run hk _ _
   ·split
    ·intro t ht
     rcases List.mem_or_eq_of_mem_set ht with ht | rfl
     ·exact hm t ht
     ·exact hs.done _
    ·exact hm
end Go.SLYthncobnjdhjnoaaGreat
namespace Go.SLYthncobnjdhjnoaaGreat
open Go Go.RowKit
inductive CY:Nat→Prop where
 | mk (n:Nat):CY n
theorem CY.s{n:Nat}(_:CY (n+1)):CY n:=.mk n
structure Hid(G:Prop):Prop where
 go:G
inductive IH{X:Type}:X→Prop where
 | mk (x:X):IH x
section
variable{P:Program}{W:World}{N:Nat}{Q:Exit→Act→World→Prop}{L:List (Nat×Option Value)}{H:List aa}{O:Array Oper}{T:TypeId}{K:List aa}{ks:List Nat}{rest:List Oper}
theorem Y.y{op:Op}{v:Value}(h:Y P W N op T L H v:=by first | exact .m rfl | exact .a rfl | exact .n rfl | exact .l rfl | exact .z rfl | exact .f rfl | exact .o rfl | exact .eql rfl rfl | exact .t rfl rfl | exact .u rfl rfl | exact .lr rfl ‹_› | exact .lA rfl | exact .len rfl | exact .lss rfl rfl | exact .extract rfl rfl | exact .Ky rfl rfl | exact .neq rfl rfl | exact .JI rfl | exact .not rfl | exact .geq rfl rfl | exact .gtr rfl rfl | exact .leq rfl rfl | exact .J4 rfl rfl | exact .lo rfl | exact .lz rfl | exact .lens rfl | exact .la rfl (Cells.rd Rd.s ‹_›) | exact .ix _ rfl rfl rfl (by first | omega | decide) | exact .inc rfl rfl (by omega) | exact .sub rfl rfl (by omega)):Y P W N op T L H v:=h
theorem aJ.c{f:FuncId}{xs:Array Operand}{ts:Array TypeId}{pos:String}{after:Array Edge}{d:Nat}{args:List Value}{pre R:List aa}{X:Type}{val:X→Value}{fact:X→Prop}{post:X→List aa}
  (hc:∀ args w,(callFunc f args).run P w = .ok (.enter f args) w) (hx:evs L xs.toList=some args) (hfn:Fn P W f args pre X val fact post) (h:∀ x,fact x→aJ P W N O Q rest ((d,some (val x))::L) (post x++R)) (ht:au H pre R:=by exact au.auto) (hN:Nat.blt d N=true:=by rfl):aJ P W N O Q (⟨some d,.call ⟨.value (.func f),xs,ts⟩,T,pos,after,none⟩::rest) L H :=
 .ai rfl (ab.dX hN hc hx hfn ht) fun _ _ e=>by obtain⟨y,hy,rfl,rfl⟩:=e;exact h y hy
theorem aJ.cg{f:FuncId}{xs:Array Operand}{ts:Array TypeId}{pos:String}{after:Array Edge}{d j t:Nat}{want:Bool}{args:List Value}{pre R:List aa}{X:Type}{val:X→Value}{fact:X→Prop}{post:X→List aa}
  (hc:∀ args w,(callFunc f args).run P w = .ok (.enter f args) w) (hx:evs L xs.toList=some args) (hfn:Fn P W f args pre X val fact post) (h:∀ x,fact x→aJ P W N O Q rest ((d,some (val x))::L) (post x++R)) (ht:au H pre R:=by exact au.auto) (hj:(O[j]?).bind (·.dst)=some t:=by rfl) (hb:look L t=some (.bool want):=by rfl) (hN:Nat.blt d N=true:=by rfl):aJ P W N O Q (⟨some d,.call ⟨.value (.func f),xs,ts⟩,T,pos,after,some (j,want)⟩::rest) L H :=
 .dg rfl hj hb (ab.dX hN hc hx hfn ht) fun _ _ e=>by obtain⟨y,hy,rfl,rfl⟩:=e;exact h y hy
theorem ba.c{f:FuncId}{xs:Array Operand}{ts:Array TypeId}{pos:String}{after:Array Edge}{d:Nat}{args:List Value}{pre R:List aa}{X:Type}{val:X→Value}{fact:X→Prop}{post:X→List aa}
  (hc:∀ args w,(callFunc f args).run P w = .ok (.enter f args) w) (hx:evs L xs.toList=some args) (hfn:Fn P W f args pre X val fact post) (h:∀ x,fact x→ba P W N K O Q ks rest ((d,some (val x))::L) (post x++R)) (ht:au H pre R:=by exact au.auto) (hN:Nat.blt d N=true:=by rfl):ba P W N K O Q (3::ks) (⟨some d,.call ⟨.value (.func f),xs,ts⟩,T,pos,after,none⟩::rest) L H :=
 .d3 rfl (ab.dX hN hc hx hfn ht) fun _ _ e=>by obtain⟨y,hy,rfl,rfl⟩:=e;exact h y hy
theorem ba.c2{f:FuncId}{xs:Array Operand}{ts:Array TypeId}{pos:String}{after:Array Edge}{d:Nat}{args:List Value}{pre R:List aa}{X:Type}{val:X→Value}{fact:X→Prop}{post:X→List aa}
  (hc:∀ args w,(callFunc f args).run P w = .ok (.enter f args) w) (hx:evs L xs.toList=some args) (hfn:Fn P W f args pre X val fact post) (h:∀ x,fact x→ba P W N K O Q ks rest ((d,some (val x))::L) (post x++R)) (ht:au H pre R:=by exact au.auto) (hN:Nat.blt d N=true:=by rfl) (hK:∀ w,Sat W w (seps H)→Sat W w (seps K):=by exact Kept.auto) (hK2:∀ x,fact x→ ∀ w,Sat W w (seps (post x++R))→Sat W w (seps K):=by intro _ _;exact Kept.auto):ba P W N K O Q (2::ks) (⟨some d,.call ⟨.value (.func f),xs,ts⟩,T,pos,after,none⟩::rest) L H :=
 .d2 rfl hK (ab.dX hN hc hx hfn ht) (fun _ _ e=>by obtain⟨y,hy,rfl,rfl⟩:=e;exact hK2 y hy) fun _ _ e=>by obtain⟨y,hy,rfl,rfl⟩:=e;exact h y hy
section
variable{fn:Func}{X:Type}{val:X→Value}{fact:X→Prop}{post:X→List aa}{F:aa}{R:List aa}{x:X}
theorem bq.w1{t:Nat}{v:Value}(_:IH x)(hf:fact x:=by exact trivial)(hr:fn.results = #[.tmp t]:=by rfl)(ht:look L t=some v:=by rfl)(hv:v=val x:=by rfl)(he:au H (post x++[F]) R:=by exact au.auto):bq W N (bodyPost P fn (fun e w'=>∃ x,e = .returned (val x)∧fact x∧Sat W w' (sep (seps (post x)) F))) .ret L H :=
 .aP hr ht fun _ s=>⟨x,by rw[hv],hf,aj he s⟩
theorem bq.w2{t1 t2:Nat}{v1 v2:Value}(_:IH x)(hf:fact x:=by exact trivial)(hr:fn.results = #[.tmp t1,.tmp t2]:=by rfl)(h1:look L t1=some v1:=by rfl)(h2:look L t2=some v2:=by rfl)(hv:Value.tuple #[v1,v2]=val x:=by rfl)(he:au H (post x++[F]) R:=by exact au.auto):bq W N (bodyPost P fn (fun e w'=>∃ x,e = .returned (val x)∧fact x∧Sat W w' (sep (seps (post x)) F))) .ret L H :=
 .eO hr h1 h2 fun _ s=>⟨x,by rw[hv],hf,aj he s⟩
theorem bq.w0(_:IH x)(hf:fact x:=by exact trivial)(hr:fn.results = #[]:=by rfl)(hv:Value.tuple #[]=val x:=by rfl)(he:au H (post x++[F]) R:=by exact au.auto):bq W N (bodyPost P fn (fun e w'=>∃ x,e = .returned (val x)∧fact x∧Sat W w' (sep (seps (post x)) F))) .normal L H :=
 .Bn hr fun _ s=>⟨x,by rw[hv],hf,aj he s⟩
theorem bq.wr(_:IH x)(hf:fact x:=by exact trivial)(hr:fn.results = #[]:=by rfl)(hv:Value.tuple #[]=val x:=by rfl)(he:au H (post x++[F]) R:=by exact au.auto):bq W N (bodyPost P fn (fun e w'=>∃ x,e = .returned (val x)∧fact x∧Sat W w' (sep (seps (post x)) F))) .ret L H :=
 .Hv hr fun _ s=>⟨x,by rw[hv],hf,aj he s⟩
end
end
theorem J{G G':Prop}(n:Nat)(k:G')(f:CY n→Hid G'→G:=by intro c h;(repeat (replace c:=CY.s c;first | refine .p .y ?_ | refine .n ?_ | refine .s ?_ | refine .r ?_ | refine .b ?_ | refine .t ?_ | refine .e ?_ | refine .u ?_ | refine .g .y ?_ | refine .v ?_ | refine .br ?_ | refine .tr ?_ | refine .q .y ?_ | refine .w ?_ | refine .h .y ?_ | refine .x ?_ | refine .bh ?_ | refine .bp rfl ?_ | refine .tx ?_ | (refine .ai rfl (ab.st hY.ok rfl rfl rfl rfl) ?_;rintro _ _ ⟨rfl,rfl⟩) | (refine .d3 rfl (ab.st hY.ok rfl rfl rfl rfl) ?_;rintro _ _ ⟨rfl,rfl⟩) | (refine .d2 rfl Kept.auto (ab.st hY.ok rfl rfl rfl rfl) (by rintro _ _ ⟨rfl,rfl⟩;exact Kept.auto) ?_;rintro _ _ ⟨rfl,rfl⟩) | (refine .ai rfl (ab.gC (by exact hY.ok) rfl rfl rfl (by rfl)) ?_;rintro _ _ ⟨rfl,rfl⟩)));exact h.go):G:=f (.mk n) ⟨k⟩
theorem JD{G p q G1 G2:Prop}(n:Nat)(k1:p→G1)(k2:q→G2)(f:CY n→Hid (p→G1)→Hid (q→G2)→G:=by intro c h1 h2;(repeat (replace c:=CY.s c;first | refine .p .y ?_ | refine .n ?_ | refine .s ?_ | refine .r ?_ | refine .b ?_ | refine .t ?_ | refine .e ?_ | refine .u ?_ | refine .g .y ?_ | refine .v ?_ | refine .br ?_ | refine .tr ?_ | refine .q .y ?_ | refine .w ?_ | refine .h .y ?_ | refine .x ?_ | refine .bh ?_ | refine .bp rfl ?_ | refine .tx ?_ | (refine .ai rfl (ab.st hY.ok rfl rfl rfl rfl) ?_;rintro _ _ ⟨rfl,rfl⟩) | (refine .d3 rfl (ab.st hY.ok rfl rfl rfl rfl) ?_;rintro _ _ ⟨rfl,rfl⟩) | (refine .d2 rfl Kept.auto (ab.st hY.ok rfl rfl rfl rfl) (by rintro _ _ ⟨rfl,rfl⟩;exact Kept.auto) ?_;rintro _ _ ⟨rfl,rfl⟩) | (refine .ai rfl (ab.gC (by exact hY.ok) rfl rfl rfl (by rfl)) ?_;rintro _ _ ⟨rfl,rfl⟩)));first | exact .dK rfl h1.go h2.go | exact .cond rfl h1.go h2.go):G:=f (.mk n) ⟨k1⟩ ⟨k2⟩
theorem JR{G:Prop}{X:Type}(n:Nat)(x:X)(f:CY n→IH x→G:=by intro c h;(repeat (replace c:=CY.s c;first | refine .p .y ?_ | refine .n ?_ | refine .s ?_ | refine .r ?_ | refine .b ?_ | refine .t ?_ | refine .e ?_ | refine .u ?_ | refine .g .y ?_ | refine .v ?_ | refine .br ?_ | refine .tr ?_ | refine .q .y ?_ | refine .w ?_ | refine .h .y ?_ | refine .x ?_ | refine .bh ?_ | refine .bp rfl ?_ | refine .tx ?_ | (refine .ai rfl (ab.st hY.ok rfl rfl rfl rfl) ?_;rintro _ _ ⟨rfl,rfl⟩) | (refine .d3 rfl (ab.st hY.ok rfl rfl rfl rfl) ?_;rintro _ _ ⟨rfl,rfl⟩) | (refine .d2 rfl Kept.auto (ab.st hY.ok rfl rfl rfl rfl) (by rintro _ _ ⟨rfl,rfl⟩;exact Kept.auto) ?_;rintro _ _ ⟨rfl,rfl⟩) | (refine .ai rfl (ab.gC (by exact hY.ok) rfl rfl rfl (by rfl)) ?_;rintro _ _ ⟨rfl,rfl⟩)));first | exact .w1 h | exact .w2 h | exact .w0 h | exact .wr h):G:=f (.mk n) (.mk x)
theorem JS{G:Prop}(n:Nat)(f:CY n→G:=by intro c;(repeat (replace c:=CY.s c;first | refine .p .y ?_ | refine .n ?_ | refine .s ?_ | refine .r ?_ | refine .b ?_ | refine .t ?_ | refine .e ?_ | refine .u ?_ | refine .g .y ?_ | refine .v ?_ | refine .br ?_ | refine .tr ?_ | refine .q .y ?_ | refine .w ?_ | refine .h .y ?_ | refine .x ?_ | refine .bh ?_ | refine .bp rfl ?_ | refine .tx ?_ | (refine .ai rfl (ab.st hY.ok rfl rfl rfl rfl) ?_;rintro _ _ ⟨rfl,rfl⟩) | (refine .d3 rfl (ab.st hY.ok rfl rfl rfl rfl) ?_;rintro _ _ ⟨rfl,rfl⟩) | (refine .d2 rfl Kept.auto (ab.st hY.ok rfl rfl rfl rfl) (by rintro _ _ ⟨rfl,rfl⟩;exact Kept.auto) ?_;rintro _ _ ⟨rfl,rfl⟩) | (refine .ai rfl (ab.gC (by exact hY.ok) rfl rfl rfl (by rfl)) ?_;rintro _ _ ⟨rfl,rfl⟩)));first | exact .yy .auto rfl (fun _ h=>h) | exact .yy .auto rfl (au.kept .auto)):G:=f (.mk n)
end Go.SLYthncobnjdhjnoaaGreat
namespace Go.SLYthncobnjdhjnoaaGreat
open Go Go.RowKit Go.Proofs Go.Proofs.Tryz
instance:jF Tryz.prog 22 (.slice 60):=⟨underlying22⟩
instance:jF Tryz.prog 23 (.slice 30):=⟨underlying23⟩
instance:jF Tryz.prog 24 (.pointer 85):=⟨underlying24⟩
instance:jF Tryz.prog 33 (.slice 3):=⟨underlying33⟩
instance:jF Tryz.prog 42 (.pointer 95):=⟨underlying42⟩
instance:jF Tryz.prog 50 (.slice 52):=⟨underlying50⟩
instance:jF Tryz.prog 53 (.slice 104):=⟨underlying53⟩
instance:jF Tryz.prog 54 (.pointer 114):=⟨underlying54⟩
instance:jF Tryz.prog 58 (.slice 89):=⟨underlying58⟩
instance:jF Tryz.prog 61 (.slice 66):=⟨underlying61⟩
instance:jF Tryz.prog 71 (.slice 80):=⟨underlying71⟩
instance:jF Tryz.prog 83 (.slice 42):=⟨underlying83⟩
instance:jF Tryz.prog 89 (.slice 88):=⟨underlying89⟩
instance:jF Tryz.prog 92 (.pointer 178):=⟨underlying92⟩
instance:jF Tryz.prog 93 (.slice 76):=⟨underlying93⟩
instance:jF Tryz.prog 105 (.pointer 153):=⟨underlying105⟩
instance:jF Tryz.prog 106 (.pointer 143):=⟨underlying106⟩
instance:jF Tryz.prog 108 (.slice 86):=⟨underlying108⟩
instance:jF Tryz.prog 109 (.pointer 159):=⟨underlying109⟩
instance:jF Tryz.prog 110 (.slice 122):=⟨underlying110⟩
instance:jF Tryz.prog 111 (.pointer 167):=⟨underlying111⟩
instance:jF Tryz.prog 112 (.pointer 170):=⟨underlying112⟩
instance:jF Tryz.prog 122 (.pointer 173):=⟨underlying122⟩
instance:jF Tryz.prog 151 (.slice 210):=⟨underlying151⟩
instance:jF Tryz.prog 154 (.slice 278):=⟨underlying154⟩
instance:jF Tryz.prog 156 (.slice 162):=⟨underlying156⟩
instance:jF Tryz.prog 157 (.slice 164):=⟨underlying157⟩
instance:jF Tryz.prog 160 (.slice 274):=⟨underlying160⟩
instance:jF Tryz.prog 165 (.slice 145):=⟨underlying165⟩
instance:jF Tryz.prog 171 (.slice 319):=⟨underlying171⟩
instance:jF Tryz.prog 176 (.slice 179):=⟨underlying176⟩
instance:jF Tryz.prog 179 (.pointer 213):=⟨underlying179⟩
instance:jF Tryz.prog 224 (.slice 71):=⟨underlying224⟩
instance:jF Tryz.prog 271 (.pointer 162):=⟨underlying271⟩
instance:jF Tryz.prog 292 (.pointer 278):=⟨underlying292⟩
instance:jF Tryz.prog 297 (.pointer 164):=⟨underlying297⟩
instance:hY Tryz.prog 3 1:=⟨sizeOf3⟩
instance:hY Tryz.prog 4 1:=⟨sizeOf4⟩
instance:hY Tryz.prog 25 1:=⟨sizeOf25⟩
instance:hY Tryz.prog 30 3:=⟨sizeOf30⟩
instance:hY Tryz.prog 35 4:=⟨sizeOf35⟩
instance:hY Tryz.prog 37 6:=⟨sizeOf37⟩
instance:hY Tryz.prog 42 1:=⟨sizeOf42⟩
instance:hY Tryz.prog 52 3:=⟨sizeOf52⟩
instance:hY Tryz.prog 60 8:=⟨sizeOf60⟩
instance:hY Tryz.prog 66 3:=⟨sizeOf66⟩
instance:hY Tryz.prog 71 1:=⟨sizeOf71⟩
instance:hY Tryz.prog 76 3:=⟨sizeOf76⟩
instance:hY Tryz.prog 80 3:=⟨sizeOf80⟩
instance:hY Tryz.prog 86 1:=⟨sizeOf86⟩
instance:hY Tryz.prog 88 5:=⟨sizeOf88⟩
instance:hY Tryz.prog 89 1:=⟨sizeOf89⟩
instance:hY Tryz.prog 107 16:=⟨sizeOf107⟩
instance:hY Tryz.prog 108 1:=⟨sizeOf108⟩
instance:hY Tryz.prog 122 1:=⟨sizeOf122⟩
instance:hY Tryz.prog 141 10:=⟨sizeOf141⟩
instance:hY Tryz.prog 145 4:=⟨sizeOf145⟩
instance:hY Tryz.prog 162 1:=⟨sizeOf162⟩
instance:hY Tryz.prog 164 2:=⟨sizeOf164⟩
instance:hY Tryz.prog 179 1:=⟨sizeOf179⟩
instance:hY Tryz.prog 204 4:=⟨sizeOf204⟩
instance:hY Tryz.prog 210 2:=⟨sizeOf210⟩
instance:hY Tryz.prog 258 1:=⟨sizeOf258⟩
instance:hY Tryz.prog 274 2:=⟨sizeOf274⟩
instance:hY Tryz.prog 278 3:=⟨sizeOf278⟩
instance:hY Tryz.prog 319 2:=⟨sizeOf319⟩
instance:One Tryz.prog 3:=⟨isAgg3⟩
instance:One Tryz.prog 4:=⟨isAgg4⟩
instance:One Tryz.prog 25:=⟨isAgg25⟩
instance:One Tryz.prog 33:=⟨isAgg33⟩
instance:One Tryz.prog 42:=⟨isAgg42⟩
instance:One Tryz.prog 53:=⟨isAgg53⟩
instance:One Tryz.prog 54:=⟨isAgg54⟩
instance:One Tryz.prog 58:=⟨isAgg58⟩
instance:One Tryz.prog 71:=⟨isAgg71⟩
instance:One Tryz.prog 83:=⟨isAgg83⟩
instance:One Tryz.prog 86:=⟨isAgg86⟩
instance:One Tryz.prog 89:=⟨isAgg89⟩
instance:One Tryz.prog 92:=⟨isAgg92⟩
instance:One Tryz.prog 93:=⟨isAgg93⟩
instance:One Tryz.prog 105:=⟨isAgg105⟩
instance:One Tryz.prog 106:=⟨isAgg106⟩
instance:One Tryz.prog 108:=⟨isAgg108⟩
instance:One Tryz.prog 109:=⟨isAgg109⟩
instance:One Tryz.prog 110:=⟨isAgg110⟩
instance:One Tryz.prog 111:=⟨isAgg111⟩
instance:One Tryz.prog 112:=⟨isAgg112⟩
instance:One Tryz.prog 122:=⟨isAgg122⟩
instance:One Tryz.prog 151:=⟨isAgg151⟩
instance:One Tryz.prog 154:=⟨isAgg154⟩
instance:One Tryz.prog 156:=⟨isAgg156⟩
instance:One Tryz.prog 157:=⟨isAgg157⟩
instance:One Tryz.prog 160:=⟨isAgg160⟩
instance:One Tryz.prog 165:=⟨isAgg165⟩
instance:One Tryz.prog 168:=⟨isAgg168⟩
instance:One Tryz.prog 171:=⟨isAgg171⟩
instance:One Tryz.prog 176:=⟨isAgg176⟩
instance:One Tryz.prog 179:=⟨isAgg179⟩
instance:kn Tryz.prog 35:=⟨isAgg35⟩
instance:kn Tryz.prog 37:=⟨isAgg37⟩
instance:kn Tryz.prog 60:=⟨isAgg60⟩
instance:kn Tryz.prog 66:=⟨isAgg66⟩
instance:kn Tryz.prog 76:=⟨isAgg76⟩
instance:kn Tryz.prog 80:=⟨isAgg80⟩
instance:kn Tryz.prog 88:=⟨isAgg88⟩
instance:kn Tryz.prog 107:=⟨isAgg107⟩
instance:kn Tryz.prog 141:=⟨isAgg141⟩
instance:kn Tryz.prog 145:=⟨isAgg145⟩
instance:kn Tryz.prog 162:=⟨isAgg162⟩
instance:kn Tryz.prog 164:=⟨isAgg164⟩
instance:kn Tryz.prog 204:=⟨isAgg204⟩
instance:kn Tryz.prog 210:=⟨isAgg210⟩
instance:kn Tryz.prog 274:=⟨isAgg274⟩
instance:kn Tryz.prog 278:=⟨isAgg278⟩
instance:kn Tryz.prog 319:=⟨isAgg319⟩
instance:cV Tryz.prog 30 0 0:=⟨ae (t:=3) underlying30 rfl sizeOf3⟩
instance:cV Tryz.prog 30 1 1:=⟨ae (t:=3) underlying30 rfl sizeOf3⟩
instance:cV Tryz.prog 30 2 2:=⟨ae (t:=3) underlying30 rfl sizeOf3⟩
instance:cV Tryz.prog 35 0 0:=⟨ae (t:=33) underlying35 rfl sizeOf33⟩
instance:cV Tryz.prog 35 1 1:=⟨ae (t:=4) underlying35 rfl sizeOf4⟩
instance:cV Tryz.prog 35 2 2:=⟨ae (t:=4) underlying35 rfl sizeOf4⟩
instance:cV Tryz.prog 35 3 3:=⟨ae (t:=4) underlying35 rfl sizeOf4⟩
instance:cV Tryz.prog 37 0 0:=⟨ae (t:=4) underlying37 rfl sizeOf4⟩
instance:cV Tryz.prog 37 2 2:=⟨ae (t:=35) underlying37 rfl sizeOf35⟩
instance:cV Tryz.prog 52 1 1:=⟨ae (t:=3) underlying52 rfl sizeOf3⟩
instance:cV Tryz.prog 52 2 2:=⟨ae (t:=3) underlying52 rfl sizeOf3⟩
instance:cV Tryz.prog 60 0 0:=⟨ae (t:=58) underlying60 rfl sizeOf58⟩
instance:cV Tryz.prog 60 1 1:=⟨ae (t:=3) underlying60 rfl sizeOf3⟩
instance:cV Tryz.prog 60 2 2:=⟨ae (t:=3) underlying60 rfl sizeOf3⟩
instance:cV Tryz.prog 60 3 3:=⟨ae (t:=3) underlying60 rfl sizeOf3⟩
instance:cV Tryz.prog 60 4 4:=⟨ae (t:=33) underlying60 rfl sizeOf33⟩
instance:cV Tryz.prog 60 5 5:=⟨ae (t:=33) underlying60 rfl sizeOf33⟩
instance:cV Tryz.prog 60 6 6:=⟨ae (t:=3) underlying60 rfl sizeOf3⟩
instance:cV Tryz.prog 60 7 7:=⟨ae (t:=3) underlying60 rfl sizeOf3⟩
instance:cV Tryz.prog 66 0 0:=⟨ae (t:=3) underlying66 rfl sizeOf3⟩
instance:cV Tryz.prog 66 1 1:=⟨ae (t:=3) underlying66 rfl sizeOf3⟩
instance:cV Tryz.prog 66 2 2:=⟨ae (t:=3) underlying66 rfl sizeOf3⟩
instance:cV Tryz.prog 76 0 0:=⟨ae (t:=3) underlying76 rfl sizeOf3⟩
instance:cV Tryz.prog 76 1 1:=⟨ae (t:=3) underlying76 rfl sizeOf3⟩
instance:cV Tryz.prog 76 2 2:=⟨ae (t:=71) underlying76 rfl sizeOf71⟩
instance:cV Tryz.prog 80 0 0:=⟨ae (t:=3) underlying80 rfl sizeOf3⟩
instance:cV Tryz.prog 80 1 1:=⟨ae (t:=3) underlying80 rfl sizeOf3⟩
instance:cV Tryz.prog 80 2 2:=⟨ae (t:=3) underlying80 rfl sizeOf3⟩
instance:cV Tryz.prog 85 0 0:=⟨ae (t:=33) underlying85 rfl sizeOf33⟩
instance:cV Tryz.prog 85 1 1:=⟨ae (t:=83) underlying85 rfl sizeOf83⟩
instance:cV Tryz.prog 88 0 0:=⟨ae (t:=3) underlying88 rfl sizeOf3⟩
instance:cV Tryz.prog 88 1 1:=⟨ae (t:=3) underlying88 rfl sizeOf3⟩
instance:cV Tryz.prog 88 2 2:=⟨ae (t:=3) underlying88 rfl sizeOf3⟩
instance:cV Tryz.prog 88 3 3:=⟨ae (t:=3) underlying88 rfl sizeOf3⟩
instance:cV Tryz.prog 88 4 4:=⟨ae (t:=86) underlying88 rfl sizeOf86⟩
instance:cV Tryz.prog 95 0 0:=⟨ae (t:=54) underlying95 rfl sizeOf54⟩
instance:cV Tryz.prog 95 1 1:=⟨ae (t:=92) underlying95 rfl sizeOf92⟩
instance:cV Tryz.prog 95 2 2:=⟨ae (t:=93) underlying95 rfl sizeOf93⟩
instance:cV Tryz.prog 95 3 3:=⟨ae (t:=71) underlying95 rfl sizeOf71⟩
instance:cV Tryz.prog 95 4 4:=⟨ae (t:=4) underlying95 rfl sizeOf4⟩
instance:cV Tryz.prog 114 0 0:=⟨ae (t:=60) underlying114 rfl sizeOf60⟩
instance:cV Tryz.prog 114 1 8:=⟨ae (t:=105) underlying114 rfl sizeOf105⟩
instance:cV Tryz.prog 114 2 9:=⟨ae (t:=107) underlying114 rfl sizeOf107⟩
instance:cV Tryz.prog 114 3 25:=⟨ae (t:=108) underlying114 rfl sizeOf108⟩
instance:cV Tryz.prog 114 4 26:=⟨ae (t:=109) underlying114 rfl sizeOf109⟩
instance:cV Tryz.prog 114 5 27:=⟨ae (t:=110) underlying114 rfl sizeOf110⟩
instance:cV Tryz.prog 114 6 28:=⟨ae (t:=111) underlying114 rfl sizeOf111⟩
instance:cV Tryz.prog 114 7 29:=⟨ae (t:=112) underlying114 rfl sizeOf112⟩
instance:cV Tryz.prog 114 8 30:=⟨ae (t:=53) underlying114 rfl sizeOf53⟩
instance:cV Tryz.prog 141 0 0:=⟨ae (t:=3) underlying141 rfl sizeOf3⟩
instance:cV Tryz.prog 141 1 1:=⟨ae (t:=3) underlying141 rfl sizeOf3⟩
instance:cV Tryz.prog 141 2 2:=⟨ae (t:=139) underlying141 rfl sizeOf139⟩
instance:cV Tryz.prog 143 0 0:=⟨ae (t:=141) underlying143 rfl sizeOf141⟩
instance:cV Tryz.prog 143 1 10:=⟨ae (t:=86) underlying143 rfl sizeOf86⟩
instance:cV Tryz.prog 143 2 11:=⟨ae (t:=3) underlying143 rfl sizeOf3⟩
instance:cV Tryz.prog 143 3 12:=⟨ae (t:=86) underlying143 rfl sizeOf86⟩
instance:cV Tryz.prog 143 4 13:=⟨ae (t:=4) underlying143 rfl sizeOf4⟩
instance:cV Tryz.prog 143 5 14:=⟨ae (t:=3) underlying143 rfl sizeOf3⟩
instance:cV Tryz.prog 143 6 15:=⟨ae (t:=3) underlying143 rfl sizeOf3⟩
instance:cV Tryz.prog 143 7 16:=⟨ae (t:=3) underlying143 rfl sizeOf3⟩
instance:cV Tryz.prog 145 0 0:=⟨ae (t:=3) underlying145 rfl sizeOf3⟩
instance:cV Tryz.prog 145 1 1:=⟨ae (t:=3) underlying145 rfl sizeOf3⟩
instance:cV Tryz.prog 145 2 2:=⟨ae (t:=4) underlying145 rfl sizeOf4⟩
instance:cV Tryz.prog 145 3 3:=⟨ae (t:=86) underlying145 rfl sizeOf86⟩
instance:cV Tryz.prog 153 0 0:=⟨ae (t:=151) underlying153 rfl sizeOf151⟩
instance:cV Tryz.prog 159 0 0:=⟨ae (t:=154) underlying159 rfl sizeOf154⟩
instance:cV Tryz.prog 159 1 1:=⟨ae (t:=156) underlying159 rfl sizeOf156⟩
instance:cV Tryz.prog 159 2 2:=⟨ae (t:=157) underlying159 rfl sizeOf157⟩
instance:cV Tryz.prog 162 0 0:=⟨ae (t:=160) underlying162 rfl sizeOf160⟩
instance:cV Tryz.prog 164 0 0:=⟨ae (t:=162) underlying164 rfl sizeOf162⟩
instance:cV Tryz.prog 164 1 1:=⟨ae (t:=3) underlying164 rfl sizeOf3⟩
instance:cV Tryz.prog 167 0 0:=⟨ae (t:=108) underlying167 rfl sizeOf108⟩
instance:cV Tryz.prog 167 1 1:=⟨ae (t:=165) underlying167 rfl sizeOf165⟩
instance:cV Tryz.prog 170 0 0:=⟨ae (t:=3) underlying170 rfl sizeOf3⟩
instance:cV Tryz.prog 170 1 1:=⟨ae (t:=168) underlying170 rfl sizeOf168⟩
instance:cV Tryz.prog 173 0 0:=⟨ae (t:=3) underlying173 rfl sizeOf3⟩
instance:cV Tryz.prog 173 1 1:=⟨ae (t:=108) underlying173 rfl sizeOf108⟩
instance:cV Tryz.prog 173 2 2:=⟨ae (t:=171) underlying173 rfl sizeOf171⟩
instance:cV Tryz.prog 173 3 3:=⟨ae (t:=33) underlying173 rfl sizeOf33⟩
instance:cV Tryz.prog 178 0 0:=⟨ae (t:=176) underlying178 rfl sizeOf176⟩
instance:cV Tryz.prog 202 0 0:=⟨ae (t:=3) underlying202 rfl sizeOf3⟩
instance:cV Tryz.prog 202 1 1:=⟨ae (t:=33) underlying202 rfl sizeOf33⟩
instance:cV Tryz.prog 202 2 2:=⟨ae (t:=33) underlying202 rfl sizeOf33⟩
instance:cV Tryz.prog 202 3 3:=⟨ae (t:=33) underlying202 rfl sizeOf33⟩
instance:cV Tryz.prog 204 0 0:=⟨ae (t:=3) underlying204 rfl sizeOf3⟩
instance:cV Tryz.prog 204 1 1:=⟨ae (t:=4) underlying204 rfl sizeOf4⟩
instance:cV Tryz.prog 204 2 2:=⟨ae (t:=3) underlying204 rfl sizeOf3⟩
instance:cV Tryz.prog 204 3 3:=⟨ae (t:=4) underlying204 rfl sizeOf4⟩
instance:cV Tryz.prog 210 0 0:=⟨ae (t:=4) underlying210 rfl sizeOf4⟩
instance:cV Tryz.prog 210 1 1:=⟨ae (t:=86) underlying210 rfl sizeOf86⟩
instance:cV Tryz.prog 213 0 0:=⟨ae (t:=33) underlying213 rfl sizeOf33⟩
instance:cV Tryz.prog 230 0 0:=⟨ae (t:=54) underlying230 rfl sizeOf54⟩
instance:cV Tryz.prog 230 1 1:=⟨ae (t:=3) underlying230 rfl sizeOf3⟩
instance:cV Tryz.prog 230 2 2:=⟨ae (t:=106) underlying230 rfl sizeOf106⟩
instance:cV Tryz.prog 230 3 3:=⟨ae (t:=88) underlying230 rfl sizeOf88⟩
instance:cV Tryz.prog 230 4 8:=⟨ae (t:=3) underlying230 rfl sizeOf3⟩
instance:cV Tryz.prog 230 5 9:=⟨ae (t:=35) underlying230 rfl sizeOf35⟩
instance:cV Tryz.prog 230 6 13:=⟨ae (t:=53) underlying230 rfl sizeOf53⟩
instance:cV Tryz.prog 258 0 0:=⟨ae (t:=25) underlying258 rfl sizeOf25⟩
instance:cV Tryz.prog 261 0 0:=⟨ae (t:=141) underlying261 rfl sizeOf141⟩
instance:cV Tryz.prog 261 1 10:=⟨ae (t:=108) underlying261 rfl sizeOf108⟩
instance:cV Tryz.prog 274 0 0:=⟨ae (t:=3) underlying274 rfl sizeOf3⟩
instance:cV Tryz.prog 274 1 1:=⟨ae (t:=3) underlying274 rfl sizeOf3⟩
instance:cV Tryz.prog 278 0 0:=⟨ae (t:=162) underlying278 rfl sizeOf162⟩
instance:cV Tryz.prog 278 1 1:=⟨ae (t:=4) underlying278 rfl sizeOf4⟩
instance:cV Tryz.prog 278 2 2:=⟨ae (t:=3) underlying278 rfl sizeOf3⟩
instance:cV Tryz.prog 319 0 0:=⟨ae (t:=3) underlying319 rfl sizeOf3⟩
instance:cV Tryz.prog 319 1 1:=⟨ae (t:=86) underlying319 rfl sizeOf86⟩
end Go.SLYthncobnjdhjnoaaGreat
